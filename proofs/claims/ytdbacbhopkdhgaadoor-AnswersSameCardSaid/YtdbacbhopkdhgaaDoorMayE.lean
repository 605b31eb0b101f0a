/- Which entries may be. No condition. -/
import Derived.Test.YtdbacbhopkdhgaaDoorName
namespace Go.Tr
open Go.RowKit Go.Proofs
set_option linter.unusedVariables false
def entB (e : Ent) : Bool := nameB e.name && (wordB e.ino && wordB e.gen)
def mayEntsB (el : List Ent) : Bool := decide (el.length ≤ 64) && el.all entB
theorem all_take {l : List Ent} {k : Nat} {c : Ent} (h : (l.take k).all entB = true) (hc : l[k]? = some c) : (l.take (k + 1)).all entB = entB c := by
  rw [List.take_add_one, hc, List.all_append, h]
  simp
theorem ent_bad {l : List Ent} {k : Nat} {c : Ent} (hc : l[k]? = some c) (hb : entB c = false) : l.all entB = false := by
  rw [List.all_eq_false]
  exact ⟨c, List.mem_of_getElem? hc, by simp [hb]⟩
set_option maxHeartbeats 2000000 in
theorem mayEnts_c (v : Value) (el : List Ent) (w : World) (h : ES w v el) (hn : ∀ e ∈ el, e.name.size ≤ 1000000) (hm : el.length ≤ 1000000) : Calls Tryd.prog 46 #[v] w fun e w' => e = .returned (.bool (mayEntsB el)) ∧ w.grownBy w' none := by
  obtain ⟨b, hb⟩ : ∃ b, mayEntsB el = b := ⟨_, rfl⟩
  have HB := hide hb
  rw [hb]
  clear hb
  obtain ⟨A, c, rfl, hA, hnn, hc⟩ := OwnE.shape h
  obtain ⟨n, hnl⟩ : ∃ n, el.length = n := ⟨_, rfl⟩
  have H := hide h
  have HA := hide hA
  have HN := hide hnn
  have HL := hide hnl
  have HE := hide hn
  rw [hnl] at hc hm ⊢
  clear h hA hnn hnl hn
  by_cases h64 : n ≤ 64
  case neg =>
    have hfin : mayEntsB el = false := by
      unfold mayEntsB
      rw [HL.out, decide_eq_false h64]
      rfl
    have HF := hide hfin
    clear hfin
    go_enter Tryd.func46, Tryd.ntmps46
    go_wp2_with fail
    go_ret
    exact ⟨ret_b (by rw [← HB.out, HF.out]), gb_refl _ _⟩
  case pos =>
    go_enter Tryd.func46, Tryd.ntmps46
    go_wp2_with fail
    go_loopw [10] (fun i wr => ∃ k : Nat, k ≤ n ∧ i = .int .i64 k ∧ (el.take k).all entB = true ∧ w.grownBy wr none) (fun i _ => n - (intOf i).toNat)
    case atStart => exact ⟨0, Nat.zero_le _, rfl, by simp, gb_refl _ _⟩
    case round =>
      obtain ⟨k, hk, rfl, hno, hg⟩ := hrel
      have HNo := hide hno
      clear hno
      by_cases hlt : k < n
      · obtain ⟨e, he⟩ : ∃ e, el[k]? = some e := ⟨_, List.getElem?_eq_getElem (by rw [HL.out]; exact hlt)⟩
        cases A with
        | none => have := (HN.out rfl).1; have := HL.out; omega
        | some a1 =>
        obtain ⟨g1, rfl, _, l1⟩ := HA.out _ rfl
        obtain ⟨x0, x1, x2⟩ := OwnE.cell (H.out.grown hg) he
        have hsz := HE.out e (List.mem_of_getElem? he)
        have HE1 := hide he
        have HG := hide hg
        have hkI : (k : Int) < (n : Int) := by omega
        clear he hg
        go_wp2_with fail
        refine (name_c15 e.name _ hsz).mono ?_
        rintro ee w1 ⟨rfl, rfl⟩
        obtain ⟨b1, h1⟩ : ∃ b, nameB e.name = b := ⟨_, rfl⟩
        have H1 := hide h1
        rw [h1]
        clear h1
        cases b1
        · have hfin : mayEntsB el = false := by
            unfold mayEntsB
            rw [ent_bad HE1.out (by unfold entB; rw [H1.out]; rfl)]
            simp
          have HF := hide hfin
          clear hfin
          go_wp2_with fail
          go_ret
          exact ⟨ret_b (by rw [← HB.out, HF.out]), gb_alloc HG.out _⟩
        · go_wp2_with fail
          refine (mayH_c e.ino e.gen _).mono ?_
          rintro ee w1 ⟨rfl, hg1⟩
          have hg2 := gb_trans (gb_alloc HG.out _) hg1
          have HG2 := hide hg2
          obtain ⟨b2, h2⟩ : ∃ b, (wordB e.ino && wordB e.gen) = b := ⟨_, rfl⟩
          have H2 := hide h2
          rw [h2]
          clear h2 hg1 hg2
          cases b2
          · have hfin : mayEntsB el = false := by
              unfold mayEntsB
              rw [ent_bad HE1.out (by unfold entB; rw [H2.out]; simp)]
              simp
            have HF := hide hfin
            clear hfin
            go_wp2_with fail
            go_ret
            exact ⟨ret_b (by rw [← HB.out, HF.out]), HG2.out⟩
          · go_wp2_with fail
            go_roundw
            case rel => exact ⟨k + 1, by omega, by go_num, by rw [all_take HNo.out HE1.out, entB, H1.out, H2.out]; rfl, HG2.out⟩
            case measure => simp [intOf]; omega
      · obtain rfl : k = n := by omega
        have hfin : mayEntsB el = true := by
          have h1 := HNo.out
          rw [List.take_of_length_le (by rw [HL.out]; exact Nat.le_refl _)] at h1
          unfold mayEntsB
          rw [HL.out, h1, decide_eq_true h64]
          rfl
        have HF := hide hfin
        clear hfin
        go_wp2_with fail
        go_ret
        exact ⟨ret_b (by rw [← HB.out, HF.out]), hg⟩
end Go.Tr
