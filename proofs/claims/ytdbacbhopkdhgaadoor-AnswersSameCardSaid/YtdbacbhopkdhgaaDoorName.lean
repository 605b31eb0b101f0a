/- Which texts are names. No condition. -/
import Derived.Test.YtdbacbhopkdhgaaDoorLeaf
import Derived.Deep.CutBlock
import Derived.Scope
import Derived.WalkMore
namespace Go.Tr
open Go.RowKit Go.Proofs
set_option linter.unusedVariables false
def nameHd (s : ByteArray) : Bool := decide (1 ≤ s.size) && (decide (s.size ≤ 32) && (!(s.toList == [46]) && !(s.toList == [46, 46])))
def badC (c : UInt8) : Bool := c == 0 || c == 47
def nameB (s : ByteArray) : Bool := nameHd s && !s.data.toList.any badC
theorem any_take {l : List UInt8} {k : Nat} {c : UInt8} (h : (l.take k).any badC = false) (hc : l[k]? = some c) : (l.take (k + 1)).any badC = badC c := by
  rw [List.take_add_one, hc, List.any_append, h]
  simp
theorem bad_any {l : List UInt8} {k : Nat} {c : UInt8} (hc : l[k]? = some c) (hb : badC c = true) : l.any badC = true := by
  rw [List.any_eq_true]
  exact ⟨c, List.mem_of_getElem? hc, hb⟩
set_option maxHeartbeats 2000000 in
theorem name_c15 (s : ByteArray) (w : World) (hs : s.size ≤ 1000000) : Calls Tryd.prog 74 #[.string s] w fun e w' => e = .returned (.bool (nameB s)) ∧ w' = w := by
  obtain ⟨b, hb⟩ : ∃ b, nameB s = b := ⟨_, rfl⟩
  have HB := hide hb
  rw [hb]
  clear hb
  go_enter Tryd.func74, Tryd.ntmps74
  go_upto_region 1 with fail
  refine wp_scope_straight ?_
  go_upto_region 1 with fail
  go_cut [3] from 5 to 33 (fun g wx => g = .bool (nameHd s) ∧ wx = w)
  case first =>
    go_wp2_with fail
    all_goals
      go_meet
      refine ⟨congrArg Value.bool ?_, rfl⟩
      unfold nameHd
      rw [Bool.eq_iff_iff]
      simp
      grind
  case rest =>
    obtain ⟨rfl, rfl⟩ := hcut
    obtain ⟨hd, hhd⟩ : ∃ hd, nameHd s = hd := ⟨_, rfl⟩
    have HH := hide hhd
    rw [hhd]
    clear hhd
    have Hl : s.data.toList.length = s.size := rfl
    have HL := hide Hl
    clear Hl
    go_wp2_with fail
    go_step3
    go_wp2_with fail
    go_loop [23, 3] (fun i g => ∃ k : Nat, k ≤ s.size ∧ i = .int .i64 k ∧ g = .bool hd ∧ (s.data.toList.take k).any badC = false) (fun i _ => s.size - (intOf i).toNat)
    case atStart => exact ⟨0, Nat.zero_le _, rfl, rfl, by simp⟩
    case round =>
      obtain ⟨k, hk, rfl, rfl, hno⟩ := hrel
      have HNo := hide hno
      clear hno
      by_cases hlt : k < s.size
      · have hget : s.data.toList[k]? = some s[k] := by rw [List.getElem?_eq_getElem (by rw [HL.out]; exact hlt)]; rfl
        have HG := hide hget
        clear hget
        by_cases h0 : ((s[k]'hlt).toNat : Int) = 0
        · have hbad : nameB s = false := by
            unfold nameB
            rw [bad_any HG.out (by have h00 : s[k]'hlt = 0 := UInt8.toNat_inj.1 (Int.ofNat.inj h0); rw [h00]; rfl)]
            simp
          have HBad := hide hbad
          clear hbad
          go_wp2_with fail
          go_ret
          exact ⟨ret_b (by rw [← HB.out, HBad.out]), rfl⟩
        · by_cases h47 : ((s[k]'hlt).toNat : Int) = 47
          · have hbad : nameB s = false := by
              unfold nameB
              rw [bad_any HG.out (by have h00 : s[k]'hlt = 47 := UInt8.toNat_inj.1 (Int.ofNat.inj h47); rw [h00]; rfl)]
              simp
            have HBad := hide hbad
            clear hbad
            go_wp2_with fail
            go_ret
            exact ⟨ret_b (by rw [← HB.out, HBad.out]), rfl⟩
          · have hgood : badC (s[k]'hlt) = false := by
              unfold badC
              have e1 : (s[k]'hlt == 0) = false := by simp; intro h; rw [h] at h0; exact h0 rfl
              have e2 : (s[k]'hlt == 47) = false := by simp; intro h; rw [h] at h47; exact h47 rfl
              rw [e1, e2]
              rfl
            have HGood := hide hgood
            clear hgood
            go_wp2_with fail
            go_round
            case rel => exact ⟨k + 1, by omega, by go_num, rfl, by rw [any_take HNo.out HG.out]; exact HGood.out⟩
            case measure => simp [intOf]; omega
      · obtain rfl : k = s.size := by omega
        go_wp2_with fail
        go_ret
        refine ⟨ret_b ?_, rfl⟩
        have h1 := HNo.out
        rw [List.take_of_length_le (by rw [HL.out]; exact Nat.le_refl _)] at h1
        rw [← HB.out, nameB, h1, HH.out]
        simp
set_option maxHeartbeats 2000000 in
theorem rname_c (s : ByteArray) (w : World) (hs : s.size ≤ 1000000) : Calls Tryd.prog 32 #[.string s] w fun e w' => e = .returned (.bool (nameB s)) ∧ w' = w := by
  obtain ⟨b, hb⟩ : ∃ b, nameB s = b := ⟨_, rfl⟩
  have HB := hide hb
  rw [hb]
  clear hb
  have Hl : s.data.toList.length = s.size := rfl
  have HL := hide Hl
  clear Hl
  go_enter Tryd.func32, Tryd.ntmps32
  go_wp2_with fail
  go_loop [3] (fun i => ∃ k : Nat, k ≤ s.size ∧ i = .int .i64 k ∧ (s.data.toList.take k).any badC = false) (fun i => s.size - (intOf i).toNat)
  case atStart => exact ⟨0, Nat.zero_le _, rfl, by simp⟩
  case round =>
    obtain ⟨k, hk, rfl, hno⟩ := hrel
    have HNo := hide hno
    clear hno
    by_cases hlt : k < s.size
    · have hget : s.data.toList[k]? = some s[k] := by rw [List.getElem?_eq_getElem (by rw [HL.out]; exact hlt)]; rfl
      have HG := hide hget
      clear hget
      by_cases h0 : ((s[k]'hlt).toNat : Int) = 0
      · have hbad : nameB s = false := by
          unfold nameB
          rw [bad_any HG.out (by have h00 : s[k]'hlt = 0 := UInt8.toNat_inj.1 (Int.ofNat.inj h0); rw [h00]; rfl)]
          simp
        have HBad := hide hbad
        clear hbad
        go_wp2_with fail
        go_ret
        exact ⟨ret_b (by rw [← HB.out, HBad.out]), rfl⟩
      · by_cases h47 : ((s[k]'hlt).toNat : Int) = 47
        · have hbad : nameB s = false := by
            unfold nameB
            rw [bad_any HG.out (by have h00 : s[k]'hlt = 47 := UInt8.toNat_inj.1 (Int.ofNat.inj h47); rw [h00]; rfl)]
            simp
          have HBad := hide hbad
          clear hbad
          go_wp2_with fail
          go_ret
          exact ⟨ret_b (by rw [← HB.out, HBad.out]), rfl⟩
        · have hgood : badC (s[k]'hlt) = false := by
            unfold badC
            have e1 : (s[k]'hlt == 0) = false := by simp; intro h; rw [h] at h0; exact h0 rfl
            have e2 : (s[k]'hlt == 47) = false := by simp; intro h; rw [h] at h47; exact h47 rfl
            rw [e1, e2]
            rfl
          have HGood := hide hgood
          have hb0 : (((s[k]'hlt).toNat : Int) == 0) = false := by simpa using h0
          have hb47 : (((s[k]'hlt).toNat : Int) == 47) = false := by simpa using h47
          clear hgood
          go_wp2_with fail
          go_round
          case rel => exact ⟨k + 1, by omega, by go_num, by rw [any_take HNo.out HG.out]; exact HGood.out⟩
          case measure => simp [intOf]; omega
    · obtain rfl : k = s.size := by omega
      have hfin : nameB s = nameHd s := by
        have h1 := HNo.out
        rw [List.take_of_length_le (by rw [HL.out]; exact Nat.le_refl _)] at h1
        rw [nameB, h1]
        simp
      have HF := hide hfin
      clear hfin
      go_wp2_with fail
      all_goals
        go_ret
        refine ⟨ret_b ?_, rfl⟩
        rw [← HB.out, HF.out]
        unfold nameHd
        rw [Bool.eq_iff_iff]
        simp
        grind
end Go.Tr
