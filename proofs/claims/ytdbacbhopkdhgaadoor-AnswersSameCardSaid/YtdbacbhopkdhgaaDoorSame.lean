/- Whether two answers are the same. No condition. -/
import Derived.Test.YtdbacbhopkdhgaaDoorRes
namespace Go.Tr
open Go.RowKit Go.Proofs
set_option linter.unusedVariables false
theorem take_succ_eq {α : Type} {a b : List α} {k : Nat} {x : α} (h : a.take k = b.take k) (h1 : a[k]? = some x) (h2 : b[k]? = some x) : a.take (k + 1) = b.take (k + 1) := by
  rw [List.take_add_one, List.take_add_one, h, h1, h2]
set_option maxHeartbeats 2000000 in
theorem entsame_c (v1 v2 : Value) (a b : List Ent) (w : World) (h1 : ES w v1 a) (h2 : ES w v2 b) (hm : a.length ≤ 1000000) : Calls Tryd.prog 54 #[v1, v2] w fun e w' => e = .returned (.bool (decide (a = b))) ∧ w.grownBy w' none := by
  obtain ⟨A1, c1, rfl, hA1, hn1, hc1⟩ := h1.shape
  obtain ⟨A2, c2, rfl, hA2, hn2, hc2⟩ := h2.shape
  by_cases hl : a.length = b.length
  case neg =>
    have hd : decide (a = b) = false := decide_eq_false (fun h => hl (by rw [h]))
    rw [hd]
    clear hd hn1 hn2 hA1 hA2
    go_enter Tryd.func54, Tryd.ntmps54
    go_wp2_with fail
    go_ret
    exact ⟨rfl, gb_refl _ _⟩
  case pos =>
    obtain ⟨n, hn⟩ : ∃ n, a.length = n := ⟨_, rfl⟩
    have hnb : b.length = n := hl.symm.trans hn
    have H1 := hide h1
    have H2 := hide h2
    have HA1 := hide hA1
    have HA2 := hide hA2
    have HN1 := hide hn1
    have HN2 := hide hn2
    have HNA := hide hn
    have HNB := hide hnb
    rw [hn] at hc1 hm ⊢
    rw [hnb] at hc2 ⊢
    clear hl h1 h2 hA1 hA2 hn1 hn2 hn hnb
    go_enter Tryd.func54, Tryd.ntmps54
    go_wp2_with fail
    go_loopw [5] (fun i wr => ∃ k : Nat, k ≤ n ∧ i = .int .i64 k ∧ a.take k = b.take k ∧ w.grownBy wr none) (fun i _ => n - (intOf i).toNat)
    case atStart => exact ⟨0, Nat.zero_le _, rfl, rfl, gb_refl _ _⟩
    case round =>
      obtain ⟨k, hk, rfl, ht, hg⟩ := hrel
      have HT := hide ht
      clear ht
      by_cases hlt : k < n
      · obtain ⟨x, hx⟩ : ∃ x, a[k]? = some x := ⟨_, List.getElem?_eq_getElem (by rw [HNA.out]; exact hlt)⟩
        obtain ⟨y, hy⟩ : ∃ y, b[k]? = some y := ⟨_, List.getElem?_eq_getElem (by rw [HNB.out]; exact hlt)⟩
        cases A1 with
        | none => have := (HN1.out rfl).1; have := HNA.out; omega
        | some a1 =>
        cases A2 with
        | none => have := (HN2.out rfl).1; have := HNB.out; omega
        | some a2 =>
        obtain ⟨g1, rfl, _, l1⟩ := HA1.out _ rfl
        obtain ⟨g2, rfl, _, l2⟩ := HA2.out _ rfl
        obtain ⟨x0, x1, x2⟩ := OwnE.cell (H1.out.grown hg) hx
        obtain ⟨y0, y1, y2⟩ := OwnE.cell (H2.out.grown hg) hy
        have m1 : g1 < wr.heap.size := Nat.lt_of_lt_of_le l1 hg.size
        have m2 : g2 < wr.heap.size := Nat.lt_of_lt_of_le l2 hg.size
        have HX := hide hx
        have HY := hide hy
        clear hx hy l1 l2
        have hkI : (k : Int) < (n : Int) := by omega
        by_cases he : x = y
        · subst he
          go_wp2_with fail
          refine Reg.wp_reg [0, 0, 3, 7, 0, 0, 48, 112, 255] [(0, .W), (1, .W), (2, .W), (3, .H), (4, .W), (5, .W), (6, .W), (7, .H), (8, .W)] (Reg.Old _) (by kernel_rfl) (by kernel_rfl) (fun _ => Reg.Old.drew (Reg.Old.refl _)) ?_
          repeat (first | (refine Reg.wpC_W rfl (fun K hK => ?_); go_simp; refine hK _ ?_; clear hK K) | (refine Reg.wpC_H2 rfl rfl (fun K hK => ?_); apply Exists.intro; refine ⟨fun w' hS => ?_, ?_⟩; (have hS2 := hS.2; clear hS; go_simp; first | done | rfl); go_simp; refine hK _ ?_; clear hK K) | (refine Reg.wpC_N rfl rfl (fun K hK => ?_); go_simp; refine hK _ ?_; clear hK K))
          refine Reg.wpC_nil ?_
          go_wp2_with fail
          go_roundw
          case rel => exact ⟨k + 1, by omega, by go_num, take_succ_eq HT.out HX.out HY.out, gb_drew hg⟩
          case measure => simp [intOf]; omega
        · have hd : decide (a = b) = false := decide_eq_false (fun h => he (by have h3 := HX.out; rw [h, HY.out] at h3; injection h3 with h3; exact h3.symm))
          have HD := hide hd
          have hcs := ent_cases he
          obtain ⟨xn, xi, xg⟩ := x
          obtain ⟨yn, yi, yg⟩ := y
          simp only [] at hcs x0 x1 x2 y0 y1 y2
          clear hd he HX HY
          rcases hcs with hc | ⟨rfl, hc⟩ | ⟨rfl, rfl, hc⟩
          all_goals
            go_wp2_with fail
            refine Reg.wp_reg [0, 0, 3, 7, 0, 0, 48, 112, 255] [(0, .W), (1, .W), (2, .W), (3, .H), (4, .W), (5, .W), (6, .W), (7, .H), (8, .W)] (Reg.Old _) (by kernel_rfl) (by kernel_rfl) (fun _ => Reg.Old.drew (Reg.Old.refl _)) ?_
            repeat (first | (refine Reg.wpC_W rfl (fun K hK => ?_); go_simp; refine hK _ ?_; clear hK K) | (refine Reg.wpC_H2 rfl rfl (fun K hK => ?_); apply Exists.intro; refine ⟨fun w' hS => ?_, ?_⟩; (have hS2 := hS.2; clear hS; go_simp; first | done | rfl); go_simp; refine hK _ ?_; clear hK K) | (refine Reg.wpC_N rfl rfl (fun K hK => ?_); go_simp; refine hK _ ?_; clear hK K))
            refine Reg.wpC_nil ?_
            go_wp2_with fail
            go_ret
            exact ⟨by rw [HD.out]; rfl, gb_drew hg⟩
      · obtain rfl : k = n := by omega
        have hd : decide (a = b) = true := by
          have ht := HT.out
          rw [List.take_of_length_le (by rw [HNA.out]; exact Nat.le_refl _), List.take_of_length_le (by rw [HNB.out]; exact Nat.le_refl _)] at ht
          exact decide_eq_true ht
        have HD := hide hd
        clear hd
        go_wp2_with fail
        go_ret
        exact ⟨by rw [HD.out]; rfl, hg⟩
set_option maxHeartbeats 2000000 in
theorem entequal_c (v1 v2 : Value) (a b : List Ent) (w : World) (h1 : ES w v1 a) (h2 : ES w v2 b) (hm : a.length ≤ 1000000) : Calls Tryd.prog 53 #[v1, v2] w fun e w' => e = .returned (.bool (decide (a = b))) ∧ w.grownBy w' none := by
  obtain ⟨A1, c1, rfl, hA1, hn1, hc1⟩ := h1.shape
  obtain ⟨A2, c2, rfl, hA2, hn2, hc2⟩ := h2.shape
  by_cases hl : a.length = b.length
  case neg =>
    have hd : decide (a = b) = false := decide_eq_false (fun h => hl (by rw [h]))
    rw [hd]
    clear hd hn1 hn2 hA1 hA2
    go_enter Tryd.func53, Tryd.ntmps53
    go_wp2_with fail
    go_ret
    exact ⟨rfl, gb_refl _ _⟩
  case pos =>
    obtain ⟨n, hn⟩ : ∃ n, a.length = n := ⟨_, rfl⟩
    have hnb : b.length = n := hl.symm.trans hn
    have H1 := hide h1
    have H2 := hide h2
    have HA1 := hide hA1
    have HA2 := hide hA2
    have HN1 := hide hn1
    have HN2 := hide hn2
    have HNA := hide hn
    have HNB := hide hnb
    rw [hn] at hc1 hm ⊢
    rw [hnb] at hc2 ⊢
    clear hl h1 h2 hA1 hA2 hn1 hn2 hn hnb
    go_enter Tryd.func53, Tryd.ntmps53
    go_wp2_with fail
    go_loopw [13] (fun i wr => ∃ k : Nat, k ≤ n ∧ i = .int .i64 k ∧ a.take k = b.take k ∧ w.grownBy wr none) (fun i _ => n - (intOf i).toNat)
    case atStart => exact ⟨0, Nat.zero_le _, rfl, rfl, gb_refl _ _⟩
    case round =>
      obtain ⟨k, hk, rfl, ht, hg⟩ := hrel
      have HT := hide ht
      clear ht
      by_cases hlt : k < n
      · obtain ⟨x, hx⟩ : ∃ x, a[k]? = some x := ⟨_, List.getElem?_eq_getElem (by rw [HNA.out]; exact hlt)⟩
        obtain ⟨y, hy⟩ : ∃ y, b[k]? = some y := ⟨_, List.getElem?_eq_getElem (by rw [HNB.out]; exact hlt)⟩
        cases A1 with
        | none => have := (HN1.out rfl).1; have := HNA.out; omega
        | some a1 =>
        cases A2 with
        | none => have := (HN2.out rfl).1; have := HNB.out; omega
        | some a2 =>
        obtain ⟨g1, rfl, _, l1⟩ := HA1.out _ rfl
        obtain ⟨g2, rfl, _, l2⟩ := HA2.out _ rfl
        obtain ⟨x0, x1, x2⟩ := OwnE.cell (H1.out.grown hg) hx
        obtain ⟨y0, y1, y2⟩ := OwnE.cell (H2.out.grown hg) hy
        have m1 : g1 < wr.heap.size := Nat.lt_of_lt_of_le l1 hg.size
        have m2 : g2 < wr.heap.size := Nat.lt_of_lt_of_le l2 hg.size
        have HX := hide hx
        have HY := hide hy
        clear hx hy l1 l2
        have hkI : (k : Int) < (n : Int) := by omega
        by_cases he : x = y
        · subst he
          go_wp2_with fail
          refine Reg.wp_reg [0, 0, 3, 7, 0, 0, 48, 112, 255] [(0, .W), (1, .W), (2, .W), (3, .H), (4, .W), (5, .W), (6, .W), (7, .H), (8, .W)] (Reg.Old _) (by kernel_rfl) (by kernel_rfl) (fun _ => Reg.Old.drew (Reg.Old.refl _)) ?_
          repeat (first | (refine Reg.wpC_W rfl (fun K hK => ?_); go_simp; refine hK _ ?_; clear hK K) | (refine Reg.wpC_H2 rfl rfl (fun K hK => ?_); apply Exists.intro; refine ⟨fun w' hS => ?_, ?_⟩; (have hS2 := hS.2; clear hS; go_simp; first | done | rfl); go_simp; refine hK _ ?_; clear hK K) | (refine Reg.wpC_N rfl rfl (fun K hK => ?_); go_simp; refine hK _ ?_; clear hK K))
          refine Reg.wpC_nil ?_
          go_wp2_with fail
          go_roundw
          case rel => exact ⟨k + 1, by omega, by go_num, take_succ_eq HT.out HX.out HY.out, gb_drew hg⟩
          case measure => simp [intOf]; omega
        · have hd : decide (a = b) = false := decide_eq_false (fun h => he (by have h3 := HX.out; rw [h, HY.out] at h3; injection h3 with h3; exact h3.symm))
          have HD := hide hd
          have hcs := ent_cases he
          obtain ⟨xn, xi, xg⟩ := x
          obtain ⟨yn, yi, yg⟩ := y
          simp only [] at hcs x0 x1 x2 y0 y1 y2
          clear hd he HX HY
          rcases hcs with hc | ⟨rfl, hc⟩ | ⟨rfl, rfl, hc⟩
          all_goals
            go_wp2_with fail
            refine Reg.wp_reg [0, 0, 3, 7, 0, 0, 48, 112, 255] [(0, .W), (1, .W), (2, .W), (3, .H), (4, .W), (5, .W), (6, .W), (7, .H), (8, .W)] (Reg.Old _) (by kernel_rfl) (by kernel_rfl) (fun _ => Reg.Old.drew (Reg.Old.refl _)) ?_
            repeat (first | (refine Reg.wpC_W rfl (fun K hK => ?_); go_simp; refine hK _ ?_; clear hK K) | (refine Reg.wpC_H2 rfl rfl (fun K hK => ?_); apply Exists.intro; refine ⟨fun w' hS => ?_, ?_⟩; (have hS2 := hS.2; clear hS; go_simp; first | done | rfl); go_simp; refine hK _ ?_; clear hK K) | (refine Reg.wpC_N rfl rfl (fun K hK => ?_); go_simp; refine hK _ ?_; clear hK K))
            refine Reg.wpC_nil ?_
            go_wp2_with fail
            go_ret
            exact ⟨by rw [HD.out]; rfl, gb_drew hg⟩
      · obtain rfl : k = n := by omega
        have hd : decide (a = b) = true := by
          have ht := HT.out
          rw [List.take_of_length_le (by rw [HNA.out]; exact Nat.le_refl _), List.take_of_length_le (by rw [HNB.out]; exact Nat.le_refl _)] at ht
          exact decide_eq_true ht
        have HD := hide hd
        clear hd
        go_wp2_with fail
        go_ret
        exact ⟨by rw [HD.out]; rfl, hg⟩
end Go.Tr
