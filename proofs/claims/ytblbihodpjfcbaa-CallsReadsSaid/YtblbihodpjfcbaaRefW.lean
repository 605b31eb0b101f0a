/- The document's bytes of numbers and texts. No condition. -/
import Derived.Test.YtblbihodpjfcbaaCalls
namespace Go.Tr
open Go.RowKit Go.Proofs
set_option linter.unusedVariables false

theorem OwnB.lit {w : World} (cs : Array Value) (l : List UInt8) (n c : Nat) (hn : n = w.heap.size) (h : cs.toList = bv l) (hc : c = l.length) (hl : l.length ≤ 1000000) : OwnB w.heap.size (w.alloc (.cells cs tU8)) (.slice (some ⟨n, 0, none⟩) c c) l := by
  subst hn hc
  have hs : cs.size = l.length := by rw [← Array.length_toList, h, bv_length]
  unfold OwnB World.ownsRow
  refine ⟨by rw [bv_length, Nat.mul_one], Or.inr ⟨w.heap.size, l.length, cs, rfl, Nat.le_refl _, heap_alloc_new w _, Nat.le_refl _, ?_, by rw [Nat.mul_one]; exact hs, ?_⟩⟩
  · unfold maxLen; omega
  · rw [Nat.mul_one, h, List.take_of_length_le (by rw [bv_length]; omega)]

theorem rU32w_c (x : Int) (w : World) (h0 : 0 ≤ x) (h1 : x < 4294967296) : Calls Try.prog 59 #[.int .u32 x] w (RetB w (be32 x.toNat)) := by
  obtain ⟨n, rfl⟩ := Int.eq_ofNat_of_zero_le h0
  simp only [Int.toNat_natCast]
  have hn : n < 4294967296 := by omega
  clear h0 h1
  go_enter Try.func59, Try.ntmps59
  go_wp2
  go_ret
  refine RetB.mk (b := w.heap.size) (OwnB.lit _ (be32 n) _ 4 rfl ?_ (by simp [be32_length]) (by simp [be32_length])) (Nat.le_refl _) (gb_alloc (gb_refl _ _) _)
  simp only [bv, be32, List.map]
  exact list4 (u8_cell _ _ (by omega)) (u8_cell _ _ (by omega)) (u8_cell _ _ (by omega)) (u8_cell _ _ (by omega))

theorem rU64w_c (x : Int) (w : World) (h0 : 0 ≤ x) (h1 : x < 18446744073709551616) : Calls Try.prog 39 #[.int .u64 x] w (RetB w (be64 x.toNat)) := by
  go_enter Try.func39, Try.ntmps39
  go_wp2_with fail
  refine (rU32w_c _ _ (by omega) (by omega)).mono ?_
  rintro e w1 ⟨A1, n1, c1, rfl, ho1, hg1⟩
  go_wp2_with fail
  refine (rU32w_c _ _ (by omega) (by omega)).mono ?_
  rintro e w2 ⟨A2, n2, c2, rfl, ho2, hg2⟩
  go_wp2_with (first | (at_builtin; refine wp_app rfl _ _ rfl w.heap.size _ _ _ _ rfl rfl (ho1.grown hg2) ho2.bs ?h1 (Nat.le_trans hg1.size hg2.size) ?_) | fail)
  case h1 => simp [be32_length]
  intro A3 n3 c3 w3 ho3 hg3
  go_wp2_with fail
  go_ret
  refine RetB.mk (b := w.heap.size) ?_ (Nat.le_refl _) (gb_new' (ho1.grown hg2) (Nat.le_refl _) (gb_trans hg1 hg2) hg3)
  have e1 : (x / 4294967296).toNat = x.toNat / 4294967296 := by omega
  have e2 : (x % 4294967296).toNat = x.toNat % 4294967296 := by omega
  unfold be64
  rw [← e1, ← e2]
  exact ho3

theorem rTextw_c (vs : Value) (ls : List UInt8) (w : World) (hs : BS w vs ls) (hl2 : ls.length ≤ 10000000) :
    Calls Try.prog 40 #[vs] w (RetB w (textB ls)) := by
  have hs' := hs
  obtain ⟨A, c, rfl, hc, hA, _⟩ := hs
  have hp := padN_lt ls.length
  go_enter Try.func40, Try.ntmps40
  go_wp2_with fail
  refine (rU32w_c _ _ (by omega) (by omega)).mono ?_
  rintro e w1 ⟨A1, n1, c1, rfl, ho1, hg1⟩
  rw [Int.toNat_natCast] at ho1
  go_wp2_with (first | (at_builtin; refine wp_app rfl _ _ rfl w.heap.size _ _ _ _ rfl rfl ho1 (hs'.grown hg1) ?h1 hg1.size ?_) | fail)
  case h1 => simp [be32_length]; omega
  intro A2 n2 c2 w2 ho2 hg2
  have hg02 : w.grownBy w2 none := gb_new' ho1 (Nat.le_refl _) hg1 hg2
  obtain ⟨p, hpe⟩ : ∃ p, p = padN ls.length := ⟨_, rfl⟩
  rw [← hpe] at hp
  obtain ⟨X, hX⟩ : ∃ X, X = be32 ls.length ++ ls := ⟨_, rfl⟩
  rw [← hX] at ho2
  have hXl : X.length = ls.length + 4 := by rw [hX]; simp [be32_length]; omega
  have hm0 : (X.length + p) % 4 = 0 := by rw [hXl, hpe]; unfold padN; omega
  have hm1 : ∀ k, k < p → (X.length + k) % 4 ≠ 0 := by intro k hk; rw [hXl]; rw [hpe] at hk; unfold padN at hk; omega
  have Hpe := hide hpe
  have HX := hide hX
  clear hpe hX
  go_wp2_with fail
  go_loopw [3] (fun v wr => ∃ (k : Nat) (A : Option Addr) (n c : Nat), k ≤ p ∧ n = X.length + k ∧ v = .slice A n c ∧ OwnB w.heap.size wr (.slice A n c) (X ++ List.replicate k 0) ∧ w.grownBy wr none) (fun v _ => match v with | .slice _ n _ => X.length + p - n | _ => 0)
  case atStart => exact ⟨0, A2, n2, c2, Nat.zero_le _, by rw [ho2.len]; rfl, rfl, by simpa using ho2, hg02⟩
  case round =>
    obtain ⟨k, A3, n3, c3, hk, hn3, rfl, ho3, hg3⟩ := hrel
    by_cases hlt : k < p
    · have hne : n3 % 4 ≠ 0 := by rw [hn3]; exact hm1 k hlt
      have hneI : (n3 : Int) % 4 ≠ 0 := by omega
      have Hn3 := hide hn3
      have hXb : X.length ≤ 10000004 := by omega
      clear hm0 hm1 hn3 hXl
      go_wp2_with (at_builtin; refine wp_app rfl _ _ rfl w.heap.size _ _ _ [0] rfl rfl (ho3.grown (gb_alloc (gb_refl _ _) _)) (BS.lit _ [0] 1 rfl (Nat.le_refl _)) ?h2 (Nat.le_trans hg3.size (by simp)) ?_)
      case h2 => simp; omega
      intro A4 n4 c4 w4 ho4 hg4
      have hg04 := gb_new' (ho3.grown (gb_alloc (gb_refl _ _) _)) (Nat.le_refl _) (gb_alloc hg3 _) hg4
      have hn4 : n4 = n3 + 1 := by
        have := ho4.len
        have := Hn3.out
        simp only [List.length_append, List.length_replicate, List.length_cons, List.length_nil] at *
        omega
      go_wp2_with fail
      go_roundw
      case rel => exact ⟨k + 1, A4, n4, c4, by omega, by have := Hn3.out; omega, rfl, by rw [List.replicate_succ', ← List.append_assoc]; first | exact ho4 | (rw [List.append_assoc]; exact ho4), hg04⟩
      case measure => have := Hn3.out; simp; omega
    · obtain rfl : k = p := by omega
      have hneI : (n3 : Int) % 4 = 0 := by omega
      clear hm0 hm1
      go_wp2_with fail
      go_ret
      refine RetB.mk (b := w.heap.size) ?_ (Nat.le_refl _) hg3
      unfold textB
      rw [← Hpe.out, ← HX.out]
      exact ho3
theorem number_w (x : Int) (w : World) : Calls Try.prog 38 #[.int .i64 x] w (RetB w (num32 x)) := by
  have hx0 := Int.emod_nonneg x (b := 4294967296) (by omega)
  have hx1 := Int.emod_lt_of_pos x (b := 4294967296) (by omega)
  go_enter Try.func38, Try.ntmps38
  go_wp2_with fail
  try rw [IntKind.wrap_u32]
  refine (rU32w_c _ _ hx0 hx1).mono ?_
  rintro e w1 ⟨A1, n1, c1, rfl, ho1, hg1⟩
  go_wp2_with fail
  go_ret
  exact RetB.mk ho1 (Nat.le_refl _) hg1
end Go.Tr
