/- xdr's numbers and texts: what each function of the layer computes. No condition. -/
import Derived.Test.YtdbacbhopkdhgaaDoorBase
namespace Go.Tr
open Go.RowKit Go.Proofs

/-- a number's four bytes, the greatest part first -/
def be32 (n : Nat) : List UInt8 := [UInt8.ofNat (n / 16777216), UInt8.ofNat (n / 65536), UInt8.ofNat (n / 256), UInt8.ofNat n]
def be64 (n : Nat) : List UInt8 := be32 (n / 4294967296) ++ be32 (n % 4294967296)
theorem be32_length (n : Nat) : (be32 n).length = 4 := rfl
theorem be64_length (n : Nat) : (be64 n).length = 8 := rfl
/-- how many bytes 0 stand behind a text of n bytes -/
def padN (n : Nat) : Nat := (4 - n % 4) % 4
def textB (s : List UInt8) : List UInt8 := be32 s.length ++ s ++ List.replicate (padN s.length) 0
theorem padN_lt (n : Nat) : padN n < 4 := by unfold padN; omega

theorem pad_c (x : Int) (w : World) (h0 : 0 ≤ x) (h1 : x ≤ 1000000000000) : Calls Tryd.prog 69 #[.int .i64 x] w fun e w' => e = .returned (.int .i64 (padN x.toNat)) ∧ w = w' := by
  obtain ⟨n, rfl⟩ := Int.eq_ofNat_of_zero_le h0
  simp only [Int.toNat_natCast]
  go_enter Tryd.func69, Tryd.ntmps69
  go_wp2
  go_ret
  exact ⟨ret_i (by unfold padN; omega), rfl⟩

theorem U32_c (v : Value) (l : List UInt8) (x : Int) (w : World) (hv : BS w v l) (hl : l.length ≤ 900000000) (h0 : 0 ≤ x) (h1 : x < 4294967296) :
    Calls Tryd.prog 35 #[v, .int .u32 x] w (RetB w (l ++ be32 x.toNat)) := by
  obtain ⟨n, rfl⟩ := Int.eq_ofNat_of_zero_le h0
  simp only [Int.toNat_natCast]
  have hn : n < 4294967296 := by omega
  clear h0 h1
  have hbs := hv
  obtain ⟨A, c, rfl, hc, hA, _⟩ := hv
  go_enter Tryd.func35, Tryd.ntmps35
  go_wp2_with (at_builtin; refine wp_app_grow rfl _ _ rfl A l.length l.length ⟨w.heap.size, 0, none⟩ 4 4 l (be32 n) rfl rfl ?h1 ?h2 ?h3 ?h4 ?_)
  case h1 => exact (hbs.alloc _).full
  case h2 => exact BS.lit _ (be32 n) 4 (by simp only [bv, be32, List.map]; exact list4 (u8_cell _ _ (by omega)) (u8_cell _ _ (by omega)) (u8_cell _ _ (by omega)) (u8_cell _ _ (by omega))) (Nat.le_refl _)
  case h3 => simp [be32_length]; omega
  case h4 => omega
  intro A' n' c' w' hown hg
  go_wp2
  go_ret
  exact RetB.mk hown (Nat.le_succ _) (gb_trans (gb_alloc (gb_refl _ _) _) hg)

theorem Text_c (vb vs : Value) (lb ls : List UInt8) (w : World) (hb : BS w vb lb) (hs : BS w vs ls) (hl : lb.length ≤ 800000000) (hl2 : ls.length ≤ 10000000) :
    Calls Tryd.prog 38 #[vb, vs] w (RetB w (lb ++ textB ls)) := by
  have hs' := hs
  obtain ⟨A, c, rfl, hc, hA, _⟩ := hs
  have hp := padN_lt ls.length
  go_enter Tryd.func38, Tryd.ntmps38
  go_wp2_with fail
  refine (U32_c _ _ _ _ hb (by omega) (by omega) (by omega)).mono ?_
  rintro e w1 ⟨A1, n1, c1, rfl, ho1, hg1⟩
  rw [Int.toNat_natCast] at ho1
  go_wp2_with (first | (at_builtin; refine wp_app rfl _ _ rfl w.heap.size _ _ _ _ rfl rfl ho1 (hs'.grown hg1) ?h1 hg1.size ?_) | fail)
  case h1 => simp [be32_length]; omega
  intro A2 n2 c2 w2 ho2 hg2
  have hg02 : w.grownBy w2 none := by
    exact gb_new' ho1 (Nat.le_refl _) hg1 hg2
  go_wp2_with fail
  refine (pad_c _ _ (by omega) (by omega)).mono ?_
  rintro e w2' ⟨rfl, rfl⟩
  rw [Int.toNat_natCast]
  go_wp2_with fail
  obtain ⟨p, hpe⟩ : ∃ p, p = padN ls.length := ⟨_, rfl⟩
  rw [← hpe] at hp ⊢
  have Hpe := hide hpe
  clear hpe
  obtain ⟨X, hX⟩ : ∃ X, X = lb ++ (be32 ls.length ++ ls) := ⟨_, rfl⟩
  rw [← hX] at ho2
  have HX := hide hX
  clear hX
  have hXl : X.length ≤ 900000000 := by rw [HX.out]; simp [be32_length]; omega
  go_loopw [0, 15] (fun v i wr => ∃ (k : Nat) (A : Option Addr) (n c : Nat), k ≤ p ∧ i = .int .i64 k ∧ v = .slice A n c ∧ OwnB w.heap.size wr (.slice A n c) (X ++ List.replicate k 0) ∧ w.grownBy wr none) (fun _ i _ => p - (intOf i).toNat)
  case atStart => exact ⟨0, A2, n2, c2, Nat.zero_le _, rfl, rfl, by simpa using ho2, hg02⟩
  case round =>
    obtain ⟨k, A3, n3, c3, hk, rfl, rfl, ho3, hg3⟩ := hrel
    by_cases hlt : k < p
    · go_wp2_with (at_builtin; refine wp_app rfl _ _ rfl w.heap.size _ _ _ [0] rfl rfl (ho3.grown (gb_alloc (gb_refl _ _) _)) (BS.lit _ [0] 1 rfl (Nat.le_refl _)) ?h2 (Nat.le_trans hg3.size (by simp)) ?_)
      case h2 => simp; omega
      intro A4 n4 c4 w4 ho4 hg4
      have hg04 := gb_new' (ho3.grown (gb_alloc (gb_refl _ _) _)) (Nat.le_refl _) (gb_alloc hg3 _) hg4
      go_wp2_with fail
      go_roundw
      case rel => exact ⟨k + 1, A4, n4, c4, by omega, by go_num, rfl, by rw [List.replicate_succ']; exact ho4, hg04⟩
      case measure => simp [intOf]; omega
    · go_wp2_with fail
      go_ret
      obtain rfl : k = p := by omega
      refine RetB.mk (b := w.heap.size) ?_ (Nat.le_refl _) hg3
      unfold textB
      rw [← Hpe.out, ← List.append_assoc, ← HX.out]
      exact ho3
end Go.Tr
