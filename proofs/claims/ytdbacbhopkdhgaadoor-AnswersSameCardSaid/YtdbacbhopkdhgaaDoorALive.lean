/- The law's example; procedures and names made of any number. No condition. -/
import Derived.Test.YtdbacbhopkdhgaaDoorAWrite
namespace Go.Tr
open Go.RowKit Go.Proofs
set_option linter.unusedVariables false
theorem live_may : mayR 3 (zeroR 9) = true := by decide
theorem live_bytes : resB 3 (zeroR 9) = [0, 0, 0, 2] := by decide
set_option maxHeartbeats 1000000 in
theorem lives15_c (w : World) (ht : Tab w) : Calls Tryd.prog 17 #[] w fun e w' => e = .returned (.bool true) ∧ w.grownBy w' none := by
  have HT := hide ht
  clear ht
  go_enter Tryd.func17, Tryd.ntmps17
  go_wp2_with fail
  refine (awrite_c 3 (zeroR 9) _ _ _ (zero_ok _ _) ⟨by decide, by decide, by simp [zeroR]⟩ HT.out).mono ?_
  rintro e w1 ⟨v1, rfl, ho, hg⟩
  rw [if_pos live_may, live_bytes] at ho
  rw [if_pos live_may]
  obtain ⟨A, c, rfl⟩ := ho.shape
  have hback : (convert tBs tStr (.slice A 4 c)).run Tryd.prog w1 = .ok (.string ⟨#[0, 0, 0, 2]⟩) w1 := run_convback w1 A _ c _ ho.bs
  go_wp2_with fail
  go_ret
  exact ⟨rfl, hg⟩
/-! ### made of any number -/
def procR (n : Int) : Int := procN.getD (aroundN n 11).toNat 1
theorem around_ix (n : Int) (m : Nat) (hm : 0 < m) : ∃ k : Nat, aroundN n m = k ∧ k < m := by
  have h0 := aroundN_nonneg n m (by omega)
  have h1 := aroundN_lt n m (by omega)
  exact ⟨(aroundN n m).toNat, by omega, by omega⟩
def procV : Array Value := #[.int .i64 1, .int .i64 2, .int .i64 3, .int .i64 6, .int .i64 7, .int .i64 8, .int .i64 9, .int .i64 12, .int .i64 13, .int .i64 14, .int .i64 16]
theorem procV_at (k : Nat) (hk : k < 11) : procV[k]? = some (.int .i64 (procN.getD k 1)) := by
  match k, hk with
  | 0, _ | 1, _ | 2, _ | 3, _ | 4, _ | 5, _ | 6, _ | 7, _ | 8, _ | 9, _ | 10, _ => rfl
  | n + 11, h => exact absurd h (by omega)
theorem procR_mem (n : Int) : procR n ∈ procN := by
  obtain ⟨k, hk, hk11⟩ := around_ix n 11 (by omega)
  unfold procR
  have hk' : aroundN n 11 = (k : Int) := hk
  rw [hk', Int.toNat_natCast, List.getD_eq_getElem?_getD, List.getElem?_eq_getElem (by exact hk11)]
  exact List.getElem_mem _
theorem proc_c (n : Int) (w : World) (h0 : -9223372036854775808 ≤ n) (h1 : n ≤ 9223372036854775807) : Calls Tryd.prog 9 #[.int .i64 n] w fun e w' => e = .returned (.int .i64 (procR n)) ∧ w.grownBy w' none := by
  obtain ⟨k, hk, hk11⟩ := around_ix n 11 (by omega)
  have hk' : aroundN n 11 = (k : Int) := hk
  have hp : procR n = procN.getD k 1 := by unfold procR; rw [hk', Int.toNat_natCast]
  have hb : Blk (w.alloc (.cells procV tInt)) w.heap.size tInt procV := Blk.new _ _ _
  have hcell := (hb.cell k).trans (procV_at k hk11)
  rw [← hp] at hcell
  have lt := hb.lt
  have har := around_c n 11
  rw [hk'] at har
  have HAR := hide har
  obtain ⟨q, hq⟩ : ∃ q, procR n = q := ⟨_, rfl⟩
  rw [hq] at hcell ⊢
  have hkI : (k : Int) < 11 := by omega
  clear hk hk' hp hb har hq
  go_enter Tryd.func9, Tryd.ntmps9
  go_wp2_with fail
  refine (HAR.out _ h0 h1 (by omega) (by omega)).mono ?_
  rintro e w1 ⟨rfl, rfl⟩
  unfold procV at hcell
  go_wp2_with fail
  go_ret
  exact ⟨rfl, gb_alloc (gb_refl _ _) _⟩
def ofL : List ByteArray := [⟨#[97]⟩, ⟨#[98]⟩, ⟨#[97, 98]⟩, ⟨#[99]⟩, ⟨#[122]⟩, ⟨#[66]⟩, ⟨#[97, 32, 98]⟩, ⟨#[46, 46, 46]⟩, ⟨#[97, 97, 97, 97, 97, 97, 97, 97, 97, 97, 97, 97, 97, 97, 97, 97, 97, 97, 97, 97, 97, 97, 97, 97, 97, 97, 97, 97, 97, 97, 97, 97]⟩, ⟨#[45]⟩]
def ofV : Array Value := (ofL.map Value.string).toArray
def ofN (n : Int) : ByteArray := ofL.getD (aroundN n 10).toNat emptyS
theorem ofV_at (k : Nat) (hk : k < 10) : ofV[k]? = some (.string (ofL.getD k emptyS)) := by
  match k, hk with
  | 0, _ | 1, _ | 2, _ | 3, _ | 4, _ | 5, _ | 6, _ | 7, _ | 8, _ | 9, _ => rfl
  | n + 10, h => exact absurd h (by omega)
theorem of_name (n : Int) : nameB (ofN n) = true := by
  obtain ⟨k, hk, hk10⟩ := around_ix n 10 (by omega)
  have hk' : aroundN n 10 = (k : Int) := hk
  have hall : ∀ x ∈ ofL, nameB x = true := by
    unfold nameB nameHd
    simp only [ByteArray.toList_eq]
    decide
  unfold ofN
  rw [hk', Int.toNat_natCast, List.getD_eq_getElem?_getD, List.getElem?_eq_getElem (by exact hk10)]
  exact hall _ (List.getElem_mem _)
theorem nameB_size {s : ByteArray} (h : nameB s = true) : s.size ≤ 32 := by
  unfold nameB nameHd at h
  simp only [Bool.and_eq_true, decide_eq_true_eq] at h
  exact h.1.2.1
theorem of_c15 (n : Int) (w : World) (h0 : -9223372036854775808 ≤ n) (h1 : n ≤ 9223372036854775807) : Calls Tryd.prog 18 #[.int .i64 n] w fun e w' => e = .returned (.string (ofN n)) ∧ w.grownBy w' none := by
  obtain ⟨k, hk, hk11⟩ := around_ix n 10 (by omega)
  have hk' : aroundN n 10 = (k : Int) := hk
  have hp : ofN n = ofL.getD k emptyS := by unfold ofN; rw [hk', Int.toNat_natCast]
  have hb : Blk (w.alloc (.cells ofV tStr)) w.heap.size tStr ofV := Blk.new _ _ _
  have hcell := (hb.cell k).trans (ofV_at k hk11)
  rw [← hp] at hcell
  have lt := hb.lt
  have har := around_c n 10
  rw [hk'] at har
  have HAR := hide har
  obtain ⟨q, hq⟩ : ∃ q, ofN n = q := ⟨_, rfl⟩
  rw [hq] at hcell ⊢
  have hkI : (k : Int) < 10 := by omega
  clear hk hk' hp hb har hq
  go_enter Tryd.func18, Tryd.ntmps18
  go_wp2_with fail
  refine (HAR.out _ h0 h1 (by omega) (by omega)).mono ?_
  rintro e w1 ⟨rfl, rfl⟩
  unfold ofV ofL at hcell
  simp only [List.map_cons, List.map_nil] at hcell
  go_wp2_with fail
  go_ret
  exact ⟨rfl, gb_alloc (gb_refl _ _) _⟩
end Go.Tr
