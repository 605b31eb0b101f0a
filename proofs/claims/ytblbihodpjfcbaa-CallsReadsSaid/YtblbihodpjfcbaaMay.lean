/- calls.May, calls.Write, the law's example, Around. No condition. -/
import Derived.Test.YtblbihodpjfcbaaLay2
namespace Go.Tr
open Go.RowKit Go.Proofs
set_option linter.unusedVariables false

set_option maxHeartbeats 1000000 in
theorem may_c (a : AA) (w : World) (ha : a.ok w) : Calls Try.prog 9 #[a.val] w fun e w' => e = .returned (.bool a.may) ∧ w.grownBy w' none := by
  unfold AA.val AA.cells
  go_enter Try.func9, Try.ntmps9
  go_wp2_with fail
  refine (lay_c a _ (ha.grown (gb_alloc (gb_refl w none) _))).mono ?_
  rintro e w1 ⟨v1, rfl, ho, hg⟩
  go_wp2_with fail
  go_ret
  exact ⟨rfl, gb_trans (gb_alloc (gb_refl w none) _) hg⟩

def AA.wrote (a : AA) : List UInt8 := if a.may then a.bytes else []
def AA.errno (a : AA) : Int := if a.may then 0 else 1
def WriteR (a : AA) (w : World) (e : Ending) (w' : World) : Prop :=
  ∃ v, e = .returned (.tuple #[v, .int .i64 a.errno]) ∧ OwnB w.heap.size w' v a.wrote ∧ w.grownBy w' none
set_option maxHeartbeats 1000000 in
theorem write_c (a : AA) (w : World) (ha : a.ok w) : Calls Try.prog 18 #[a.val] w (WriteR a w) := by
  unfold AA.val AA.cells
  go_enter Try.func18, Try.ntmps18
  go_wp2_with fail
  refine (lay_c a _ (ha.grown (gb_alloc (gb_refl w none) _))).mono ?_
  rintro e w1 ⟨v1, rfl, ho, hg⟩
  cases hm : a.may
  · go_wp2_with fail
    refine bodyPost_ret (v := .tuple #[.slice none 0 0, .int .i64 1]) (by simp [results, Try.results18, go_sem]) rfl ?_
    refine ⟨_, by rw [AA.errno, hm]; rfl, ?_, gb_trans (gb_alloc (gb_refl w none) _) hg⟩
    rw [AA.wrote, hm]
    exact OwnB.nil _ _
  · go_wp2_with fail
    refine bodyPost_ret (v := .tuple #[v1, .int .i64 0]) (by simp [results, Try.results18, go_sem]) rfl ?_
    refine ⟨_, by rw [AA.errno, hm]; rfl, ?_, gb_trans (gb_alloc (gb_refl w none) _) hg⟩
    rw [AA.wrote, hm]
    exact ho.lower (by simp)

/-- the law's example -/
def exA : AA := { proc := 1, off := 0, count := 0, size := 0, mode := 0, hi := 1, hg := 2, ji := 0, jg := 0, name := emptyS, name2 := emptyS, data := .slice none 0 0, dl := [] }
theorem exA_errno : exA.errno = 0 := by decide
theorem exA_wrote : exA.wrote = [0, 0, 0, 1, 0, 0, 0, 2] := by decide
theorem exA_ok (w : World) : exA.ok w := ⟨by decide, by decide, BS.nil w, by decide⟩
set_option maxHeartbeats 1000000 in
theorem lives14_c (w : World) : Calls Try.prog 10 #[] w fun e w' => e = .returned (.bool true) ∧ w.grownBy w' none := by
  go_enter Try.func10, Try.ntmps10
  go_wp2_with fail
  refine (write_c exA _ (exA_ok _)).mono ?_
  rintro e w1 ⟨v1, rfl, ho, hg⟩
  rw [exA_errno]
  rw [exA_wrote] at ho
  obtain ⟨A, c, rfl⟩ := ho.shape
  have hback : (convert tBs tStr (.slice A 8 c)).run Try.prog w1 = .ok (.string ⟨#[0, 0, 0, 1, 0, 0, 0, 2]⟩) w1 := run_convback w1 A _ c _ ho.bs
  go_wp2_with fail
  go_ret
  exact ⟨rfl, hg⟩

/-- truchmanref01.Around -/
def aroundN (x m : Int) : Int := (if x < 0 then -(x + 1) else x) % m
theorem aroundN_nonneg (x m : Int) (hm : 0 < m) : 0 ≤ aroundN x m := Int.emod_nonneg _ (by omega)
theorem aroundN_lt (x m : Int) (hm : 0 < m) : aroundN x m < m := Int.emod_lt_of_pos _ hm
theorem around_c (x m : Int) (w : World) (hx0 : -9223372036854775808 ≤ x) (hx1 : x ≤ 9223372036854775807) (hm : 0 < m) (hm1 : m ≤ 9223372036854775807) : Calls Try.prog 8 #[.int .i64 x, .int .i64 m] w fun e w' => e = .returned (.int .i64 (aroundN x m)) ∧ w' = w := by
  unfold aroundN
  by_cases h : x < 0
  · rw [if_pos h]
    go_enter Try.func8, Try.ntmps8
    go_wp2_with fail
    go_ret
    have h1 : (x + 1).tmod m = -(-(x + 1) % m) := by
      rw [← Int.tmod_eq_emod_of_nonneg (by omega), Int.neg_tmod, Int.neg_neg]
    exact ⟨ret_i (by first | rw [h1, Int.neg_neg] | simp [h1]), rfl⟩
  · rw [if_neg h]
    go_enter Try.func8, Try.ntmps8
    go_wp2_with fail
    go_ret
    exact ⟨rfl, rfl⟩
end Go.Tr
