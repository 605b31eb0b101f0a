import Derived.Test.YtblbihodpjfcbaaMay
import Derived.Test.YtblbihodpjfcbaaMake
import Derived.Test.YtblbihodpjfcbaaLaw
namespace Go.Tr
open Go.RowKit Go.Proofs
set_option linter.unusedVariables false

theorem emptyS_eq : (emptyS == emptyS) = true := by decide
theorem emptyS_size : emptyS.size = 0 := rfl
theorem may_lookup (s : ByteArray) : AA.may { zeroA 3 with name := s } = decide (s.size ≤ 64) := by
  simp [AA.may, AA.laid, layAll, AA.start, fieldsOf, LS.step, zeroA, AA.zeroF, AA.okF, word32, sameA, AA.ints, emptyS_eq]
theorem may_rename (s : ByteArray) : AA.may { zeroA 14 with name2 := s } = decide (s.size ≤ 64) := by
  simp [AA.may, AA.laid, layAll, AA.start, fieldsOf, LS.step, zeroA, AA.zeroF, AA.okF, word32, sameA, AA.ints, emptyS_eq, emptyS_size]
theorem may_write (v : Value) (l : List UInt8) : AA.may { zeroA 7 with data := v, dl := l } = decide (l.length ≤ 2048) := by
  simp [AA.may, AA.laid, layAll, AA.start, fieldsOf, LS.step, zeroA, AA.zeroF, AA.okF, word32, sameA, AA.ints, emptyS_eq]
theorem bytes_size (n : Nat) (s : ByteArray) (hs : s = ⟨(List.replicate n 0).toArray⟩) : s.size = n := by
  subst hs
  show (List.replicate n (0 : UInt8)).toArray.size = n
  simp

set_option maxHeartbeats 1000000 in
theorem bounds_c (a0 a1 : Int) (w0 : (Lit.int .i64 a0).wf = true) (w1 : (Lit.int .i64 a1).wf = true) (w : World) :
    Calls Try.prog 3 #[.int .i64 a0, .int .i64 a1] w fun e w' => e = .returned (.bool true) ∧ w.grownBy w' none := by
  have b0 : -9223372036854775808 ≤ a0 ∧ a0 ≤ 9223372036854775807 := (Lit.wf_int_iff .i64 a0).1 w0
  have b1 : -9223372036854775808 ≤ a1 ∧ a1 ≤ 9223372036854775807 := (Lit.wf_int_iff .i64 a1).1 w1
  go_enter Try.func3, Try.ntmps3
  go_wp2_with fail
  refine (around_c a0 11 _ (by omega) (by omega) (by omega) (by omega)).mono ?_
  rintro e w1 ⟨rfl, rfl⟩
  have h0 := aroundN_nonneg a0 11 (by omega)
  have h1 := aroundN_lt a0 11 (by omega)
  generalize aroundN a0 11 = p at *
  obtain ⟨k, hk⟩ : ∃ k : Nat, 60 + p = k := ⟨(60 + p).toNat, by omega⟩
  go_wp2_with fail
  refine (around_c a1 12 _ (by omega) (by omega) (by omega) (by omega)).mono ?_
  rintro e w1 ⟨rfl, rfl⟩
  have h2 := aroundN_nonneg a1 12 (by omega)
  have h3 := aroundN_lt a1 12 (by omega)
  generalize aroundN a1 12 = q at *
  obtain ⟨d, hd⟩ : ∃ d : Nat, 2040 + q = d := ⟨(2040 + q).toNat, by omega⟩
  go_wp2_with (at_make; refine wp_make rfl _ _ rfl k _ rfl rfl (by omega) (by omega) ?_)
  intro w1 ho1 hg1
  obtain ⟨s, hs⟩ : ∃ s : ByteArray, s = ⟨(List.replicate k 0).toArray⟩ := ⟨_, rfl⟩
  have hsz : s.size = k := bytes_size k s hs
  have hback := run_convback w1 _ k k _ ho1.bs
  rw [← hs] at hback
  clear ho1 hs
  go_wp2_with fail
  refine (may_c { zeroA 3 with name := s } _ ⟨by show s.size ≤ _; omega, (Nat.zero_le _), BS.nil _, (Nat.zero_le _)⟩).mono ?_
  rintro e w2 ⟨rfl, hg2⟩
  rw [may_lookup, hsz]
  clear hback
  go_wp2_with fail
  refine (may_c { zeroA 14 with name2 := s } _ ⟨(Nat.zero_le _), by show s.size ≤ _; omega, BS.nil _, (Nat.zero_le _)⟩).mono ?_
  rintro e w3 ⟨rfl, hg3⟩
  rw [may_rename, hsz]
  go_wp2_with (at_make; refine wp_make rfl _ _ rfl d _ rfl rfl (by omega) (by omega) ?_)
  intro w4 ho4 hg4
  go_wp2_with fail
  refine (may_c { zeroA 7 with data := .slice (some ⟨w3.heap.size, 0, none⟩) d d, dl := List.replicate d 0 } _ ⟨(Nat.zero_le _), (Nat.zero_le _), ho4.bs, by simp; omega⟩).mono ?_
  rintro e w5 ⟨rfl, hg5⟩
  rw [may_write, List.length_replicate]
  go_wp2_with fail
  refine (lives14_c _).mono ?_
  rintro e w6 ⟨rfl, hg6⟩
  go_wp2_with fail
  go_ret
  exact ⟨rfl, gb_trans (gb_trans (gb_trans (gb_trans (gb_trans hg1 hg2) hg3) hg4) hg5) hg6⟩
open Go.ChangeShapes Go.WideShapes in
theorem callsBounds_walk {H : Type} {enc : TypeId × Value → H} (W : World) (base : Nat) (args : Array Value) (ds : List (DataW H)) (p : List MemPlace)
    (hval : ∀ (j : Nat) t v, Try.f3.params[j]? = some t → args[j]? = some v → Value.okWide Try.prog W .any base t v)
    (hA : DataW.TrodAll enc Try.prog W 0 (fun _ => true) true Try.f3.params.toList args.toList ds p) :
    Calls Try.prog 3 args W fun e W' => e = .returned (.bool true) ∧ W.grownBy W' none := by
  rw [Try.params3] at hA hval
  obtain ⟨v0, vs0, d0, ds0, p0, q0, hargs, rfl, rfl, h0, r0⟩ := trodAll_cons hA
  obtain ⟨v1, vs1, d1, ds1, p1, q1, rfl, rfl, rfl, h1, r1⟩ := trodAll_cons r0
  obtain ⟨rfl, rfl, rfl⟩ := trodAll_nil r1
  obtain rfl : args = #[v0, v1] := by cases args; simp_all
  obtain ⟨a0, rfl, rfl, rfl, w0⟩ := open_int Try.underlying3 (hval 0 _ v0 rfl rfl) h0
  obtain ⟨a1, rfl, rfl, rfl, w1⟩ := open_int Try.underlying3 (hval 1 _ v1 rfl rfl) h1
  exact bounds_c a0 a1 w0 w1 W
end Go.Tr
