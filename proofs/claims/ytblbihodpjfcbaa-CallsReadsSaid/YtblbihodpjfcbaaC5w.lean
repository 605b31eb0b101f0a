/- The walk of CallsReads, of any arguments. No condition. -/
import Derived.Test.YtblbihodpjfcbaaC5
namespace Go.Tr
open Go.RowKit Go.Proofs
set_option linter.unusedVariables false
open Go.ChangeShapes Go.WideShapes in
theorem open_bytesV {H : Type} {enc : TypeId × Value → H} {w : World} {base : Nat} {v : Value} {d : DataW H} {p : List MemPlace} (hv : Value.okWide Try.prog w .any base tBs v) (h : DataW.Trod enc Try.prog w 0 (fun _ => true) true tBs v d p) :
    ∃ l, BR w.heap.size w v l ∧ l.length ≤ 9223372036854775807 := by
  obtain ⟨A, n, c, rfl⟩ := okWide_slice Try.underlying23 hv
  obtain ⟨fuel, hf⟩ := h
  obtain ⟨v', l, hv', hb, hl⟩ := open_bytes hf
  refine ⟨l, ?_, hl⟩
  have he : Value.slice A n c = v' := by simpa [Value.cells] using hv'
  rw [he]
  exact hb
open Go.ChangeShapes Go.WideShapes in
theorem callsReads_walk {H : Type} {enc : TypeId × Value → H} (W : World) (base : Nat) (args : Array Value) (ds : List (DataW H)) (p : List MemPlace)
    (hval : ∀ (j : Nat) t v, Try.f5.params[j]? = some t → args[j]? = some v → Value.okWide Try.prog W .any base t v)
    (hA : DataW.TrodAll enc Try.prog W 0 (fun _ => true) true Try.f5.params.toList args.toList ds p) :
    Calls Try.prog 5 args W fun e W' => e = .returned (.bool true) ∧ W.grownBy W' none := by
  rw [Try.params5] at hA hval
  obtain ⟨v0, vs0, d0, ds0, p0, q0, hargs, rfl, rfl, h0, r0⟩ := trodAll_cons hA
  obtain ⟨v1, vs1, d1, ds1, p1, q1, rfl, rfl, rfl, h1, r1⟩ := trodAll_cons r0
  obtain ⟨v2, vs2, d2, ds2, p2, q2, rfl, rfl, rfl, h2, r2⟩ := trodAll_cons r1
  obtain ⟨v3, vs3, d3, ds3, p3, q3, rfl, rfl, rfl, h3, r3⟩ := trodAll_cons r2
  obtain ⟨v4, vs4, d4, ds4, p4, q4, rfl, rfl, rfl, h4, r4⟩ := trodAll_cons r3
  obtain ⟨rfl, rfl, rfl⟩ := trodAll_nil r4
  obtain rfl : args = #[v0, v1, v2, v3, v4] := by cases args; simp_all
  obtain ⟨l0, hb0, hl0⟩ := open_bytesV (hval 0 _ v0 rfl rfl) h0
  obtain ⟨a, u, rfl, hr⟩ := open_args (hval 1 _ v1 rfl rfl) h1
  obtain ⟨a2, rfl, rfl, rfl, w2⟩ := open_int Try.underlying3 (hval 2 _ v2 rfl rfl) h2
  obtain ⟨a3, rfl, rfl, rfl, w3⟩ := open_int Try.underlying5 (hval 3 _ v3 rfl rfl) h3
  obtain ⟨a4, rfl, rfl, rfl, w4⟩ := open_int Try.underlying3 (hval 4 _ v4 rfl rfl) h4
  have hr3 : 0 ≤ a3 ∧ a3 ≤ 255 := (Lit.wf_int_iff .u8 a3).1 w3
  obtain ⟨cb, rfl⟩ : ∃ cb : UInt8, a3 = (cb.toNat : Int) := ⟨UInt8.ofNat a3.toNat, by rw [UInt8.toNat_ofNat']; omega⟩
  exact reads_c v0 l0 a u a2 cb a4 W hb0 hl0 hr (wf64 w2) (wf64 w4)
end Go.Tr
