/- The walk of CallsRound, of any argument. No condition. -/
import Derived.Test.YtblbihodpjfcbaaC3
import Derived.Test.YtblbihodpjfcbaaArgs
namespace Go.Tr
open Go.RowKit Go.Proofs
set_option linter.unusedVariables false
open Go.ChangeShapes Go.WideShapes in
theorem callsRound_walk {H : Type} {enc : TypeId × Value → H} (W : World) (base : Nat) (args : Array Value) (ds : List (DataW H)) (p : List MemPlace)
    (hval : ∀ (j : Nat) t v, Try.f6.params[j]? = some t → args[j]? = some v → Value.okWide Try.prog W .any base t v)
    (hA : DataW.TrodAll enc Try.prog W 0 (fun _ => true) true Try.f6.params.toList args.toList ds p) :
    Calls Try.prog 6 args W fun e W' => e = .returned (.bool true) ∧ W.grownBy W' none := by
  rw [Try.params6] at hA hval
  obtain ⟨v0, vs0, d0, ds0, p0, q0, hargs, rfl, rfl, h0, r0⟩ := trodAll_cons hA
  obtain ⟨rfl, rfl, rfl⟩ := trodAll_nil r0
  obtain rfl : args = #[v0] := by cases args; simp_all
  obtain ⟨a, u, rfl, hr⟩ := open_args (hval 0 _ v0 rfl rfl) h0
  exact round_c a u W hr
end Go.Tr
