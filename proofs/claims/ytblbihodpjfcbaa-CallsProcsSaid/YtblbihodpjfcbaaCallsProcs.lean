/- CallsProcs. -/
import Derived.Test.YtblbihodpjfcbaaLaw
import Derived.Test.YtblbihodpjfcbaaC2
namespace Go.Proofs.Ytblbihodpjfcbaa.callsProcs
open Go.ChangeShapes Go.WideShapes Go.ChangeAt Go.RowKit Go.Tr
set_option linter.unusedVariables false
set_option maxRecDepth 100000 in
theorem lifted (os : Os) (started : os.Started) (H : Type) (enc : TypeId × Value → H) :
    ReturnsInHanded {} Try.checked os 4 .any (Rows.callsProcsSpec.pre6 enc Try.prog Try.f4 Rows.callsProcsRow.domain false) (Rows.callsProcsSpec.post enc Try.prog Try.f4 false true false false) :=
  law_lift os started H enc (by kernel_rfl) Try.func4
    (ChangeSpec.witness6 (enc := enc) (C := Try.checked) false ⟨#[], #[.int .i64 0], []⟩ 8 (by kernel_rfl) (by kernel_rfl) (by kernel_rfl) (by kernel_rfl)) rfl rfl
    (fun ds hd => by (match ds, hd with | [d0], _ => rfl))
    (by rw [Try.params4]; decide +kernel)
    (fun W base args ds p hval hA => callsProcs_walk W base args ds p hval hA)
theorem over : Rows.callsProcsRow.holds Try.pinned (OpenSpec.ofChange Rows.callsProcsSpec) :=
  OpenClaim.holds_of_wide 4 Try.f4 rfl rfl rfl rfl rfl rfl rfl ⟨rfl, rfl, rfl, rfl, rfl⟩ rfl rfl rfl rfl rfl (by kernel_rfl) Try.func4 (by kernel_rfl)
    (of_decide_eq_true (by kernel_rfl)) (by unfold Func.isWrapper; first | (rw [if_pos (by decide +kernel)]; kernel_rfl) | (rw [if_neg (by decide +kernel)]; exact ⟨rfl, rfl⟩))
    (fun os started H enc _ => lifted os started H enc)
theorem proved : Rows.CallsProcsSaid := over
#print axioms proved
end Go.Proofs.Ytblbihodpjfcbaa.callsProcs
