/- CallsCuts. -/
import Derived.Test.YtblbihodpjfcbaaLaw
import Derived.Test.YtblbihodpjfcbaaC4
namespace Go.Proofs.Ytblbihodpjfcbaa.callsCuts
open Go.ChangeShapes Go.WideShapes Go.ChangeAt Go.RowKit Go.Tr
set_option linter.unusedVariables false
set_option maxRecDepth 100000 in
theorem lifted (os : Os) (started : os.Started) (H : Type) (enc : TypeId × Value → H) :
    ReturnsInHanded {} Try.checked os 7 .any (Rows.callsCutsSpec.pre6 enc Try.prog Try.f7 Rows.callsCutsRow.domain false) (Rows.callsCutsSpec.post enc Try.prog Try.f7 false true false false) :=
  law_lift os started H enc (by kernel_rfl) Try.func7
    (ChangeSpec.witness6 (enc := enc) (C := Try.checked) false ⟨#[], #[.agg #[.int .i64 0, .int .i64 0, .int .i64 0, .int .i64 0, .int .i64 0, .int .i64 0, .int .i64 0, .int .i64 0, .int .i64 0, .string ByteArray.empty, .string ByteArray.empty, .slice none 0 0]], []⟩ 8 (by kernel_rfl) (by kernel_rfl) (by kernel_rfl) (by kernel_rfl)) rfl rfl
    (fun ds hd => by (match ds, hd with | [d0], _ => rfl))
    (by rw [Try.params7]; decide +kernel)
    (fun W base args ds p hval hA => callsCuts_walk W base args ds p hval hA)
theorem over : Rows.callsCutsRow.holds Try.pinned (OpenSpec.ofChange Rows.callsCutsSpec) :=
  OpenClaim.holds_of_wide 7 Try.f7 rfl rfl rfl rfl rfl rfl rfl ⟨rfl, rfl, rfl, rfl, rfl⟩ rfl rfl rfl rfl rfl (by kernel_rfl) Try.func7 (by kernel_rfl)
    (of_decide_eq_true (by kernel_rfl)) (by unfold Func.isWrapper; first | (rw [if_pos (by decide +kernel)]; kernel_rfl) | (rw [if_neg (by decide +kernel)]; exact ⟨rfl, rfl⟩))
    (fun os started H enc _ => lifted os started H enc)
theorem proved : Rows.CallsCutsSaid := over
#print axioms proved
end Go.Proofs.Ytblbihodpjfcbaa.callsCuts
