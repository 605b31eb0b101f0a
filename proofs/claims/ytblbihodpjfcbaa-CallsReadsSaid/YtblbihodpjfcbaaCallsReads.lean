/- CallsReads. -/
import Derived.Test.YtblbihodpjfcbaaLaw
import Derived.Test.YtblbihodpjfcbaaC5w
namespace Go.Proofs.Ytblbihodpjfcbaa.callsReads
open Go.ChangeShapes Go.WideShapes Go.ChangeAt Go.RowKit Go.Tr
set_option linter.unusedVariables false
set_option maxRecDepth 100000 in
theorem lifted (os : Os) (started : os.Started) (H : Type) (enc : TypeId × Value → H) :
    ReturnsInHanded {} Try.checked os 5 .any (Rows.callsReadsSpec.pre6 enc Try.prog Try.f5 Rows.callsReadsRow.domain false) (Rows.callsReadsSpec.post enc Try.prog Try.f5 false true false false) :=
  law_lift os started H enc (by kernel_rfl) Try.func5
    (ChangeSpec.witness6 (enc := enc) (C := Try.checked) false ⟨#[], #[.slice none 0 0, .agg #[.int .i64 0, .int .i64 0, .int .i64 0, .int .i64 0, .int .i64 0, .int .i64 0, .int .i64 0, .int .i64 0, .int .i64 0, .string ByteArray.empty, .string ByteArray.empty, .slice none 0 0], .int .i64 0, .int .u8 0, .int .i64 0], []⟩ 8 (by kernel_rfl) (by kernel_rfl) (by kernel_rfl) (by kernel_rfl)) rfl rfl
    (fun ds hd => by (match ds, hd with | [d0, d1, d2, d3, d4], _ => rfl))
    (by rw [Try.params5]; decide +kernel)
    (fun W base args ds p hval hA => callsReads_walk W base args ds p hval hA)
theorem over : Rows.callsReadsRow.holds Try.pinned (OpenSpec.ofChange Rows.callsReadsSpec) :=
  OpenClaim.holds_of_wide 5 Try.f5 rfl rfl rfl rfl rfl rfl rfl ⟨rfl, rfl, rfl, rfl, rfl⟩ rfl rfl rfl rfl rfl (by kernel_rfl) Try.func5 (by kernel_rfl)
    (of_decide_eq_true (by kernel_rfl)) (by unfold Func.isWrapper; first | (rw [if_pos (by decide +kernel)]; kernel_rfl) | (rw [if_neg (by decide +kernel)]; exact ⟨rfl, rfl⟩))
    (fun os started H enc _ => lifted os started H enc)
theorem proved : Rows.CallsReadsSaid := over
#print axioms proved
end Go.Proofs.Ytblbihodpjfcbaa.callsReads
