/- make([]byte, n). No condition. -/
import Derived.Test.YtblbihodpjfcbaaBase
namespace Go.Tr
open Go.RowKit Go.Proofs
set_option linter.unusedVariables false
theorem wp_make {ops : Array Oper} {rest : List Oper} {o : Oper} {a : Act} {w : World} {Q : Exit → Act → World → Prop} (hgd : o.guard = none) (l c : Operand) (ho : o.op = .makeSlice tBs l c)
    (k : Nat) (L : Int) (hl : a.eval l = .int .i64 L) (hc : a.eval c = .int .i64 L) (hL : L = (k : Int)) (hk : k ≤ 1000000000)
    (h : ∀ w', OwnB w.heap.size w' (.slice (some ⟨w.heap.size, 0, none⟩) k k) (List.replicate k 0) → w.grownBy w' none → wpList Try.prog ops Q rest (a.put o.dst (.slice (some ⟨w.heap.size, 0, none⟩) k k)) w') :
    wpList Try.prog ops Q (o :: rest) a w := by
  obtain ⟨i0, hi, hz0, hz1, hz2⟩ := info_parts infoU8
  refine wpList_make_full w hgd l c tBs ho w.heap.size tU8 i0 _ 1 Try.underlying23 hi hz0 hz1 .i64 .i64 L L k hl hc hL hL (by rw [hz2]; omega) (by unfold maxLen; omega) (Nat.le_refl _) ?_
  intro w' h1 h2
  refine h w' ?_ h2
  unfold OwnB
  rw [List.length_replicate]
  have : (madeCells (Value.int .u8 0).cells (k * 1)).toList = bv (List.replicate k 0) := by
    show (madeCells #[.int .u8 0] (k * 1)).toList = _
    rw [toList_madeCells_one]
    simp [bv]
  rw [← this]
  exact h1
end Go.Tr
