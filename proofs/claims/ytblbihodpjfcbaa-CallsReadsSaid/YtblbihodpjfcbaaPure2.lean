/- What may be, made of any: it may be, and its bytes are the document's. Plain, no program. No condition. -/
import Derived.Test.YtblbihodpjfcbaaPure
import Derived.Test.YtblbihodpjfcbaaGood2
import Derived.Test.YtblbihodpjfcbaaC1
namespace Go.Tr
set_option linter.unusedVariables false
structure OwnF (x : AA) (u : Value) : Prop where
  proc : (ownA x).proc = x.proc
  refB : ((ownA x).at u).refB = (fieldsOf x.proc).flatMap x.bytesF
  may : ((ownA x).at u).may = true
  bytes : ((ownA x).at u).bytes = (fieldsOf x.proc).flatMap x.bytesF
  n1 : (ownA x).name.size ≤ 40
  n2 : (ownA x).name2.size ≤ 40
  dl : (ownA x).dl.length ≤ 30
theorem word32_ok {x : Int} (h : 0 ≤ x ∧ x < 4294967296) : word32 x = true := by
  unfold word32
  simp
  omega
set_option maxHeartbeats 4000000 in
theorem own_facts (x : AA) (u : Value) (hx : Bnd x) (hp : x.proc ∈ procN) : OwnF x u := by
  have w1 := word32_ok hx.size
  have w2 := word32_ok hx.count
  have w3 := word32_ok hx.mode
  have w4 := word32_ok hx.hi
  have w5 := word32_ok hx.hg
  have w6 := word32_ok hx.ji
  have w7 := word32_ok hx.jg
  have o1 := hx.off.1
  have o2 := hx.off.2
  have n1 : x.name.size ≤ 64 := Nat.le_trans hx.n1 (by omega)
  have n2 : x.name2.size ≤ 64 := Nat.le_trans hx.n2 (by omega)
  have dd : x.dl.length ≤ 2048 := Nat.le_trans hx.d (by omega)
  have n1' := hx.n1
  have n2' := hx.n2
  have dd' := hx.d
  have hc : x.proc = 1 ∨ x.proc = 2 ∨ x.proc = 3 ∨ x.proc = 6 ∨ x.proc = 7 ∨ x.proc = 8 ∨ x.proc = 9 ∨ x.proc = 12 ∨ x.proc = 13 ∨ x.proc = 14 ∨ x.proc = 16 := by simpa [procN] using hp
  obtain ⟨proc, off, count, size, mode, hi, hg, ji, jg, name, name2, data, dl⟩ := x
  simp only [] at *
  clear hx hp
  rcases hc with rfl | rfl | rfl | rfl | rfl | rfl | rfl | rfl | rfl | rfl | rfl
  all_goals
    refine ⟨rfl, ?_, ?_, ?_, ?_, ?_, ?_⟩
    · simp [AA.refB, ownA, AA.at, fieldsOf, AA.setF, zeroA, AA.bytesF]
    · simp [AA.may, AA.laid, layAll, AA.start, fieldsOf, LS.step, ownA, AA.setF, zeroA, AA.at, AA.zeroF, AA.okF, sameA, AA.ints, emptyS_eq, *]
    · simp [AA.bytes, AA.laid, layAll, AA.start, fieldsOf, LS.step, ownA, AA.setF, zeroA, AA.at, AA.zeroF, AA.bytesF]
    · first | exact n1' | exact Nat.zero_le _
    · first | exact n2' | exact Nat.zero_le _
    · first | exact dd' | exact Nat.zero_le _
end Go.Tr
