/- A law of plain data over a listed variable: what is left to prove is the walk. For every law of this seat. -/
import Derived.Test.YtdbacbhopkdhgaaDoorRows
import Derived.Test.YtdbacbhopkdhgaaDoorTie
import Derived.Test.YtdbacbhopkdhgaaDoorCards
import Derived.Test.YtdbacbhopkdhgaaDoorAOdd
import Derived.ProofKit
import Derived.LaidMore
import Derived.OpenShut
import Derived.Carry
import Derived.DataShut
import Derived.Stop.Joined
import Derived.SevenTiedAt
namespace Go.Tr
open Go.ChangeShapes Go.WideShapes Go.ChangeAt Go.RowKit Go.Proofs Go.Proofs.YtdbacbhopkdhgaaDoor
set_option linter.unusedVariables false
theorem ownK : ownKnob Tryd.prog.godebug = none := by kernel_rfl
theorem laidOut : laidOutB Tryd.prog = true := by kernel_rfl
theorem gTab : Tryd.prog.globalNamed "truchman/codes.table" = some 0 := by kernel_rfl
theorem tyTab : (Tryd.prog.globals[0]?).map (·.type) = some tTab := by kernel_rfl
abbrev laidT : List (String × DataW Unit) := [("truchman/codes.table", Rows.laid_truchman_codes_table)]
def rowD {H : Type} (r : Rw) : DataW H := .agg [.lit (.int .i64 r.e), .lit (.int .u32 r.s), .lit (.int .i64 r.c), .lit (.string r.t.data.toList)]
theorem laid_rows : (Rows.laid_truchman_codes_table : DataW Unit) = .agg (rows.map rowD) := rfl
set_option maxRecDepth 100000 in
theorem row_open {H : Type} {enc : TypeId × Value → H} {W : World} {sp : Nat → Bool} {hd : Bool} {n : Nat} {cs : List Value} {y : DataW H × List MemPlace} {r : Rw} (h : DataW.trod enc Tryd.prog W 0 sp hd n tRow cs = some y) (hy : y.1 = rowD r) : cs = r.cells := by
  obtain ⟨xs, m, _, hx, hlen, hxl, hf⟩ := DataW.trod_struct Tryd.underlying100 h
  have hC : Tryd.prog.cellsOf tRow = 4 := by kernel_rfl
  have hC1 : Tryd.prog.cellsOf tErr = 1 := by kernel_rfl
  have hC2 : Tryd.prog.cellsOf tU32 = 1 := by kernel_rfl
  have hC3 : Tryd.prog.cellsOf tInt = 1 := by kernel_rfl
  have hC4 : Tryd.prog.cellsOf tStr = 1 := by kernel_rfl
  match cs, hlen.trans hC with
  | [c0, c1, c2, c3], _ =>
    match xs, hxl with
    | [x0, x1, x2, x3], _ =>
      have k0 : DataW.trod enc Tryd.prog W 0 sp hd m tErr [c0] = some x0 := by simpa [hC1] using hf 0 _ rfl
      have k1 : DataW.trod enc Tryd.prog W 0 sp hd m tU32 [c1] = some x1 := by simpa [hC2] using hf 1 _ rfl
      have k2 : DataW.trod enc Tryd.prog W 0 sp hd m tInt [c2] = some x2 := by simpa [hC3] using hf 2 _ rfl
      have k3 : DataW.trod enc Tryd.prog W 0 sp hd m tStr [c3] = some x3 := by simpa [hC4] using hf 3 _ rfl
      obtain ⟨n0, e0, d0, _⟩ := DataW.trod_int Tryd.underlying22 k0
      obtain ⟨n1, e1, d1, _⟩ := DataW.trod_int Tryd.underlying52 k1
      obtain ⟨n2, e2, d2, _⟩ := DataW.trod_int Tryd.underlying3 k2
      obtain ⟨s3, e3, d3, _⟩ := DataW.trod_string Tryd.underlying9 k3
      injection e0 with e0 _
      injection e1 with e1 _
      injection e2 with e2 _
      injection e3 with e3 _
      subst e0 e1 e2 e3 hx d0 d1 d2 d3
      simp only [rowD, List.map_cons, List.map_nil, DataW.agg.injEq, List.cons.injEq, DataW.lit.injEq, Lit.int.injEq, Lit.string.injEq, true_and, and_true] at hy
      obtain ⟨rfl, rfl, rfl, hs⟩ := hy
      have hst : s3 = r.t := by
        obtain ⟨⟨a⟩⟩ := s3
        obtain ⟨_, _, _, ⟨⟨b⟩⟩⟩ := r
        simp only at hs
        subst hs
        rfl
      rw [hst]
      rfl
theorem rows_join : ∀ (rs : List Rw) (l : List Value), l.length = rs.length * 4 → (∀ (i : Nat) (hi : i < rs.length), (l.drop (i * 4)).take 4 = (rs[i]).cells) → l = rs.flatMap Rw.cells
  | [], l, hl, _ => by simpa using hl
  | r :: rs, l, hl, h => by
    have h0 := h 0 (by simp)
    simp only [Nat.zero_mul, List.drop_zero, List.getElem_cons_zero] at h0
    have h1 := rows_join rs (l.drop 4) (by rw [List.length_drop, hl, List.length_cons]; omega) (fun i hi => by
      have := h (i + 1) (by simpa using hi)
      rw [List.drop_drop, show 4 + i * 4 = (i + 1) * 4 by omega]
      simpa using this)
    rw [List.flatMap_cons, ← h0, ← h1, List.take_append_drop]
set_option maxRecDepth 100000 in
theorem of_laid {W : World} (h : laidMetH Tryd.prog laidT W) : Tab W := by
  rw [MakeChecks.laidMetH_plain _ _ _ (by kernel_rfl)] at h
  obtain ⟨ps, ⟨g0, t0, cs0, f0, p0, q0, hg0, ht0, hv0, hd0, _, _⟩, _, _⟩ := h
  obtain rfl := Option.some.inj (gTab.symm.trans hg0)
  obtain rfl := Option.some.inj (tyTab.symm.trans ht0)
  obtain ⟨xs, m1, _, hx1, hlen, hn, hel⟩ := DataW.trod_array Tryd.underlying105 hd0
  have hC : Tryd.prog.cellsOf tTab = 76 := by kernel_rfl
  have hC4 : Tryd.prog.cellsOf tRow = 4 := by kernel_rfl
  rw [laid_rows] at hx1
  simp only [Prod.mk.injEq, DataW.agg.injEq] at hx1
  have hcs : cs0.toList = rows.flatMap Rw.cells := by
    refine rows_join rows cs0.toList (hlen.trans hC) (fun i hi => ?_)
    have hi19 : i < 19 := hi
    have h1 := hel i hi19
    rw [hC4] at h1
    have hxi : xs[i]? = some (xs[i]'(by rw [hn]; exact hi19)) := List.getElem?_eq_getElem _
    rw [hxi] at h1
    refine row_open h1 ?_
    have h2 : (xs.map (·.1))[i]? = (rows.map rowD)[i]? := by rw [← hx1.1]
    rw [List.getElem?_map, List.getElem?_map, hxi, List.getElem?_eq_getElem hi] at h2
    simpa using h2
  unfold World.var? at hv0
  rw [gTab] at hv0
  simp only [Option.bind_some] at hv0
  unfold Tab
  split at hv0
  · rename_i c t fr hh
    injection hv0 with hv0
    subst hv0
    refine ⟨t, fr, hh.trans ?_⟩
    congr 2
    rw [tabV, ← hcs]
  · cases hv0
end Go.Tr
