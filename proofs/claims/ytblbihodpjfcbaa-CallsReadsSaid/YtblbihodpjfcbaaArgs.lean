/- An argument of type api.Args is opened. Not built yet. -/
import Derived.Test.YtblbihodpjfcbaaMade
import Derived.Test.YtblbihodpjfcbaaLaw
import Derived.Deep.Slices
namespace Go.Tr
open Go.RowKit Go.Proofs Go.ChangeShapes Go.WideShapes
set_option linter.unusedVariables false
theorem wf64 {n : Int} (h : (Lit.int .i64 n).wf = true) : -9223372036854775808 ≤ n ∧ n ≤ 9223372036854775807 := (Lit.wf_int_iff .i64 n).1 h
/-- the bytes that a slice of bytes reads as -/
theorem open_bytes {H : Type} {enc : TypeId × Value → H} {w : World} {fuel : Nat} {cs : List Value} {x : DataW H × List MemPlace} (h : DataW.trod enc Try.prog w 0 (fun _ => true) true fuel tBs cs = some x) :
    ∃ v l, cs = [v] ∧ BR w.heap.size w v l ∧ l.length ≤ 9223372036854775807 := by
  rcases open_ints Try.underlying23 Try.underlying5 (by kernel_rfl) h with ⟨rfl, _⟩ | ⟨a, len, cap, zs, rfl, _, hl, hm, hlen, _, hc, hw⟩
  · exact ⟨_, [], rfl, ⟨none, 0, rfl, Nat.le_refl _, fun _ => rfl, fun a h => by cases h⟩, by simp⟩
  · simp only [if_true] at hlen
    have hr : ∀ z ∈ zs, 0 ≤ z ∧ z ≤ 255 := fun z hz => (Lit.wf_int_iff .u8 z).1 (hw z hz)
    have hll : ((zs.take len).map (fun z => UInt8.ofNat z.toNat)).length = len := by
      rw [List.length_map, List.length_take]
      omega
    refine ⟨_, (zs.take len).map (fun z => UInt8.ofNat z.toNat), rfl, ⟨some a, cap, by rw [hll], by rw [hll]; exact hl, fun h => by (cases h), fun b hb j u hu => ?_⟩, by rw [hll]; simp only [maxLen] at hm; omega⟩
    injection hb with hb
    subst hb
    have hj : j < len := by
      have := (List.getElem?_eq_some_iff.1 hu).1
      rw [bv_length, hll] at this
      exact this
    have hc1 := hc j (by omega)
    have hz := hr zs[j] (List.getElem_mem (by omega))
    have hgd : zs.getD j 0 = zs[j] := by rw [List.getD_eq_getElem?_getD, List.getElem?_eq_getElem (by omega)]; rfl
    rw [hgd] at hc1
    have hub : u = .int .u8 zs[j] := by
      rw [bv_get (by rw [hll]; exact hj)] at hu
      injection hu with hu
      rw [← hu, List.getElem_map, List.getElem_take]
      rw [UInt8.toNat_ofNat']
      congr 1
      omega
    subst hub
    refine ⟨?_, hc1⟩
    have := World.block_lt_of_cell? w _ hc1
    unfold Addr.add at this
    split at this <;> exact this
theorem open_args {H : Type} {enc : TypeId × Value → H} {w : World} {base : Nat} {v : Value} {d : DataW H} {p : List MemPlace} (hv : Value.okWide Try.prog w .any base tArgs v) (h : DataW.Trod enc Try.prog w 0 (fun _ => true) true tArgs v d p) :
    ∃ a u, v = (AA.at a u).val ∧ Raw w a u := by
  obtain ⟨cs, rfl, hsz⟩ := okWide_struct Try.underlying28 hv
  have hC : Try.prog.cellsOf tArgs = 12 := by kernel_rfl
  have hC1 : Try.prog.cellsOf 3 = 1 := by kernel_rfl
  have hC2 : Try.prog.cellsOf tHd = 2 := by kernel_rfl
  have hC3 : Try.prog.cellsOf tStr = 1 := by kernel_rfl
  have hC4 : Try.prog.cellsOf tBs = 1 := by kernel_rfl
  obtain ⟨l⟩ := cs
  match l, hsz.trans hC with
  | [c0, c1, c2, c3, c4, c5, c6, c7, c8, c9, c10, c11], _ =>
    obtain ⟨fuel, hf⟩ := h
    obtain ⟨xs, n, _, _, _, hlen, hg⟩ := DataW.trod_struct Try.underlying28 hf
    have hx : ∀ i, i < 10 → ∃ y, xs[i]? = some y := fun i hi => ⟨_, List.getElem?_eq_getElem (by rw [hlen]; exact hi)⟩
    obtain ⟨y0, e0⟩ := hx 0 (by omega)
    obtain ⟨y1, e1⟩ := hx 1 (by omega)
    obtain ⟨y2, e2⟩ := hx 2 (by omega)
    obtain ⟨y3, e3⟩ := hx 3 (by omega)
    obtain ⟨y4, e4⟩ := hx 4 (by omega)
    obtain ⟨y5, e5⟩ := hx 5 (by omega)
    obtain ⟨y6, e6⟩ := hx 6 (by omega)
    obtain ⟨y7, e7⟩ := hx 7 (by omega)
    obtain ⟨y8, e8⟩ := hx 8 (by omega)
    obtain ⟨y9, e9⟩ := hx 9 (by omega)
    have g0 := (hg 0 _ rfl).trans e0
    have g1 := (hg 1 _ rfl).trans e1
    have g2 := (hg 2 _ rfl).trans e2
    have g3 := (hg 3 _ rfl).trans e3
    have g4 := (hg 4 _ rfl).trans e4
    have g5 := (hg 5 _ rfl).trans e5
    have g6 := (hg 6 _ rfl).trans e6
    have g7 := (hg 7 _ rfl).trans e7
    have g8 := (hg 8 _ rfl).trans e8
    have g9 := (hg 9 _ rfl).trans e9
    have k0 : DataW.trod enc Try.prog w 0 (fun _ => true) true n 3 [c0] = some y0 := by simpa [Value.cells, hC1] using g0
    obtain ⟨n0, h0, _, w0⟩ := DataW.trod_int Try.underlying3 k0
    injection h0 with h0 _
    subst h0
    have k1 : DataW.trod enc Try.prog w 0 (fun _ => true) true n 3 [c1] = some y1 := by simpa [Value.cells, hC1] using g1
    obtain ⟨n1, h1, _, w1⟩ := DataW.trod_int Try.underlying3 k1
    injection h1 with h1 _
    subst h1
    have k2 : DataW.trod enc Try.prog w 0 (fun _ => true) true n 3 [c2] = some y2 := by simpa [Value.cells, hC1] using g2
    obtain ⟨n2, h2, _, w2⟩ := DataW.trod_int Try.underlying3 k2
    injection h2 with h2 _
    subst h2
    have k3 : DataW.trod enc Try.prog w 0 (fun _ => true) true n 3 [c3] = some y3 := by simpa [Value.cells, hC1] using g3
    obtain ⟨n3, h3, _, w3⟩ := DataW.trod_int Try.underlying3 k3
    injection h3 with h3 _
    subst h3
    have k4 : DataW.trod enc Try.prog w 0 (fun _ => true) true n 3 [c4] = some y4 := by simpa [Value.cells, hC1] using g4
    obtain ⟨n4, h4, _, w4⟩ := DataW.trod_int Try.underlying3 k4
    injection h4 with h4 _
    subst h4
    have k5 : DataW.trod enc Try.prog w 0 (fun _ => true) true n tHd [c5, c6] = some y5 := by simpa [Value.cells, hC2] using g5
    obtain ⟨zs5, m5, _, _, _, hl5, hh5⟩ := DataW.trod_struct Try.underlying26 k5
    obtain ⟨z5, ez5⟩ : ∃ y, zs5[0]? = some y := ⟨_, List.getElem?_eq_getElem (by rw [hl5]; decide)⟩
    have kk5 : DataW.trod enc Try.prog w 0 (fun _ => true) true m5 3 [c5] = some z5 := by simpa [hC1] using (hh5 0 _ rfl).trans ez5
    obtain ⟨n5, h5, _, w5⟩ := DataW.trod_int Try.underlying3 kk5
    injection h5 with h5 _
    subst h5
    obtain ⟨z6, ez6⟩ : ∃ y, zs5[1]? = some y := ⟨_, List.getElem?_eq_getElem (by rw [hl5]; decide)⟩
    have kk6 : DataW.trod enc Try.prog w 0 (fun _ => true) true m5 3 [c6] = some z6 := by simpa [hC1] using (hh5 1 _ rfl).trans ez6
    obtain ⟨n6, h6, _, w6⟩ := DataW.trod_int Try.underlying3 kk6
    injection h6 with h6 _
    subst h6
    have k6 : DataW.trod enc Try.prog w 0 (fun _ => true) true n tHd [c7, c8] = some y6 := by simpa [Value.cells, hC2] using g6
    obtain ⟨zs6, m6, _, _, _, hl6, hh6⟩ := DataW.trod_struct Try.underlying26 k6
    obtain ⟨z7, ez7⟩ : ∃ y, zs6[0]? = some y := ⟨_, List.getElem?_eq_getElem (by rw [hl6]; decide)⟩
    have kk7 : DataW.trod enc Try.prog w 0 (fun _ => true) true m6 3 [c7] = some z7 := by simpa [hC1] using (hh6 0 _ rfl).trans ez7
    obtain ⟨n7, h7, _, w7⟩ := DataW.trod_int Try.underlying3 kk7
    injection h7 with h7 _
    subst h7
    obtain ⟨z8, ez8⟩ : ∃ y, zs6[1]? = some y := ⟨_, List.getElem?_eq_getElem (by rw [hl6]; decide)⟩
    have kk8 : DataW.trod enc Try.prog w 0 (fun _ => true) true m6 3 [c8] = some z8 := by simpa [hC1] using (hh6 1 _ rfl).trans ez8
    obtain ⟨n8, h8, _, w8⟩ := DataW.trod_int Try.underlying3 kk8
    injection h8 with h8 _
    subst h8
    have k7 : DataW.trod enc Try.prog w 0 (fun _ => true) true n tStr [c9] = some y7 := by simpa [Value.cells, hC3] using g7
    obtain ⟨s9, h9, _, w9⟩ := DataW.trod_string Try.underlying9 k7
    injection h9 with h9 _
    subst h9
    have k8 : DataW.trod enc Try.prog w 0 (fun _ => true) true n tStr [c10] = some y8 := by simpa [Value.cells, hC3] using g8
    obtain ⟨s10, h10, _, w10⟩ := DataW.trod_string Try.underlying9 k8
    injection h10 with h10 _
    subst h10
    have k9 : DataW.trod enc Try.prog w 0 (fun _ => true) true n tBs [c11] = some y9 := by simpa [Value.cells, hC4] using g9
    obtain ⟨u, dl, hu, hbr, hdl⟩ := open_bytes k9
    injection hu with hu _
    subst hu
    refine ⟨{ proc := n0, off := n1, count := n2, size := n3, mode := n4, hi := n5, hg := n6, ji := n7, jg := n8, name := s9, name2 := s10, data := .slice none 0 0, dl := dl }, c11, rfl, ?_, (by have := w9; simp only [maxLen] at this; exact this), (by have := w10; simp only [maxLen] at this; exact this), ⟨w.heap.size, Nat.le_refl _, hbr⟩, hdl⟩
    intro x hx'
    simp only [List.mem_cons, List.not_mem_nil, or_false] at hx'
    rcases hx' with rfl | rfl | rfl | rfl | rfl | rfl | rfl | rfl | rfl <;> first | exact wf64 w0 | exact wf64 w1 | exact wf64 w2 | exact wf64 w3 | exact wf64 w4 | exact wf64 w5 | exact wf64 w6 | exact wf64 w7 | exact wf64 w8
end Go.Tr
