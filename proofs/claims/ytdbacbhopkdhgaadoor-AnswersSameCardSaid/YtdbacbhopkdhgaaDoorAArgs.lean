/- An argument of type api.Res is opened. No condition. -/
import Derived.Test.YtdbacbhopkdhgaaDoorALaw
namespace Go.Tr
open Go.RowKit Go.Proofs Go.ChangeShapes Go.WideShapes Go.Deep
set_option linter.unusedVariables false
theorem exists_list {α : Type} {P : Nat → α → Prop} : ∀ (n : Nat), (∀ i, i < n → ∃ e, P i e) → ∃ l : List α, l.length = n ∧ ∀ (i : Nat) e, l[i]? = some e → P i e
  | 0, _ => ⟨[], rfl, fun i e h => by simp at h⟩
  | n + 1, h => by
    obtain ⟨l, hl, hp⟩ := exists_list n (fun i hi => h i (by omega))
    obtain ⟨e, he⟩ := h n (by omega)
    refine ⟨l ++ [e], by simp [hl], fun i x hx => ?_⟩
    rcases Nat.lt_trichotomy i n with h1 | h1 | h1
    · rw [List.getElem?_append_left (by omega)] at hx
      exact hp i x hx
    · subst h1
      rw [List.getElem?_append_right (by omega), hl] at hx
      simp at hx
      rw [← hx]
      exact he
    · rw [List.getElem?_eq_none (by simp [hl]; omega)] at hx
      cases hx
set_option maxRecDepth 100000 in
theorem hd_open {H : Type} {enc : TypeId × Value → H} {W : World} {sp : Nat → Bool} {hd : Bool} {n : Nat} {c0 c1 : Value} {y : DataW H × List MemPlace} (h : DataW.trod enc Tryd.prog W 0 sp hd n tHd [c0, c1] = some y) : ∃ i g, c0 = .int .i64 i ∧ c1 = .int .i64 g ∧ i64ok i ∧ i64ok g := by
  have hC1 : Tryd.prog.cellsOf tInt = 1 := by kernel_rfl
  obtain ⟨zs, m, _, _, _, hl, hh⟩ := DataW.trod_struct Tryd.underlying24 h
  match zs, hl with
  | [z0, z1], _ =>
    have k0 : DataW.trod enc Tryd.prog W 0 sp hd m tInt [c0] = some z0 := by simpa [hC1] using hh 0 _ rfl
    have k1 : DataW.trod enc Tryd.prog W 0 sp hd m tInt [c1] = some z1 := by simpa [hC1] using hh 1 _ rfl
    obtain ⟨n0, e0, _, w0⟩ := DataW.trod_int Tryd.underlying3 k0
    obtain ⟨n1, e1, _, w1⟩ := DataW.trod_int Tryd.underlying3 k1
    injection e0 with e0 _
    injection e1 with e1 _
    exact ⟨n0, n1, e0, e1, wf64 w0, wf64 w1⟩
set_option maxRecDepth 100000 in
theorem ent_open {H : Type} {enc : TypeId × Value → H} {W : World} {sp : Nat → Bool} {hd : Bool} {n : Nat} {cs : List Value} {y : DataW H × List MemPlace} (h : DataW.trod enc Tryd.prog W 0 sp hd n tEnt cs = some y) : ∃ e : Ent, cs = e.cells ∧ e.name.size ≤ 9223372036854775807 ∧ i64ok e.ino ∧ i64ok e.gen := by
  have hC : Tryd.prog.cellsOf tEnt = 3 := by kernel_rfl
  have hC1 : Tryd.prog.cellsOf tStr = 1 := by kernel_rfl
  have hC2 : Tryd.prog.cellsOf tHd = 2 := by kernel_rfl
  obtain ⟨xs, m, _, _, hlen, hxl, hf⟩ := DataW.trod_struct Tryd.underlying57 h
  match cs, hlen.trans hC with
  | [c0, c1, c2], _ =>
    match xs, hxl with
    | [x0, x1], _ =>
      have k0 : DataW.trod enc Tryd.prog W 0 sp hd m tStr [c0] = some x0 := by simpa [hC1] using hf 0 _ rfl
      have k1 : DataW.trod enc Tryd.prog W 0 sp hd m tHd [c1, c2] = some x1 := by simpa [hC2] using hf 1 _ rfl
      obtain ⟨s, e0, _, w0⟩ := DataW.trod_string Tryd.underlying9 k0
      injection e0 with e0 _
      obtain ⟨i, g, rfl, rfl, hi, hg⟩ := hd_open k1
      exact ⟨⟨s, i, g⟩, by rw [e0]; rfl, (by simp only [maxLen] at w0; exact w0), hi, hg⟩
set_option maxRecDepth 100000 in
theorem open_ents {H : Type} {enc : TypeId × Value → H} {w : World} {fuel : Nat} {cs : List Value} {x : DataW H × List MemPlace} (h : DataW.trod enc Tryd.prog w 0 (fun _ => true) true fuel tEnts cs = some x) :
    ∃ v el, cs = [v] ∧ ER w.heap.size w v el ∧ ∀ e ∈ el, e.name.size ≤ 9223372036854775807 ∧ i64ok e.ino ∧ i64ok e.gen := by
  have hC : Tryd.prog.cellsOf tEnt = 3 := by kernel_rfl
  rcases open_slice Tryd.underlying28 h with ⟨rfl, _⟩ | ⟨a, len, cap, m, n, D, Pl, rfl, _, hl, hm, hmm, _, hel⟩
  · exact ⟨_, [], rfl, ⟨none, 0, rfl, Nat.le_refl _, fun _ => rfl, fun h => absurd h (by simp)⟩, fun e he => by cases he⟩
  · simp only [if_true] at hmm
    subst hmm
    obtain ⟨el, hell, hP⟩ := exists_list (P := fun i (e : Ent) => (w.cell? (a.add (i * 3)) = some (.string e.name) ∧ w.cell? ((a.add (i * 3)).add 1) = some (.int .i64 e.ino) ∧ w.cell? ((a.add (i * 3)).add 2) = some (.int .i64 e.gen)) ∧ e.name.size ≤ 9223372036854775807 ∧ i64ok e.ino ∧ i64ok e.gen) len (fun i hi => by
      obtain ⟨cs', hc, ht⟩ := hel i (by omega)
      rw [hC] at hc
      obtain ⟨e, rfl, h1, h2, h3⟩ := ent_open ht
      obtain ⟨_, _, hat⟩ := World.cells?_some hc
      refine ⟨e, ⟨?_, hat 1 (by omega), hat 2 (by omega)⟩, h1, h2, h3⟩
      have h00 := hat 0 (by omega)
      have ha0 : (a.add (i * 3)).add 0 = a.add (i * 3) := rfl
      rw [ha0] at h00
      exact h00)
    refine ⟨_, el, rfl, ⟨some a, m, by rw [hell], by rw [hell]; exact hl, fun h => by (cases h), fun h0 => ?_⟩, fun e he => ?_⟩
    · have h00 := (hP 0 (el[0]'h0) (List.getElem?_eq_getElem h0)).1.1
      rw [Nat.zero_mul] at h00
      have ha0 : a.add 0 = a := by simp [Addr.add]
      rw [ha0] at h00
      have hsp := World.cell?_spot h00
      have hb := World.block_lt_of_cell? w _ h00
      obtain ⟨b, o, sp⟩ := a
      simp only at hsp hb
      subst hsp
      refine ⟨b, o, rfl, hb, fun j e hj => ?_⟩
      have h1 := (hP j e hj).1
      rw [Addr.add_lit, Addr.add_lit, Addr.add_lit] at h1
      exact h1
    · obtain ⟨j, hj, rfl⟩ := List.mem_iff_getElem.1 he
      exact (hP j _ (List.getElem?_eq_getElem hj)).2
set_option maxRecDepth 100000 in
theorem open_res {H : Type} {enc : TypeId × Value → H} {w : World} {base : Nat} {v : Value} {d : DataW H} {p : List MemPlace} (hv : Value.okWide Tryd.prog w .any base tRes v) (h : DataW.Trod enc Tryd.prog w 0 (fun _ => true) true tRes v d p) :
    ∃ r u u', v = (RR.val r u u') ∧ RRaw w r u u' := by
  obtain ⟨cs, rfl, hsz⟩ := okWide_struct Tryd.underlying30 hv
  have hC : Tryd.prog.cellsOf tRes = 10 := by kernel_rfl
  have hC0 : Tryd.prog.cellsOf tErr = 1 := by kernel_rfl
  have hC1 : Tryd.prog.cellsOf tAttr = 5 := by kernel_rfl
  have hC2 : Tryd.prog.cellsOf tBs = 1 := by kernel_rfl
  have hC3 : Tryd.prog.cellsOf tInt = 1 := by kernel_rfl
  have hC4 : Tryd.prog.cellsOf 4 = 1 := by kernel_rfl
  have hC5 : Tryd.prog.cellsOf tEnts = 1 := by kernel_rfl
  have hC6 : Tryd.prog.cellsOf tHd = 2 := by kernel_rfl
  obtain ⟨l⟩ := cs
  match l, hsz.trans hC with
  | [c0, c1, c2, c3, c4, c5, c6, c7, c8, c9], _ =>
    obtain ⟨fuel, hf⟩ := h
    obtain ⟨xs, n, _, _, _, hlen, hg⟩ := DataW.trod_struct Tryd.underlying30 hf
    match xs, hlen with
    | [y0, y1, y2, y3, y4, y5], _ =>
      have k0 : DataW.trod enc Tryd.prog w 0 (fun _ => true) true n tErr [c0] = some y0 := by simpa [Value.cells, hC0] using hg 0 _ rfl
      have k1 : DataW.trod enc Tryd.prog w 0 (fun _ => true) true n tAttr [c1, c2, c3, c4, c5] = some y1 := by simpa [Value.cells, hC1] using hg 1 _ rfl
      have k2 : DataW.trod enc Tryd.prog w 0 (fun _ => true) true n tBs [c6] = some y2 := by simpa [Value.cells, hC2] using hg 2 _ rfl
      have k3 : DataW.trod enc Tryd.prog w 0 (fun _ => true) true n tInt [c7] = some y3 := by simpa [Value.cells, hC3] using hg 3 _ rfl
      have k4 : DataW.trod enc Tryd.prog w 0 (fun _ => true) true n 4 [c8] = some y4 := by simpa [Value.cells, hC4] using hg 4 _ rfl
      have k5 : DataW.trod enc Tryd.prog w 0 (fun _ => true) true n tEnts [c9] = some y5 := by simpa [Value.cells, hC5] using hg 5 _ rfl
      obtain ⟨n0, e0, _, w0⟩ := DataW.trod_int Tryd.underlying22 k0
      injection e0 with e0 _
      subst e0
      obtain ⟨zs, m, _, _, _, hl1, hh⟩ := DataW.trod_struct Tryd.underlying26 k1
      match zs, hl1 with
      | [z0, z1, z2, z3], _ =>
        have j0 : DataW.trod enc Tryd.prog w 0 (fun _ => true) true m tHd [c1, c2] = some z0 := by simpa [hC6] using hh 0 _ rfl
        have j1 : DataW.trod enc Tryd.prog w 0 (fun _ => true) true m tInt [c3] = some z1 := by simpa [hC3] using hh 1 _ rfl
        have j2 : DataW.trod enc Tryd.prog w 0 (fun _ => true) true m tInt [c4] = some z2 := by simpa [hC3] using hh 2 _ rfl
        have j3 : DataW.trod enc Tryd.prog w 0 (fun _ => true) true m tInt [c5] = some z3 := by simpa [hC3] using hh 3 _ rfl
        obtain ⟨i, g, rfl, rfl, hi, hgn⟩ := hd_open j0
        obtain ⟨n3, e3, _, w3⟩ := DataW.trod_int Tryd.underlying3 j1
        obtain ⟨n4, e4, _, w4⟩ := DataW.trod_int Tryd.underlying3 j2
        obtain ⟨n5, e5, _, w5⟩ := DataW.trod_int Tryd.underlying3 j3
        injection e3 with e3 _
        injection e4 with e4 _
        injection e5 with e5 _
        subst e3 e4 e5
        obtain ⟨u, dl, hu, hbr, hdl⟩ := open_bytes k2
        injection hu with hu _
        subst hu
        obtain ⟨n7, e7, _, w7⟩ := DataW.trod_int Tryd.underlying3 k3
        injection e7 with e7 _
        subst e7
        obtain ⟨b8, e8, _⟩ := DataW.trod_bool Tryd.underlying4 k4
        injection e8 with e8 _
        subst e8
        obtain ⟨u', el, hu', her, hel⟩ := open_ents k5
        injection hu' with hu' _
        subst hu'
        exact ⟨{ errno := n0, att := ⟨i, g, n3, n4, n5⟩, dl := dl, count := n7, eof := b8, el := el }, c6, c9, rfl, ⟨wf64 w0, hi, hgn, wf64 w3, wf64 w4, wf64 w5, wf64 w7⟩, ⟨w.heap.size, Nat.le_refl _, hbr, her⟩, hdl, hel⟩
end Go.Tr
