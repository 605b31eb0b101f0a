/- An answer that may be, with one field another one: some answer, of small sizes. No condition. Printed by gen_aodd.py. -/
import Derived.Test.YtdbacbhopkdhgaaDoorAGood
namespace Go.Tr
open Go.RowKit Go.Proofs
set_option linter.unusedVariables false
/-- small sizes, all that the laws ask -/
structure RR.tiny (r : RR) : Prop where
  d : r.dl.length ≤ 71
  e : r.el.length ≤ 7
  n : ∀ e ∈ r.el, e.name.size ≤ 40
theorem RR.tiny.small {r : RR} (h : r.tiny) : r.small := ⟨Nat.le_trans h.d (by omega), Nat.le_trans h.e (by omega), fun e he => Nat.le_trans (h.n e he) (by omega)⟩
theorem good_tiny (p : Int) (r : RR) : (goodR p r).dl.length ≤ 30 ∧ (goodR p r).el.length ≤ 5 ∧ ∀ e ∈ (goodR p r).el, e.name.size ≤ 32 := by
  unfold goodR
  split
  · unfold goodKB
    split
    · exact ⟨Nat.zero_le _, Nat.zero_le _, by intro e he; cases he⟩
    · exact ⟨by show (r.dl.take 30).length ≤ 30; rw [List.length_take]; omega, Nat.zero_le _, by intro e he; cases he⟩
    · exact ⟨Nat.zero_le _, Nat.zero_le _, by intro e he; cases he⟩
    · refine ⟨Nat.zero_le _, by show ((r.el.take 5).map goodEnt).length ≤ 5; rw [List.length_map, List.length_take]; omega, fun e he => ?_⟩
      obtain ⟨x, _, rfl⟩ := List.mem_map.1 he
      exact nameB_size (of_name x.ino)
    · exact ⟨Nat.zero_le _, Nat.zero_le _, by intro e he; cases he⟩
  · exact ⟨Nat.zero_le _, Nat.zero_le _, by intro e he; cases he⟩
theorem few_tiny (r : RR) : (fewA r).tiny := by
  refine ⟨by show (r.dl.take 70).length ≤ 71; rw [List.length_take]; omega, by show ((r.el.take 6).map shE).length ≤ 7; rw [List.length_map, List.length_take]; omega, fun e he => ?_⟩
  obtain ⟨x, _, rfl⟩ := List.mem_map.1 he
  exact shortS_size x.name 40
theorem few_ranged {r : RR} {w : World} {u v : Value} (h : RRaw w r u v) : (fewA r).ranged := by
  refine ⟨h.ints, fun e he => ?_⟩
  obtain ⟨x, hx, rfl⟩ := List.mem_map.1 he
  exact (h.en x (List.mem_of_mem_take hx)).2
def OddR (w : World) (e : Ending) (w' : World) : Prop := ∃ q : RR, q.tiny ∧ ResR q w e w'
structure OddI (w : World) (R X : Nat) (x : RR) (ux vx : Value) (wr : World) : Prop where
  g : w.grownBy wr none
  bT : Blk wr (R + 1) tRes ((zeroR 0).cells (.slice none 0 0) (.slice none 0 0)).toArray
  bX : ∃ cs, Blk wr X tRes cs
  od : OwnB w.heap.size wr ux x.dl
  oe : OwnE w.heap.size wr vx x.el
  le : w.heap.size ≤ X
  ne : R + 1 < X
  ti : x.tiny
theorem OddI.bTs {w : World} {R X i : Nat} {x : RR} {ux vx v : Value} {wr : World} (h : OddI w R X x ux vx wr) : Blk (wr.setCell ⟨X, i, none⟩ v) (R + 1) tRes ((zeroR 0).cells (.slice none 0 0) (.slice none 0 0)).toArray :=
  h.bT.far (by have := h.ne; show R + 1 ≠ X; omega) _
theorem OddI.fin {w : World} {R X i : Nat} {x : RR} {ux vx v : Value} {wr wz : World} (h : OddI w R X x ux vx wr) (hR : w.heap.size ≤ R + 1) (hg : (wr.setCell ⟨X, i, none⟩ v).grownBy wz (some (R + 1))) : OwnB w.heap.size wz ux x.dl ∧ OwnE w.heap.size wz vx x.el ∧ w.grownBy wz none := by
  obtain ⟨cX, hX⟩ := h.bX
  have k1 : ∀ k, some X = some k → ∃ t cs, Blk wr k t cs ∧ t ≠ tU8 := fun k hk => by cases hk; exact ⟨_, _, hX, by decide⟩
  have k2 : ∀ k, some X = some k → ∃ t cs, Blk wr k t cs ∧ t ≠ tEnt := fun k hk => by cases hk; exact ⟨_, _, hX, by decide⟩
  have k3 : ∀ k, some (R + 1) = some k → ∃ t cs, Blk (wr.setCell ⟨X, i, none⟩ v) k t cs ∧ t ≠ tU8 := fun k hk => by cases hk; exact ⟨_, _, h.bTs, by decide⟩
  have k4 : ∀ k, some (R + 1) = some k → ∃ t cs, Blk (wr.setCell ⟨X, i, none⟩ v) k t cs ∧ t ≠ tEnt := fun k hk => by cases hk; exact ⟨_, _, h.bTs, by decide⟩
  exact ⟨(h.od.kept (gb_set (gb_refl _ _) _ _) k1).kept hg k3, (h.oe.kept (gb_set (gb_refl _ _) _ _) k2).kept hg k4, gb_new (gb_new h.g (gb_set (gb_refl _ _) _ _) h.le) hg hR⟩
/-- the type of a row that is the call's own -/
theorem ownE_row {w : World} {base : Nat} {y : Value} {el : List Ent} (ho : OwnE base w y el) {g : Nat} {t : TypeId} {cs : Array Value} {fr : Nat × Nat} (hb : w.heap[g]? = some (.cells cs t fr)) (ht : t ≠ tEnt) : some g ≠ y.ownBlock := by
  rcases ho.2 with ⟨rfl, _⟩ | ⟨g', cap, cur, rfl, _, hgg, _⟩
  · intro h; cases h
  · intro h
    cases h
    rw [hb] at hgg
    injection hgg with h2
    injection h2 with _ h2
    exact ht h2
theorem ownB_row {w : World} {base : Nat} {y : Value} {l : List UInt8} (ho : OwnB base w y l) {g : Nat} {t : TypeId} {cs : Array Value} {fr : Nat × Nat} (hb : w.heap[g]? = some (.cells cs t fr)) (ht : t ≠ tU8) : some g ≠ y.ownBlock := by
  rcases ho.2 with ⟨rfl, _⟩ | ⟨g', cap, cur, rfl, _, hgg, _⟩
  · intro h; cases h
  · intro h
    cases h
    rw [hb] at hgg
    injection hgg with h2
    injection h2 with _ h2
    exact ht h2
/-- behind an append to the answer's own bytes -/
theorem OddI.ownD {w : World} {R X : Nat} {x : RR} {ux vx y : Value} {l' : List UInt8} {wr w' : World} (h : OddI w R X x ux vx wr) (hb : Blk wr X tRes (x.cells ux vx).toArray) (hg : wr.grownBy w' ux.ownBlock) (ho : OwnB w.heap.size w' y l') :
    w.grownBy w' none ∧ Blk w' (R + 1) tRes ((zeroR 0).cells (.slice none 0 0) (.slice none 0 0)).toArray ∧ Blk w' X tRes (x.cells ux vx).toArray ∧ OwnE w.heap.size w' vx x.el := by
  refine ⟨gb_own h.od (Nat.le_refl _) h.g hg, h.bT.grown hg (ownB_row h.od h.bT (by decide)), hb.grown hg (ownB_row h.od hb (by decide)), World.ownsRow.kept h.oe hg ?_⟩
  rcases h.oe.2 with ⟨rfl, _⟩ | ⟨g, cap, cur, rfl, _, hgg, _⟩
  · exact .inl rfl
  · exact .inr (ownB_row h.od hgg (by decide))
/-- behind an append to the answer's own entries -/
theorem OddI.ownE {w : World} {R X : Nat} {x : RR} {ux vx y : Value} {el' : List Ent} {wr w' : World} (h : OddI w R X x ux vx wr) (hb : Blk wr X tRes (x.cells ux vx).toArray) (hg : wr.grownBy w' vx.ownBlock) (ho : OwnE w.heap.size w' y el') :
    w.grownBy w' none ∧ Blk w' (R + 1) tRes ((zeroR 0).cells (.slice none 0 0) (.slice none 0 0)).toArray ∧ Blk w' X tRes (x.cells ux vx).toArray ∧ OwnB w.heap.size w' ux x.dl := by
  refine ⟨gb_own h.oe (Nat.le_refl _) h.g hg, h.bT.grown hg (ownE_row h.oe h.bT (by decide)), hb.grown hg (ownE_row h.oe hb (by decide)), World.ownsRow.kept h.od hg ?_⟩
  rcases h.od.2 with ⟨rfl, _⟩ | ⟨g, cap, cur, rfl, _, hgg, _⟩
  · exact .inl rfl
  · exact .inr (ownE_row h.oe hgg (by decide))
theorem OddI.grown {w : World} {R X : Nat} {x : RR} {ux vx : Value} {wr w' : World} (h : OddI w R X x ux vx wr) (hg : wr.grownBy w' none) : OddI w R X x ux vx w' :=
  ⟨gb_trans h.g hg, h.bT.grown hg (by simp), (by obtain ⟨cX, hX⟩ := h.bX; exact ⟨cX, hX.grown hg (by simp)⟩), h.od.grown hg, h.oe.grown hg, h.le, h.ne, h.ti⟩
set_option maxRecDepth 100000 in
set_option maxHeartbeats 4000000 in
theorem odd_c15 (p : Int) (r : RR) (u v : Value) (which nn : Int) (s : ByteArray) (w : World) (ha : r.ok w u v) (hr : r.ranged) (hs : r.small) (hw : i64ok which) (hsz : s.size ≤ 9223372036854775807) : Calls Tryd.prog 12 #[.int .i64 p, r.val u v, .int .i64 which, .int .i64 nn, .string s] w (OddR w) := by
  obtain ⟨Au, cu, rfl, _⟩ := id ha.d
  obtain ⟨Av, cv, rfl, _⟩ := OwnE.shape ha.e
  have b0 : ∀ z, Blk ((w.alloc (.cells (r.cells (.slice Au r.dl.length cu) (.slice Av r.el.length cv)).toArray tRes)).alloc (.cells z tRes)) (w.heap.size + 1) tRes z ∧ w.grownBy ((w.alloc (.cells (r.cells (.slice Au r.dl.length cu) (.slice Av r.el.length cv)).toArray tRes)).alloc (.cells z tRes)) none := fun z =>
    ⟨(by have h := Blk.new (w.alloc (.cells (r.cells (.slice Au r.dl.length cu) (.slice Av r.el.length cv)).toArray tRes)) tRes z; simpa using h), gb_alloc (gb_alloc (gb_refl _ _) _) _⟩
  have HB0 := hide (b0 ((zeroR 0).cells (.slice none 0 0) (.slice none 0 0)).toArray)
  have HA := hide (ha.grown HB0.out.2)
  have HR := hide hr
  have HS := hide hs
  have HG := hide (good_tiny p r)
  clear ha hr hs b0
  unfold i64ok at hw
  unfold RR.val RR.cells
  go_enter Tryd.func12, Tryd.ntmps12
  go_wp2_with fail
  refine (good_c15 p r _ _ _ HA.out HR.out HS.out).mono ?_
  rintro e w1 ⟨ux, vx, rfl, hox, hoy, hg1⟩
  obtain ⟨x, hx⟩ : ∃ x, goodR p r = x := ⟨_, rfl⟩
  rw [hx] at hox hoy HG ⊢
  obtain ⟨Ax, cx, hux⟩ := hox.shape
  subst hux
  obtain ⟨Ay, cy, hvx, _⟩ := hoy.shape
  subst hvx
  have hl0 := HB0.out.1.lt
  have I0 : OddI w w.heap.size w1.heap.size x (.slice Ax x.dl.length cx) (.slice Ay x.el.length cy) (w1.alloc (.cells (x.cells (.slice Ax x.dl.length cx) (.slice Ay x.el.length cy)).toArray tRes)) :=
    ⟨gb_alloc (gb_trans HB0.out.2 hg1) _, (HB0.out.1.grown hg1 (by simp)).alloc _, ⟨_, Blk.new _ _ _⟩, (hox.lower HB0.out.2.size).grown (gb_alloc (gb_refl _ _) _), (hoy.lower HB0.out.2.size).grown (gb_alloc (gb_refl _ _) _), Nat.le_trans HB0.out.2.size hg1.size, Nat.lt_of_lt_of_le hl0 hg1.size, ⟨Nat.le_trans HG.out.1 (by omega), Nat.le_trans HG.out.2.1 (by omega), fun e he => Nat.le_trans (HG.out.2.2 e he) (by omega)⟩⟩
  have HI := hide I0
  clear I0 hox hoy hg1 hx HA HB0 HR HS hl0
  unfold RR.val RR.cells
  go_wp2_with fail
  refine (around_c which 10 _ hw.1 hw.2 (by omega) (by omega)).mono ?_
  rintro e w2 ⟨rfl, rfl⟩
  obtain ⟨k, hk, hk10⟩ := around_ix which 10 (by omega)
  have hk' : aroundN which 10 = (k : Int) := hk
  rw [hk']
  clear hk hk'
  obtain ⟨wr, hwr⟩ : ∃ wr, w1.alloc (.cells #[.int .i64 x.errno, .int .i64 x.att.ino, .int .i64 x.att.gen, .int .i64 x.att.kind, .int .i64 x.att.mode, .int .i64 x.att.size, .slice Ax x.dl.length cx, .int .i64 x.count, .bool x.eof, .slice Ay x.el.length cy] tRes) = wr := ⟨_, rfl⟩
  have HI2 : OddI w w.heap.size w1.heap.size x (.slice Ax x.dl.length cx) (.slice Ay x.el.length cy) wr := by rw [← hwr]; exact HI.out
  clear HI
  have HI := hide HI2
  clear HI2
  have hbx : Blk wr w1.heap.size tRes (x.cells (.slice Ax x.dl.length cx) (.slice Ay x.el.length cy)).toArray := by rw [← hwr]; exact Blk.new _ _ _
  have HBX := hide hbx
  simp only [tRes] at hwr
  rw [hwr]
  clear hwr hbx
  generalize w1.heap.size = X at *
  have ne1 : ¬ w.heap.size + 1 = X := by have := HI.out.ne; omega
  have ne2 : ¬ X = w.heap.size + 1 := by have := HI.out.ne; omega
  have lX := HBX.out.lt
  obtain ⟨x0, x1, x2, x3, x4, x5, x6, x7, x8, x9⟩ := Blk.res HBX.out
  have fX := HBX.out.frozen
  have lT := HI.out.bT.lt
  obtain ⟨z0, z1, z2, z3, z4, z5, z6, z7, z8, z9⟩ := Blk.res HI.out.bT
  have fT := HI.out.bT.frozen
  have hkc : k = 0 ∨ k = 1 ∨ k = 2 ∨ k = 3 ∨ k = 4 ∨ k = 5 ∨ k = 6 ∨ k = 7 ∨ k = 8 ∨ k = 9 := by omega
  rcases hkc with rfl | rfl | rfl | rfl | rfl | rfl | rfl | rfl | rfl | rfl
  · go_wp2_with fail
    refine post_put10 (HI.out.bTs) rfl fun wz hb2 hgz => ?_
    have d0 := hb2.cell 0
    have d1 := hb2.cell 1
    have d2 := hb2.cell 2
    have d3 := hb2.cell 3
    have d4 := hb2.cell 4
    have d5 := hb2.cell 5
    have d6 := hb2.cell 6
    have d7 := hb2.cell 7
    have d8 := hb2.cell 8
    have d9 := hb2.cell 9
    simp only [List.getElem?_toArray, List.getElem?_cons_zero, List.getElem?_cons_succ] at d0 d1 d2 d3 d4 d5 d6 d7 d8 d9
    refine bodyPost_ret (v := RR.val ({ x with errno := nn }) (.slice Ax x.dl.length cx) (.slice Ay x.el.length cy)) (by simp [results, Tryd.results12, go_sem, d0, d1, d2, d3, d4, d5, d6, d7, d8, d9]; rfl) rfl ?_
    have hf := HI.out.fin (by omega) hgz
    exact ⟨({ x with errno := nn }), ⟨HI.out.ti.d, HI.out.ti.e, HI.out.ti.n⟩, (.slice Ax x.dl.length cx), (.slice Ay x.el.length cy), rfl, hf.1, hf.2.1, hf.2.2⟩
  · go_wp2_with fail
    refine post_put10 (HI.out.bTs) rfl fun wz hb2 hgz => ?_
    have d0 := hb2.cell 0
    have d1 := hb2.cell 1
    have d2 := hb2.cell 2
    have d3 := hb2.cell 3
    have d4 := hb2.cell 4
    have d5 := hb2.cell 5
    have d6 := hb2.cell 6
    have d7 := hb2.cell 7
    have d8 := hb2.cell 8
    have d9 := hb2.cell 9
    simp only [List.getElem?_toArray, List.getElem?_cons_zero, List.getElem?_cons_succ] at d0 d1 d2 d3 d4 d5 d6 d7 d8 d9
    refine bodyPost_ret (v := RR.val ({ x with att := { x.att with gen := nn } }) (.slice Ax x.dl.length cx) (.slice Ay x.el.length cy)) (by simp [results, Tryd.results12, go_sem, d0, d1, d2, d3, d4, d5, d6, d7, d8, d9]; rfl) rfl ?_
    have hf := HI.out.fin (by omega) hgz
    exact ⟨({ x with att := { x.att with gen := nn } }), ⟨HI.out.ti.d, HI.out.ti.e, HI.out.ti.n⟩, (.slice Ax x.dl.length cx), (.slice Ay x.el.length cy), rfl, hf.1, hf.2.1, hf.2.2⟩
  · go_wp2_with fail
    refine post_put10 (HI.out.bTs) rfl fun wz hb2 hgz => ?_
    have d0 := hb2.cell 0
    have d1 := hb2.cell 1
    have d2 := hb2.cell 2
    have d3 := hb2.cell 3
    have d4 := hb2.cell 4
    have d5 := hb2.cell 5
    have d6 := hb2.cell 6
    have d7 := hb2.cell 7
    have d8 := hb2.cell 8
    have d9 := hb2.cell 9
    simp only [List.getElem?_toArray, List.getElem?_cons_zero, List.getElem?_cons_succ] at d0 d1 d2 d3 d4 d5 d6 d7 d8 d9
    refine bodyPost_ret (v := RR.val ({ x with att := { x.att with kind := nn } }) (.slice Ax x.dl.length cx) (.slice Ay x.el.length cy)) (by simp [results, Tryd.results12, go_sem, d0, d1, d2, d3, d4, d5, d6, d7, d8, d9]; rfl) rfl ?_
    have hf := HI.out.fin (by omega) hgz
    exact ⟨({ x with att := { x.att with kind := nn } }), ⟨HI.out.ti.d, HI.out.ti.e, HI.out.ti.n⟩, (.slice Ax x.dl.length cx), (.slice Ay x.el.length cy), rfl, hf.1, hf.2.1, hf.2.2⟩
  · go_wp2_with fail
    refine post_put10 (HI.out.bTs) rfl fun wz hb2 hgz => ?_
    have d0 := hb2.cell 0
    have d1 := hb2.cell 1
    have d2 := hb2.cell 2
    have d3 := hb2.cell 3
    have d4 := hb2.cell 4
    have d5 := hb2.cell 5
    have d6 := hb2.cell 6
    have d7 := hb2.cell 7
    have d8 := hb2.cell 8
    have d9 := hb2.cell 9
    simp only [List.getElem?_toArray, List.getElem?_cons_zero, List.getElem?_cons_succ] at d0 d1 d2 d3 d4 d5 d6 d7 d8 d9
    refine bodyPost_ret (v := RR.val ({ x with att := { x.att with mode := nn } }) (.slice Ax x.dl.length cx) (.slice Ay x.el.length cy)) (by simp [results, Tryd.results12, go_sem, d0, d1, d2, d3, d4, d5, d6, d7, d8, d9]; rfl) rfl ?_
    have hf := HI.out.fin (by omega) hgz
    exact ⟨({ x with att := { x.att with mode := nn } }), ⟨HI.out.ti.d, HI.out.ti.e, HI.out.ti.n⟩, (.slice Ax x.dl.length cx), (.slice Ay x.el.length cy), rfl, hf.1, hf.2.1, hf.2.2⟩
  · go_wp2_with fail
    refine post_put10 (HI.out.bTs) rfl fun wz hb2 hgz => ?_
    have d0 := hb2.cell 0
    have d1 := hb2.cell 1
    have d2 := hb2.cell 2
    have d3 := hb2.cell 3
    have d4 := hb2.cell 4
    have d5 := hb2.cell 5
    have d6 := hb2.cell 6
    have d7 := hb2.cell 7
    have d8 := hb2.cell 8
    have d9 := hb2.cell 9
    simp only [List.getElem?_toArray, List.getElem?_cons_zero, List.getElem?_cons_succ] at d0 d1 d2 d3 d4 d5 d6 d7 d8 d9
    refine bodyPost_ret (v := RR.val ({ x with att := { x.att with size := nn } }) (.slice Ax x.dl.length cx) (.slice Ay x.el.length cy)) (by simp [results, Tryd.results12, go_sem, d0, d1, d2, d3, d4, d5, d6, d7, d8, d9]; rfl) rfl ?_
    have hf := HI.out.fin (by omega) hgz
    exact ⟨({ x with att := { x.att with size := nn } }), ⟨HI.out.ti.d, HI.out.ti.e, HI.out.ti.n⟩, (.slice Ax x.dl.length cx), (.slice Ay x.el.length cy), rfl, hf.1, hf.2.1, hf.2.2⟩
  · go_wp2_with fail
    refine post_put10 (HI.out.bTs) rfl fun wz hb2 hgz => ?_
    have d0 := hb2.cell 0
    have d1 := hb2.cell 1
    have d2 := hb2.cell 2
    have d3 := hb2.cell 3
    have d4 := hb2.cell 4
    have d5 := hb2.cell 5
    have d6 := hb2.cell 6
    have d7 := hb2.cell 7
    have d8 := hb2.cell 8
    have d9 := hb2.cell 9
    simp only [List.getElem?_toArray, List.getElem?_cons_zero, List.getElem?_cons_succ] at d0 d1 d2 d3 d4 d5 d6 d7 d8 d9
    refine bodyPost_ret (v := RR.val ({ x with count := nn }) (.slice Ax x.dl.length cx) (.slice Ay x.el.length cy)) (by simp [results, Tryd.results12, go_sem, d0, d1, d2, d3, d4, d5, d6, d7, d8, d9]; rfl) rfl ?_
    have hf := HI.out.fin (by omega) hgz
    exact ⟨({ x with count := nn }), ⟨HI.out.ti.d, HI.out.ti.e, HI.out.ti.n⟩, (.slice Ax x.dl.length cx), (.slice Ay x.el.length cy), rfl, hf.1, hf.2.1, hf.2.2⟩
  · go_wp2_with fail
    refine post_put10 (HI.out.bTs) rfl fun wz hb2 hgz => ?_
    have d0 := hb2.cell 0
    have d1 := hb2.cell 1
    have d2 := hb2.cell 2
    have d3 := hb2.cell 3
    have d4 := hb2.cell 4
    have d5 := hb2.cell 5
    have d6 := hb2.cell 6
    have d7 := hb2.cell 7
    have d8 := hb2.cell 8
    have d9 := hb2.cell 9
    simp only [List.getElem?_toArray, List.getElem?_cons_zero, List.getElem?_cons_succ] at d0 d1 d2 d3 d4 d5 d6 d7 d8 d9
    refine bodyPost_ret (v := RR.val ({ x with eof := !x.eof }) (.slice Ax x.dl.length cx) (.slice Ay x.el.length cy)) (by simp [results, Tryd.results12, go_sem, d0, d1, d2, d3, d4, d5, d6, d7, d8, d9]; rfl) rfl ?_
    have hf := HI.out.fin (by omega) hgz
    exact ⟨({ x with eof := !x.eof }), ⟨HI.out.ti.d, HI.out.ti.e, HI.out.ti.n⟩, (.slice Ax x.dl.length cx), (.slice Ay x.el.length cy), rfl, hf.1, hf.2.1, hf.2.2⟩
  · obtain ⟨l7, hl7⟩ : ∃ l7, x.dl ++ [1] = l7 := ⟨_, rfl⟩
    have hl7s : l7.length ≤ 31 := by rw [← hl7, List.length_append]; have := HG.out.1; simp; omega
    have HL7 := hide hl7
    have hsd := HG.out.1
    have hgw := HI.out.g.size
    clear hl7
    go_wp2_with (at_builtin; refine wp_app rfl _ _ rfl w.heap.size _ _ x.dl [1] rfl rfl (HI.out.od.grown (gb_alloc (gb_refl _ none) _)) (BS.lit _ [1] 1 rfl (by simp)) (by simp; omega) (by simp; omega) ?_)
    intro A7 n7 c7 w7 ho7 hg7
    rw [HL7.out] at ho7
    obtain rfl := ho7.len
    have h7 := (HI.out.grown (gb_alloc (gb_refl wr none) (.cells #[.int .u8 1] tU8))).ownD (HBX.out.alloc _) hg7 ho7
    have HI7 := hide (OddI.mk (x := { x with dl := l7 }) h7.1 h7.2.1 ⟨_, h7.2.2.1⟩ ho7 h7.2.2.2 HI.out.le HI.out.ne ⟨Nat.le_trans hl7s (by omega), HI.out.ti.e, HI.out.ti.n⟩)
    have HBX7 := hide h7.2.2.1
    clear lX x0 x1 x2 x3 x4 x5 x6 x7 x8 x9 fX lT z0 z1 z2 z3 z4 z5 z6 z7 z8 z9 fT HBX
    have lX := HBX7.out.lt
    obtain ⟨x0, x1, x2, x3, x4, x5, x6, x7, x8, x9⟩ := Blk.res HBX7.out
    have fX := HBX7.out.frozen
    have lT := HI7.out.bT.lt
    obtain ⟨z0, z1, z2, z3, z4, z5, z6, z7, z8, z9⟩ := Blk.res HI7.out.bT
    have fT := HI7.out.bT.frozen
    clear ho7 hg7 h7 HI
    have HI := HI7
    clear HI7
    go_wp2_with fail
    refine post_put10 (HI.out.bTs) rfl fun wz hb2 hgz => ?_
    have d0 := hb2.cell 0
    have d1 := hb2.cell 1
    have d2 := hb2.cell 2
    have d3 := hb2.cell 3
    have d4 := hb2.cell 4
    have d5 := hb2.cell 5
    have d6 := hb2.cell 6
    have d7 := hb2.cell 7
    have d8 := hb2.cell 8
    have d9 := hb2.cell 9
    simp only [List.getElem?_toArray, List.getElem?_cons_zero, List.getElem?_cons_succ] at d0 d1 d2 d3 d4 d5 d6 d7 d8 d9
    refine bodyPost_ret (v := RR.val ({ x with dl := l7 }) (.slice A7 l7.length c7) (.slice Ay x.el.length cy)) (by simp [results, Tryd.results12, go_sem, d0, d1, d2, d3, d4, d5, d6, d7, d8, d9]; rfl) rfl ?_
    have hf := HI.out.fin (by omega) hgz
    exact ⟨({ x with dl := l7 }), ⟨HI.out.ti.d, HI.out.ti.e, HI.out.ti.n⟩, (.slice A7 l7.length c7), (.slice Ay x.el.length cy), rfl, hf.1, hf.2.1, hf.2.2⟩
  · obtain ⟨l7, hl7⟩ : ∃ l7, x.el ++ [⟨shortS s 40, 0, 0⟩] = l7 := ⟨_, rfl⟩
    have hl7s : l7.length ≤ 6 := by rw [← hl7, List.length_append]; have := HG.out.2.1; simp; omega
    have hl7n : ∀ e ∈ l7, e.name.size ≤ 40 := by
      rw [← hl7]
      intro e he
      rcases List.mem_append.1 he with h | h
      · exact HI.out.ti.n e h
      · rw [List.mem_singleton.1 h]
        first | exact shortS_size s 40 | (show (1 : Nat) ≤ 40; omega)
    have HL7 := hide hl7
    have hse := HG.out.2.1
    have hgw := HI.out.g.size
    clear hl7
    go_wp2_with fail
    refine Reg.wp_reg [0, 1, 0, 4, 12, 28, 63, 127, 255] [(0, .W), (1, .H), (2, .W), (3, .Q), (4, .W), (5, .E true), (6, .E false), (7, .W), (8, .E false)] (Reg.Old _) (by kernel_rfl) (by kernel_rfl) (fun _ => Reg.Old.drew (Reg.Old.refl _)) ?_
    repeat (first | (refine Reg.wpC_W rfl (fun K hK => ?_); go_simp; refine hK _ ?_; clear hK K) | (refine Reg.wpC_H2 rfl rfl (fun K hK => ?_); apply Exists.intro; refine ⟨fun w' hS => ?_, ?_⟩; (have hS2 := hS.2; clear hS; go_simp; first | done | rfl); go_simp; refine hK _ ?_; clear hK K) | (refine Reg.wpC_N rfl rfl (fun K hK => ?_); go_simp; refine hK _ ?_; clear hK K))
    refine Reg.wpC_Q2 rfl rfl (fun K hK => ?_)
    refine ⟨.string (shortS s 40), fun w' hS => ?qt, ?_⟩
    case qt => (unfold Oper.quietAt; go_simp; exact ⟨rfl, (short_str_c s 40 (by omega) w' hsz).mono fun e w'' h => h⟩)
    go_simp
    refine hK _ ?_
    clear hK K
    repeat (first | (refine Reg.wpC_W rfl (fun K hK => ?_); go_simp; refine hK _ ?_; clear hK K) | (refine Reg.wpC_H2 rfl rfl (fun K hK => ?_); apply Exists.intro; refine ⟨fun w' hS => ?_, ?_⟩; (have hS2 := hS.2; clear hS; go_simp; first | done | rfl); go_simp; refine hK _ ?_; clear hK K) | (refine Reg.wpC_N rfl rfl (fun K hK => ?_); go_simp; refine hK _ ?_; clear hK K))
    refine Reg.wpC_E rfl (fun K hK => ?_)
    go_simp
    refine hK _ _ (fun _ => ((Reg.Old.refl _).alloc _).drew) ?_
    clear hK K
    repeat (first | (refine Reg.wpC_W rfl (fun K hK => ?_); go_simp; refine hK _ ?_; clear hK K) | (refine Reg.wpC_H2 rfl rfl (fun K hK => ?_); apply Exists.intro; refine ⟨fun w' hS => ?_, ?_⟩; (have hS2 := hS.2; clear hS; go_simp; first | done | rfl); go_simp; refine hK _ ?_; clear hK K) | (refine Reg.wpC_N rfl rfl (fun K hK => ?_); go_simp; refine hK _ ?_; clear hK K))
    have hO' := (HI.out.oe.grown (gb_alloc (gb_refl wr none) (.cells #[.string (shortS s 40), .int .i64 0, .int .i64 0] tEnt))).grown (gb_drew (gb_refl _ none))
    have hbn := (Blk.new wr tEnt #[.string (shortS s 40), .int .i64 0, .int .i64 0]).drew
    refine Reg.wpC_E rfl (fun K hK => ?_)
    refine if_wanted rfl ?_
    refine app_wpE _ _ rfl w.heap.size _ x.el ⟨shortS s 40, 0, 0⟩ wr.heap.size 1 1 rfl rfl rfl hO' ⟨hbn.cell 0, hbn.cell 1, hbn.cell 2⟩ (by omega) (by simp; omega) ?_
    intro A7 n7 c7 w7 ho7 hn7 hg7
    rw [HL7.out] at ho7
    have hn8 : n7 = l7.length := by rw [hn7, ← HL7.out]; simp
    clear hn7
    subst hn8
    have h7 := (HI.out.grown (gb_drew (gb_alloc (gb_refl wr none) (.cells #[.string (shortS s 40), .int .i64 0, .int .i64 0] tEnt)))).ownE (HBX.out.alloc _).drew hg7 ho7
    have HI7 := hide (OddI.mk (x := { x with el := l7 }) h7.1 h7.2.1 ⟨_, h7.2.2.1⟩ h7.2.2.2 ho7 HI.out.le HI.out.ne ⟨HI.out.ti.d, Nat.le_trans hl7s (by omega), hl7n⟩)
    have HBX7 := hide h7.2.2.1
    clear lX x0 x1 x2 x3 x4 x5 x6 x7 x8 x9 fX lT z0 z1 z2 z3 z4 z5 z6 z7 z8 z9 fT HBX
    have lX := HBX7.out.lt
    obtain ⟨x0, x1, x2, x3, x4, x5, x6, x7, x8, x9⟩ := Blk.res HBX7.out
    have fX := HBX7.out.frozen
    have lT := HI7.out.bT.lt
    obtain ⟨z0, z1, z2, z3, z4, z5, z6, z7, z8, z9⟩ := Blk.res HI7.out.bT
    have fT := HI7.out.bT.frozen
    clear ho7 hg7 h7 HI hO' hbn
    have HI := HI7
    clear HI7
    refine hK _ _ (fun h => by cases h) ?_
    clear hK K
    repeat (first | (refine Reg.wpC_W rfl (fun K hK => ?_); go_simp; refine hK _ ?_; clear hK K) | (refine Reg.wpC_H2 rfl rfl (fun K hK => ?_); apply Exists.intro; refine ⟨fun w' hS => ?_, ?_⟩; (have hS2 := hS.2; clear hS; go_simp; first | done | rfl); go_simp; refine hK _ ?_; clear hK K) | (refine Reg.wpC_N rfl rfl (fun K hK => ?_); go_simp; refine hK _ ?_; clear hK K))
    refine Reg.wpC_E rfl (fun K hK => ?_)
    go_simp
    refine hK _ _ (fun h => by cases h) ?_
    clear hK K
    refine Reg.wpC_nil ?_
    go_wp2_with fail
    refine post_put10 (HI.out.bTs) rfl fun wz hb2 hgz => ?_
    have d0 := hb2.cell 0
    have d1 := hb2.cell 1
    have d2 := hb2.cell 2
    have d3 := hb2.cell 3
    have d4 := hb2.cell 4
    have d5 := hb2.cell 5
    have d6 := hb2.cell 6
    have d7 := hb2.cell 7
    have d8 := hb2.cell 8
    have d9 := hb2.cell 9
    simp only [List.getElem?_toArray, List.getElem?_cons_zero, List.getElem?_cons_succ] at d0 d1 d2 d3 d4 d5 d6 d7 d8 d9
    refine bodyPost_ret (v := RR.val ({ x with el := l7 }) (.slice Ax x.dl.length cx) (.slice A7 l7.length c7)) (by simp [results, Tryd.results12, go_sem, d0, d1, d2, d3, d4, d5, d6, d7, d8, d9]; rfl) rfl ?_
    have hf := HI.out.fin (by omega) hgz
    exact ⟨({ x with el := l7 }), ⟨HI.out.ti.d, HI.out.ti.e, HI.out.ti.n⟩, (.slice Ax x.dl.length cx), (.slice A7 l7.length c7), rfl, hf.1, hf.2.1, hf.2.2⟩
  · obtain ⟨l7, hl7⟩ : ∃ l7, x.el ++ [⟨⟨#[97]⟩, nn, 0⟩] = l7 := ⟨_, rfl⟩
    have hl7s : l7.length ≤ 6 := by rw [← hl7, List.length_append]; have := HG.out.2.1; simp; omega
    have hl7n : ∀ e ∈ l7, e.name.size ≤ 40 := by
      rw [← hl7]
      intro e he
      rcases List.mem_append.1 he with h | h
      · exact HI.out.ti.n e h
      · rw [List.mem_singleton.1 h]
        first | exact shortS_size s 40 | (show (1 : Nat) ≤ 40; omega)
    have HL7 := hide hl7
    have hse := HG.out.2.1
    have hgw := HI.out.g.size
    clear hl7
    have hbn := Blk.new wr tEnt #[.string ⟨#[97]⟩, .int .i64 nn, .int .i64 0]
    have HBN := hide hbn
    clear hbn
    go_wp2_with (at_builtin; refine wp_appE rfl _ _ rfl w.heap.size _ x.el ⟨⟨#[97]⟩, nn, 0⟩ wr.heap.size 1 1 rfl rfl rfl (HI.out.oe.grown (gb_alloc (gb_refl _ none) _)) ⟨HBN.out.cell 0, HBN.out.cell 1, HBN.out.cell 2⟩ (by omega) (by simp; omega) ?_)
    intro A7 n7 c7 w7 ho7 hn7 hg7
    rw [HL7.out] at ho7
    have hn8 : n7 = l7.length := by rw [hn7, ← HL7.out]; simp
    clear hn7
    subst hn8
    have h7 := (HI.out.grown (gb_alloc (gb_refl wr none) (.cells #[.string ⟨#[97]⟩, .int .i64 nn, .int .i64 0] tEnt))).ownE (HBX.out.alloc _) hg7 ho7
    have HI7 := hide (OddI.mk (x := { x with el := l7 }) h7.1 h7.2.1 ⟨_, h7.2.2.1⟩ h7.2.2.2 ho7 HI.out.le HI.out.ne ⟨HI.out.ti.d, Nat.le_trans hl7s (by omega), hl7n⟩)
    have HBX7 := hide h7.2.2.1
    clear lX x0 x1 x2 x3 x4 x5 x6 x7 x8 x9 fX lT z0 z1 z2 z3 z4 z5 z6 z7 z8 z9 fT HBX
    have lX := HBX7.out.lt
    obtain ⟨x0, x1, x2, x3, x4, x5, x6, x7, x8, x9⟩ := Blk.res HBX7.out
    have fX := HBX7.out.frozen
    have lT := HI7.out.bT.lt
    obtain ⟨z0, z1, z2, z3, z4, z5, z6, z7, z8, z9⟩ := Blk.res HI7.out.bT
    have fT := HI7.out.bT.frozen
    clear ho7 hg7 h7 HI HBN
    have HI := HI7
    clear HI7
    go_wp2_with fail
    refine post_put10 (HI.out.bTs) rfl fun wz hb2 hgz => ?_
    have d0 := hb2.cell 0
    have d1 := hb2.cell 1
    have d2 := hb2.cell 2
    have d3 := hb2.cell 3
    have d4 := hb2.cell 4
    have d5 := hb2.cell 5
    have d6 := hb2.cell 6
    have d7 := hb2.cell 7
    have d8 := hb2.cell 8
    have d9 := hb2.cell 9
    simp only [List.getElem?_toArray, List.getElem?_cons_zero, List.getElem?_cons_succ] at d0 d1 d2 d3 d4 d5 d6 d7 d8 d9
    refine bodyPost_ret (v := RR.val ({ x with el := l7 }) (.slice Ax x.dl.length cx) (.slice A7 l7.length c7)) (by simp [results, Tryd.results12, go_sem, d0, d1, d2, d3, d4, d5, d6, d7, d8, d9]; rfl) rfl ?_
    have hf := HI.out.fin (by omega) hgz
    exact ⟨({ x with el := l7 }), ⟨HI.out.ti.d, HI.out.ti.e, HI.out.ti.n⟩, (.slice Ax x.dl.length cx), (.slice A7 l7.length c7), rfl, hf.1, hf.2.1, hf.2.2⟩
end Go.Tr
