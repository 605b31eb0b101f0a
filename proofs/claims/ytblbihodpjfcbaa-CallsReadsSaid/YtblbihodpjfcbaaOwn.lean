/- Own: what a procedure has of what it is asked with. No condition. Printed by gen_own.py. -/
import Derived.Test.YtblbihodpjfcbaaGood
import Derived.Test.YtblbihodpjfcbaaCread3
import Derived.Test.YtblbihodpjfcbaaC2
namespace Go.Tr
open Go.RowKit Go.Proofs
set_option linter.unusedVariables false

def AA.setF (x a : AA) : Nat → AA
  | 0 => { x with hi := a.hi, hg := a.hg }
  | 1 => { x with ji := a.ji, jg := a.jg }
  | 2 => { x with name := a.name }
  | 3 => { x with name2 := a.name2 }
  | 4 => { x with off := a.off }
  | 5 => { x with count := a.count }
  | 6 => { x with size := a.size }
  | 7 => { x with mode := a.mode }
  | _ => { x with dl := a.dl }
def ownA (a : AA) : AA := (fieldsOf a.proc).foldl (fun x f => x.setF a f) (zeroA a.proc)
theorem Has_c2 (p : Int) (b : UInt8) (t : Bool) (ht : hasB p b = t) (ci : Int) (hc : ci = (b.toNat : Int)) (w : World) : Calls Try.prog 58 #[.int .i64 p, .int .u8 ci] w fun e w' => e = .returned (.bool t) ∧ w.grownBy w' none := by
  subst hc
  rw [← ht]
  exact Has_c p b w
structure OwnI (a : AA) (u : Value) (B : Nat) (x : AA) (ux : Value) (w wr : World) : Prop where
  b1 : Blk wr B tArgs (a.at u).cells.toArray
  b2 : Blk wr (B + 1) tArgs (zeroA 0).cells.toArray
  b3 : Blk wr (B + 2) tArgs (x.at ux).cells.toArray
  bs : BS wr u a.dl
  bx : BS wr ux x.dl
  g : w.grownBy wr none
theorem OwnI.grown {a x : AA} {u ux : Value} {B : Nat} {w wr w' : World} (h : OwnI a u B x ux w wr) (hg : wr.grownBy w' none) : OwnI a u B x ux w w' :=
  ⟨h.b1.grown hg (by simp), h.b2.grown hg (by simp), h.b3.grown hg (by simp), h.bs.grown hg, h.bx.grown hg, gb_trans h.g hg⟩
theorem OwnI.store {a x : AA} {u ux : Value} {B : Nat} {w wr : World} (h : OwnI a u B x ux w wr) (hB : w.heap.size = B) (j : Nat) (v : Value) (x' : AA) (he : (x.at ux).cells.toArray.setIfInBounds j v = (x'.at ux).cells.toArray) (hd : x'.dl = x.dl) : OwnI a u B x' ux w (wr.setCell ⟨B + 2, j, none⟩ v) :=
  ⟨h.b1.far (by show B ≠ B + 2; omega) _, h.b2.far (by show B + 1 ≠ B + 2; omega) _, by rw [← he]; exact h.b3.set j v, BS.set h.bs h.b3 (by decide) _ _, by rw [hd]; exact BS.set h.bx h.b3 (by decide) _ _, gb_set_new h.g (by omega) _ _⟩
theorem OwnI.storeD {a x : AA} {u ux : Value} {B : Nat} {w wr : World} (h : OwnI a u B x ux w wr) (hB : w.heap.size = B) : OwnI a u B { x with dl := a.dl } u w (wr.setCell ⟨B + 2, 11, none⟩ u) :=
  ⟨h.b1.far (by show B ≠ B + 2; omega) _, h.b2.far (by show B + 1 ≠ B + 2; omega) _, h.b3.set 11 u, BS.set h.bs h.b3 (by decide) _ _, BS.set h.bs h.b3 (by decide) _ _, gb_set_new h.g (by omega) _ _⟩
theorem alloc3 (w : World) (cs1 cs2 cs3 : Array Value) : Blk (((w.alloc (.cells cs1 tArgs)).alloc (.cells cs2 tArgs)).alloc (.cells cs3 tArgs)) w.heap.size tArgs cs1 ∧ Blk (((w.alloc (.cells cs1 tArgs)).alloc (.cells cs2 tArgs)).alloc (.cells cs3 tArgs)) (w.heap.size + 1) tArgs cs2 ∧
    Blk (((w.alloc (.cells cs1 tArgs)).alloc (.cells cs2 tArgs)).alloc (.cells cs3 tArgs)) (w.heap.size + 2) tArgs cs3 := by
  refine ⟨((Blk.new w tArgs cs1).alloc _).alloc _, ?_, ?_⟩
  · have h := (Blk.new (w.alloc (.cells cs1 tArgs)) tArgs cs2).alloc (.cells cs3 tArgs)
    simpa using h
  · have h := Blk.new ((w.alloc (.cells cs1 tArgs)).alloc (.cells cs2 tArgs)) tArgs cs3
    simpa using h
def OwnR (a : AA) (w : World) (e : Ending) (w' : World) : Prop := ∃ u', e = .returned ((ownA a).at u').val ∧ BS w' u' (ownA a).dl ∧ w.grownBy w' none
set_option maxHeartbeats 2000000 in
theorem own1_c (a : AA) (ha : a.proc = 1) (u : Value) (w : World) (hu : BS w u a.dl) : Calls Try.prog 37 #[(a.at u).val] w (OwnR a w) := by
  have hown : ownA a = ownA a := rfl
  conv at hown => rhs; unfold ownA; rw [ha]; simp only [show fieldsOf 1 = [0] from rfl, List.foldl_cons, List.foldl_nil, AA.setF, zeroA]
  have Hown := hide hown
  clear hown
  obtain ⟨Au, cu, hue, _⟩ := id hu
  obtain ⟨proc, off, count, size, mode, hi, hg, ji, jg, name, name2, data, dl⟩ := a
  simp only [] at ha
  subst ha
  obtain ⟨b1, b2, b3⟩ := alloc3 w ((AA.mk 1 off count size mode hi hg ji jg name name2 data dl).at u).cells.toArray (zeroA 0).cells.toArray (({ zeroA 1 with hi := hi, hg := hg } : AA).at (.slice none 0 0)).cells.toArray
  have I : OwnI (AA.mk 1 off count size mode hi hg ji jg name name2 data dl) u w.heap.size { zeroA 1 with hi := hi, hg := hg } (.slice none 0 0) w _ := ⟨b1, b2, b3, ((hu.alloc _).alloc _).alloc _, BS.nil _, gb_alloc (gb_alloc (gb_alloc (gb_refl _ _) _) _) _⟩
  clear b1 b2 b3
  have HI := hide I
  subst hue
  clear hu I
  simp only [AA.at, AA.val, AA.cells]
  go_enter Try.func37, Try.ntmps37
  go_wp2_with fail
  refine (Has_c2 1 115 false (by decide) 115 (by decide) _).mono ?_
  rintro e w0 ⟨rfl, hg0⟩
  replace HI := hide (HI.out.grown hg0)
  have I := HI.out
  have l1 := I.b1.lt
  have l3 := I.b3.lt
  obtain ⟨c0, c1, c2, c3, c4, c5, c6, c7, c8, c9, c10, c11⟩ := Blk.args I.b1
  obtain ⟨x0, x1, x2, x3, x4, x5, x6, x7, x8, x9, x10, x11⟩ := Blk.args I.b3
  have f3 := I.b3.frozen
  clear I hg0
  go_wp2_with fail
  clear l1 l3 c0 c1 c2 c3 c4 c5 c6 c7 c8 c9 c10 c11 x0 x1 x2 x3 x4 x5 x6 x7 x8 x9 x10 x11 f3
  refine (Has_c2 1 110 false (by decide) 110 (by decide) _).mono ?_
  rintro e w1 ⟨rfl, hg1⟩
  replace HI := hide (HI.out.grown hg1)
  have I := HI.out
  have l1 := I.b1.lt
  have l3 := I.b3.lt
  obtain ⟨c0, c1, c2, c3, c4, c5, c6, c7, c8, c9, c10, c11⟩ := Blk.args I.b1
  obtain ⟨x0, x1, x2, x3, x4, x5, x6, x7, x8, x9, x10, x11⟩ := Blk.args I.b3
  have f3 := I.b3.frozen
  clear I hg1
  go_wp2_with fail
  clear l1 l3 c0 c1 c2 c3 c4 c5 c6 c7 c8 c9 c10 c11 x0 x1 x2 x3 x4 x5 x6 x7 x8 x9 x10 x11 f3
  refine (Has_c2 1 111 false (by decide) 111 (by decide) _).mono ?_
  rintro e w2 ⟨rfl, hg2⟩
  replace HI := hide (HI.out.grown hg2)
  have I := HI.out
  have l1 := I.b1.lt
  have l3 := I.b3.lt
  obtain ⟨c0, c1, c2, c3, c4, c5, c6, c7, c8, c9, c10, c11⟩ := Blk.args I.b1
  obtain ⟨x0, x1, x2, x3, x4, x5, x6, x7, x8, x9, x10, x11⟩ := Blk.args I.b3
  have f3 := I.b3.frozen
  clear I hg2
  go_wp2_with fail
  clear l1 l3 c0 c1 c2 c3 c4 c5 c6 c7 c8 c9 c10 c11 x0 x1 x2 x3 x4 x5 x6 x7 x8 x9 x10 x11 f3
  refine (Has_c2 1 99 false (by decide) 99 (by decide) _).mono ?_
  rintro e w3 ⟨rfl, hg3⟩
  replace HI := hide (HI.out.grown hg3)
  have I := HI.out
  have l1 := I.b1.lt
  have l3 := I.b3.lt
  obtain ⟨c0, c1, c2, c3, c4, c5, c6, c7, c8, c9, c10, c11⟩ := Blk.args I.b1
  obtain ⟨x0, x1, x2, x3, x4, x5, x6, x7, x8, x9, x10, x11⟩ := Blk.args I.b3
  have f3 := I.b3.frozen
  clear I hg3
  go_wp2_with fail
  clear l1 l3 c0 c1 c2 c3 c4 c5 c6 c7 c8 c9 c10 c11 x0 x1 x2 x3 x4 x5 x6 x7 x8 x9 x10 x11 f3
  refine (Has_c2 1 100 false (by decide) 100 (by decide) _).mono ?_
  rintro e w4 ⟨rfl, hg4⟩
  replace HI := hide (HI.out.grown hg4)
  have I := HI.out
  have l1 := I.b1.lt
  have l3 := I.b3.lt
  obtain ⟨c0, c1, c2, c3, c4, c5, c6, c7, c8, c9, c10, c11⟩ := Blk.args I.b1
  obtain ⟨x0, x1, x2, x3, x4, x5, x6, x7, x8, x9, x10, x11⟩ := Blk.args I.b3
  have f3 := I.b3.frozen
  clear I hg4
  go_wp2_with fail
  clear l1 l3 c0 c1 c2 c3 c4 c5 c6 c7 c8 c9 c10 c11 x0 x1 x2 x3 x4 x5 x6 x7 x8 x9 x10 x11 f3
  refine (Has_c2 1 109 false (by decide) 109 (by decide) _).mono ?_
  rintro e w5 ⟨rfl, hg5⟩
  replace HI := hide (HI.out.grown hg5)
  have I := HI.out
  have l1 := I.b1.lt
  have l3 := I.b3.lt
  obtain ⟨c0, c1, c2, c3, c4, c5, c6, c7, c8, c9, c10, c11⟩ := Blk.args I.b1
  obtain ⟨x0, x1, x2, x3, x4, x5, x6, x7, x8, x9, x10, x11⟩ := Blk.args I.b3
  have f3 := I.b3.frozen
  clear I hg5
  go_wp2_with fail
  clear l1 l3 c0 c1 c2 c3 c4 c5 c6 c7 c8 c9 c10 c11 x0 x1 x2 x3 x4 x5 x6 x7 x8 x9 x10 x11 f3
  refine (Has_c2 1 105 false (by decide) 105 (by decide) _).mono ?_
  rintro e w6 ⟨rfl, hg6⟩
  replace HI := hide (HI.out.grown hg6)
  have I := HI.out
  have l1 := I.b1.lt
  have l3 := I.b3.lt
  obtain ⟨c0, c1, c2, c3, c4, c5, c6, c7, c8, c9, c10, c11⟩ := Blk.args I.b1
  obtain ⟨x0, x1, x2, x3, x4, x5, x6, x7, x8, x9, x10, x11⟩ := Blk.args I.b3
  have f3 := I.b3.frozen
  clear I hg6
  have l2 := HI.out.b2.lt
  obtain ⟨e0, e1, e2, e3, e4, e5, e6, e7, e8, e9, e10, e11⟩ := Blk.args (a := zeroA 0) (u := .slice none 0 0) HI.out.b2
  have f2 := HI.out.b2.frozen
  go_wp2_with fail
  clear l1 l3 c0 c1 c2 c3 c4 c5 c6 c7 c8 c9 c10 c11 x0 x1 x2 x3 x4 x5 x6 x7 x8 x9 x10 x11 f3
  refine post_put12 HI.out.b2 rfl fun wz hb2 hgz => ?_
  have d0 := hb2.cell 0
  have d1 := hb2.cell 1
  have d2 := hb2.cell 2
  have d3 := hb2.cell 3
  have d4 := hb2.cell 4
  have d5 := hb2.cell 5
  have d6 := hb2.cell 6
  have d7 := hb2.cell 7
  have d8 := hb2.cell 8
  have d9 := hb2.cell 9
  have d10 := hb2.cell 10
  have d11 := hb2.cell 11
  simp only [List.getElem?_toArray, List.getElem?_cons_zero, List.getElem?_cons_succ] at d0 d1 d2 d3 d4 d5 d6 d7 d8 d9 d10 d11
  refine bodyPost_ret (v := ((ownA _).at _).val) (by rw [Hown.out]; simp [results, Try.results37, go_sem, d0, d1, d2, d3, d4, d5, d6, d7, d8, d9, d10, d11]; rfl) rfl ?_
  exact ⟨_, rfl, by rw [Hown.out]; exact HI.out.bx.kept hgz (fun k hk => by cases hk; exact ⟨_, _, HI.out.b2, by decide⟩), gb_new HI.out.g hgz (by omega)⟩
set_option maxHeartbeats 2000000 in
theorem own2_c (a : AA) (ha : a.proc = 2) (u : Value) (w : World) (hu : BS w u a.dl) : Calls Try.prog 37 #[(a.at u).val] w (OwnR a w) := by
  have hown : ownA a = ownA a := rfl
  conv at hown => rhs; unfold ownA; rw [ha]; simp only [show fieldsOf 2 = [0, 6] from rfl, List.foldl_cons, List.foldl_nil, AA.setF, zeroA]
  have Hown := hide hown
  clear hown
  obtain ⟨Au, cu, hue, _⟩ := id hu
  obtain ⟨proc, off, count, size, mode, hi, hg, ji, jg, name, name2, data, dl⟩ := a
  simp only [] at ha
  subst ha
  obtain ⟨b1, b2, b3⟩ := alloc3 w ((AA.mk 2 off count size mode hi hg ji jg name name2 data dl).at u).cells.toArray (zeroA 0).cells.toArray (({ zeroA 2 with hi := hi, hg := hg } : AA).at (.slice none 0 0)).cells.toArray
  have I : OwnI (AA.mk 2 off count size mode hi hg ji jg name name2 data dl) u w.heap.size { zeroA 2 with hi := hi, hg := hg } (.slice none 0 0) w _ := ⟨b1, b2, b3, ((hu.alloc _).alloc _).alloc _, BS.nil _, gb_alloc (gb_alloc (gb_alloc (gb_refl _ _) _) _) _⟩
  clear b1 b2 b3
  have HI := hide I
  subst hue
  clear hu I
  simp only [AA.at, AA.val, AA.cells]
  go_enter Try.func37, Try.ntmps37
  go_wp2_with fail
  refine (Has_c2 2 115 true (by decide) 115 (by decide) _).mono ?_
  rintro e w0 ⟨rfl, hg0⟩
  replace HI := hide (HI.out.grown hg0)
  have I := HI.out
  have l1 := I.b1.lt
  have l3 := I.b3.lt
  obtain ⟨c0, c1, c2, c3, c4, c5, c6, c7, c8, c9, c10, c11⟩ := Blk.args I.b1
  obtain ⟨x0, x1, x2, x3, x4, x5, x6, x7, x8, x9, x10, x11⟩ := Blk.args I.b3
  have f3 := I.b3.frozen
  clear I hg0
  go_wp2_with fail
  replace HI := hide (HI.out.store rfl 3 _ { ({ zeroA 2 with hi := hi, hg := hg } : AA) with size := size } rfl rfl)
  clear l1 l3 c0 c1 c2 c3 c4 c5 c6 c7 c8 c9 c10 c11 x0 x1 x2 x3 x4 x5 x6 x7 x8 x9 x10 x11 f3
  refine (Has_c2 2 110 false (by decide) 110 (by decide) _).mono ?_
  rintro e w1 ⟨rfl, hg1⟩
  replace HI := hide (HI.out.grown hg1)
  have I := HI.out
  have l1 := I.b1.lt
  have l3 := I.b3.lt
  obtain ⟨c0, c1, c2, c3, c4, c5, c6, c7, c8, c9, c10, c11⟩ := Blk.args I.b1
  obtain ⟨x0, x1, x2, x3, x4, x5, x6, x7, x8, x9, x10, x11⟩ := Blk.args I.b3
  have f3 := I.b3.frozen
  clear I hg1
  go_wp2_with fail
  clear l1 l3 c0 c1 c2 c3 c4 c5 c6 c7 c8 c9 c10 c11 x0 x1 x2 x3 x4 x5 x6 x7 x8 x9 x10 x11 f3
  refine (Has_c2 2 111 false (by decide) 111 (by decide) _).mono ?_
  rintro e w2 ⟨rfl, hg2⟩
  replace HI := hide (HI.out.grown hg2)
  have I := HI.out
  have l1 := I.b1.lt
  have l3 := I.b3.lt
  obtain ⟨c0, c1, c2, c3, c4, c5, c6, c7, c8, c9, c10, c11⟩ := Blk.args I.b1
  obtain ⟨x0, x1, x2, x3, x4, x5, x6, x7, x8, x9, x10, x11⟩ := Blk.args I.b3
  have f3 := I.b3.frozen
  clear I hg2
  go_wp2_with fail
  clear l1 l3 c0 c1 c2 c3 c4 c5 c6 c7 c8 c9 c10 c11 x0 x1 x2 x3 x4 x5 x6 x7 x8 x9 x10 x11 f3
  refine (Has_c2 2 99 false (by decide) 99 (by decide) _).mono ?_
  rintro e w3 ⟨rfl, hg3⟩
  replace HI := hide (HI.out.grown hg3)
  have I := HI.out
  have l1 := I.b1.lt
  have l3 := I.b3.lt
  obtain ⟨c0, c1, c2, c3, c4, c5, c6, c7, c8, c9, c10, c11⟩ := Blk.args I.b1
  obtain ⟨x0, x1, x2, x3, x4, x5, x6, x7, x8, x9, x10, x11⟩ := Blk.args I.b3
  have f3 := I.b3.frozen
  clear I hg3
  go_wp2_with fail
  clear l1 l3 c0 c1 c2 c3 c4 c5 c6 c7 c8 c9 c10 c11 x0 x1 x2 x3 x4 x5 x6 x7 x8 x9 x10 x11 f3
  refine (Has_c2 2 100 false (by decide) 100 (by decide) _).mono ?_
  rintro e w4 ⟨rfl, hg4⟩
  replace HI := hide (HI.out.grown hg4)
  have I := HI.out
  have l1 := I.b1.lt
  have l3 := I.b3.lt
  obtain ⟨c0, c1, c2, c3, c4, c5, c6, c7, c8, c9, c10, c11⟩ := Blk.args I.b1
  obtain ⟨x0, x1, x2, x3, x4, x5, x6, x7, x8, x9, x10, x11⟩ := Blk.args I.b3
  have f3 := I.b3.frozen
  clear I hg4
  go_wp2_with fail
  clear l1 l3 c0 c1 c2 c3 c4 c5 c6 c7 c8 c9 c10 c11 x0 x1 x2 x3 x4 x5 x6 x7 x8 x9 x10 x11 f3
  refine (Has_c2 2 109 false (by decide) 109 (by decide) _).mono ?_
  rintro e w5 ⟨rfl, hg5⟩
  replace HI := hide (HI.out.grown hg5)
  have I := HI.out
  have l1 := I.b1.lt
  have l3 := I.b3.lt
  obtain ⟨c0, c1, c2, c3, c4, c5, c6, c7, c8, c9, c10, c11⟩ := Blk.args I.b1
  obtain ⟨x0, x1, x2, x3, x4, x5, x6, x7, x8, x9, x10, x11⟩ := Blk.args I.b3
  have f3 := I.b3.frozen
  clear I hg5
  go_wp2_with fail
  clear l1 l3 c0 c1 c2 c3 c4 c5 c6 c7 c8 c9 c10 c11 x0 x1 x2 x3 x4 x5 x6 x7 x8 x9 x10 x11 f3
  refine (Has_c2 2 105 false (by decide) 105 (by decide) _).mono ?_
  rintro e w6 ⟨rfl, hg6⟩
  replace HI := hide (HI.out.grown hg6)
  have I := HI.out
  have l1 := I.b1.lt
  have l3 := I.b3.lt
  obtain ⟨c0, c1, c2, c3, c4, c5, c6, c7, c8, c9, c10, c11⟩ := Blk.args I.b1
  obtain ⟨x0, x1, x2, x3, x4, x5, x6, x7, x8, x9, x10, x11⟩ := Blk.args I.b3
  have f3 := I.b3.frozen
  clear I hg6
  have l2 := HI.out.b2.lt
  obtain ⟨e0, e1, e2, e3, e4, e5, e6, e7, e8, e9, e10, e11⟩ := Blk.args (a := zeroA 0) (u := .slice none 0 0) HI.out.b2
  have f2 := HI.out.b2.frozen
  go_wp2_with fail
  clear l1 l3 c0 c1 c2 c3 c4 c5 c6 c7 c8 c9 c10 c11 x0 x1 x2 x3 x4 x5 x6 x7 x8 x9 x10 x11 f3
  refine post_put12 HI.out.b2 rfl fun wz hb2 hgz => ?_
  have d0 := hb2.cell 0
  have d1 := hb2.cell 1
  have d2 := hb2.cell 2
  have d3 := hb2.cell 3
  have d4 := hb2.cell 4
  have d5 := hb2.cell 5
  have d6 := hb2.cell 6
  have d7 := hb2.cell 7
  have d8 := hb2.cell 8
  have d9 := hb2.cell 9
  have d10 := hb2.cell 10
  have d11 := hb2.cell 11
  simp only [List.getElem?_toArray, List.getElem?_cons_zero, List.getElem?_cons_succ] at d0 d1 d2 d3 d4 d5 d6 d7 d8 d9 d10 d11
  refine bodyPost_ret (v := ((ownA _).at _).val) (by rw [Hown.out]; simp [results, Try.results37, go_sem, d0, d1, d2, d3, d4, d5, d6, d7, d8, d9, d10, d11]; rfl) rfl ?_
  exact ⟨_, rfl, by rw [Hown.out]; exact HI.out.bx.kept hgz (fun k hk => by cases hk; exact ⟨_, _, HI.out.b2, by decide⟩), gb_new HI.out.g hgz (by omega)⟩
set_option maxHeartbeats 2000000 in
theorem own3_c (a : AA) (ha : a.proc = 3) (u : Value) (w : World) (hu : BS w u a.dl) : Calls Try.prog 37 #[(a.at u).val] w (OwnR a w) := by
  have hown : ownA a = ownA a := rfl
  conv at hown => rhs; unfold ownA; rw [ha]; simp only [show fieldsOf 3 = [0, 2] from rfl, List.foldl_cons, List.foldl_nil, AA.setF, zeroA]
  have Hown := hide hown
  clear hown
  obtain ⟨Au, cu, hue, _⟩ := id hu
  obtain ⟨proc, off, count, size, mode, hi, hg, ji, jg, name, name2, data, dl⟩ := a
  simp only [] at ha
  subst ha
  obtain ⟨b1, b2, b3⟩ := alloc3 w ((AA.mk 3 off count size mode hi hg ji jg name name2 data dl).at u).cells.toArray (zeroA 0).cells.toArray (({ zeroA 3 with hi := hi, hg := hg } : AA).at (.slice none 0 0)).cells.toArray
  have I : OwnI (AA.mk 3 off count size mode hi hg ji jg name name2 data dl) u w.heap.size { zeroA 3 with hi := hi, hg := hg } (.slice none 0 0) w _ := ⟨b1, b2, b3, ((hu.alloc _).alloc _).alloc _, BS.nil _, gb_alloc (gb_alloc (gb_alloc (gb_refl _ _) _) _) _⟩
  clear b1 b2 b3
  have HI := hide I
  subst hue
  clear hu I
  simp only [AA.at, AA.val, AA.cells]
  go_enter Try.func37, Try.ntmps37
  go_wp2_with fail
  refine (Has_c2 3 115 false (by decide) 115 (by decide) _).mono ?_
  rintro e w0 ⟨rfl, hg0⟩
  replace HI := hide (HI.out.grown hg0)
  have I := HI.out
  have l1 := I.b1.lt
  have l3 := I.b3.lt
  obtain ⟨c0, c1, c2, c3, c4, c5, c6, c7, c8, c9, c10, c11⟩ := Blk.args I.b1
  obtain ⟨x0, x1, x2, x3, x4, x5, x6, x7, x8, x9, x10, x11⟩ := Blk.args I.b3
  have f3 := I.b3.frozen
  clear I hg0
  go_wp2_with fail
  clear l1 l3 c0 c1 c2 c3 c4 c5 c6 c7 c8 c9 c10 c11 x0 x1 x2 x3 x4 x5 x6 x7 x8 x9 x10 x11 f3
  refine (Has_c2 3 110 true (by decide) 110 (by decide) _).mono ?_
  rintro e w1 ⟨rfl, hg1⟩
  replace HI := hide (HI.out.grown hg1)
  have I := HI.out
  have l1 := I.b1.lt
  have l3 := I.b3.lt
  obtain ⟨c0, c1, c2, c3, c4, c5, c6, c7, c8, c9, c10, c11⟩ := Blk.args I.b1
  obtain ⟨x0, x1, x2, x3, x4, x5, x6, x7, x8, x9, x10, x11⟩ := Blk.args I.b3
  have f3 := I.b3.frozen
  clear I hg1
  go_wp2_with fail
  replace HI := hide (HI.out.store rfl 9 _ { ({ zeroA 3 with hi := hi, hg := hg } : AA) with name := name } rfl rfl)
  clear l1 l3 c0 c1 c2 c3 c4 c5 c6 c7 c8 c9 c10 c11 x0 x1 x2 x3 x4 x5 x6 x7 x8 x9 x10 x11 f3
  refine (Has_c2 3 111 false (by decide) 111 (by decide) _).mono ?_
  rintro e w2 ⟨rfl, hg2⟩
  replace HI := hide (HI.out.grown hg2)
  have I := HI.out
  have l1 := I.b1.lt
  have l3 := I.b3.lt
  obtain ⟨c0, c1, c2, c3, c4, c5, c6, c7, c8, c9, c10, c11⟩ := Blk.args I.b1
  obtain ⟨x0, x1, x2, x3, x4, x5, x6, x7, x8, x9, x10, x11⟩ := Blk.args I.b3
  have f3 := I.b3.frozen
  clear I hg2
  go_wp2_with fail
  clear l1 l3 c0 c1 c2 c3 c4 c5 c6 c7 c8 c9 c10 c11 x0 x1 x2 x3 x4 x5 x6 x7 x8 x9 x10 x11 f3
  refine (Has_c2 3 99 false (by decide) 99 (by decide) _).mono ?_
  rintro e w3 ⟨rfl, hg3⟩
  replace HI := hide (HI.out.grown hg3)
  have I := HI.out
  have l1 := I.b1.lt
  have l3 := I.b3.lt
  obtain ⟨c0, c1, c2, c3, c4, c5, c6, c7, c8, c9, c10, c11⟩ := Blk.args I.b1
  obtain ⟨x0, x1, x2, x3, x4, x5, x6, x7, x8, x9, x10, x11⟩ := Blk.args I.b3
  have f3 := I.b3.frozen
  clear I hg3
  go_wp2_with fail
  clear l1 l3 c0 c1 c2 c3 c4 c5 c6 c7 c8 c9 c10 c11 x0 x1 x2 x3 x4 x5 x6 x7 x8 x9 x10 x11 f3
  refine (Has_c2 3 100 false (by decide) 100 (by decide) _).mono ?_
  rintro e w4 ⟨rfl, hg4⟩
  replace HI := hide (HI.out.grown hg4)
  have I := HI.out
  have l1 := I.b1.lt
  have l3 := I.b3.lt
  obtain ⟨c0, c1, c2, c3, c4, c5, c6, c7, c8, c9, c10, c11⟩ := Blk.args I.b1
  obtain ⟨x0, x1, x2, x3, x4, x5, x6, x7, x8, x9, x10, x11⟩ := Blk.args I.b3
  have f3 := I.b3.frozen
  clear I hg4
  go_wp2_with fail
  clear l1 l3 c0 c1 c2 c3 c4 c5 c6 c7 c8 c9 c10 c11 x0 x1 x2 x3 x4 x5 x6 x7 x8 x9 x10 x11 f3
  refine (Has_c2 3 109 false (by decide) 109 (by decide) _).mono ?_
  rintro e w5 ⟨rfl, hg5⟩
  replace HI := hide (HI.out.grown hg5)
  have I := HI.out
  have l1 := I.b1.lt
  have l3 := I.b3.lt
  obtain ⟨c0, c1, c2, c3, c4, c5, c6, c7, c8, c9, c10, c11⟩ := Blk.args I.b1
  obtain ⟨x0, x1, x2, x3, x4, x5, x6, x7, x8, x9, x10, x11⟩ := Blk.args I.b3
  have f3 := I.b3.frozen
  clear I hg5
  go_wp2_with fail
  clear l1 l3 c0 c1 c2 c3 c4 c5 c6 c7 c8 c9 c10 c11 x0 x1 x2 x3 x4 x5 x6 x7 x8 x9 x10 x11 f3
  refine (Has_c2 3 105 false (by decide) 105 (by decide) _).mono ?_
  rintro e w6 ⟨rfl, hg6⟩
  replace HI := hide (HI.out.grown hg6)
  have I := HI.out
  have l1 := I.b1.lt
  have l3 := I.b3.lt
  obtain ⟨c0, c1, c2, c3, c4, c5, c6, c7, c8, c9, c10, c11⟩ := Blk.args I.b1
  obtain ⟨x0, x1, x2, x3, x4, x5, x6, x7, x8, x9, x10, x11⟩ := Blk.args I.b3
  have f3 := I.b3.frozen
  clear I hg6
  have l2 := HI.out.b2.lt
  obtain ⟨e0, e1, e2, e3, e4, e5, e6, e7, e8, e9, e10, e11⟩ := Blk.args (a := zeroA 0) (u := .slice none 0 0) HI.out.b2
  have f2 := HI.out.b2.frozen
  go_wp2_with fail
  clear l1 l3 c0 c1 c2 c3 c4 c5 c6 c7 c8 c9 c10 c11 x0 x1 x2 x3 x4 x5 x6 x7 x8 x9 x10 x11 f3
  refine post_put12 HI.out.b2 rfl fun wz hb2 hgz => ?_
  have d0 := hb2.cell 0
  have d1 := hb2.cell 1
  have d2 := hb2.cell 2
  have d3 := hb2.cell 3
  have d4 := hb2.cell 4
  have d5 := hb2.cell 5
  have d6 := hb2.cell 6
  have d7 := hb2.cell 7
  have d8 := hb2.cell 8
  have d9 := hb2.cell 9
  have d10 := hb2.cell 10
  have d11 := hb2.cell 11
  simp only [List.getElem?_toArray, List.getElem?_cons_zero, List.getElem?_cons_succ] at d0 d1 d2 d3 d4 d5 d6 d7 d8 d9 d10 d11
  refine bodyPost_ret (v := ((ownA _).at _).val) (by rw [Hown.out]; simp [results, Try.results37, go_sem, d0, d1, d2, d3, d4, d5, d6, d7, d8, d9, d10, d11]; rfl) rfl ?_
  exact ⟨_, rfl, by rw [Hown.out]; exact HI.out.bx.kept hgz (fun k hk => by cases hk; exact ⟨_, _, HI.out.b2, by decide⟩), gb_new HI.out.g hgz (by omega)⟩
set_option maxHeartbeats 2000000 in
theorem own12_c (a : AA) (ha : a.proc = 12) (u : Value) (w : World) (hu : BS w u a.dl) : Calls Try.prog 37 #[(a.at u).val] w (OwnR a w) := by
  have hown : ownA a = ownA a := rfl
  conv at hown => rhs; unfold ownA; rw [ha]; simp only [show fieldsOf 12 = [0, 2] from rfl, List.foldl_cons, List.foldl_nil, AA.setF, zeroA]
  have Hown := hide hown
  clear hown
  obtain ⟨Au, cu, hue, _⟩ := id hu
  obtain ⟨proc, off, count, size, mode, hi, hg, ji, jg, name, name2, data, dl⟩ := a
  simp only [] at ha
  subst ha
  obtain ⟨b1, b2, b3⟩ := alloc3 w ((AA.mk 12 off count size mode hi hg ji jg name name2 data dl).at u).cells.toArray (zeroA 0).cells.toArray (({ zeroA 12 with hi := hi, hg := hg } : AA).at (.slice none 0 0)).cells.toArray
  have I : OwnI (AA.mk 12 off count size mode hi hg ji jg name name2 data dl) u w.heap.size { zeroA 12 with hi := hi, hg := hg } (.slice none 0 0) w _ := ⟨b1, b2, b3, ((hu.alloc _).alloc _).alloc _, BS.nil _, gb_alloc (gb_alloc (gb_alloc (gb_refl _ _) _) _) _⟩
  clear b1 b2 b3
  have HI := hide I
  subst hue
  clear hu I
  simp only [AA.at, AA.val, AA.cells]
  go_enter Try.func37, Try.ntmps37
  go_wp2_with fail
  refine (Has_c2 12 115 false (by decide) 115 (by decide) _).mono ?_
  rintro e w0 ⟨rfl, hg0⟩
  replace HI := hide (HI.out.grown hg0)
  have I := HI.out
  have l1 := I.b1.lt
  have l3 := I.b3.lt
  obtain ⟨c0, c1, c2, c3, c4, c5, c6, c7, c8, c9, c10, c11⟩ := Blk.args I.b1
  obtain ⟨x0, x1, x2, x3, x4, x5, x6, x7, x8, x9, x10, x11⟩ := Blk.args I.b3
  have f3 := I.b3.frozen
  clear I hg0
  go_wp2_with fail
  clear l1 l3 c0 c1 c2 c3 c4 c5 c6 c7 c8 c9 c10 c11 x0 x1 x2 x3 x4 x5 x6 x7 x8 x9 x10 x11 f3
  refine (Has_c2 12 110 true (by decide) 110 (by decide) _).mono ?_
  rintro e w1 ⟨rfl, hg1⟩
  replace HI := hide (HI.out.grown hg1)
  have I := HI.out
  have l1 := I.b1.lt
  have l3 := I.b3.lt
  obtain ⟨c0, c1, c2, c3, c4, c5, c6, c7, c8, c9, c10, c11⟩ := Blk.args I.b1
  obtain ⟨x0, x1, x2, x3, x4, x5, x6, x7, x8, x9, x10, x11⟩ := Blk.args I.b3
  have f3 := I.b3.frozen
  clear I hg1
  go_wp2_with fail
  replace HI := hide (HI.out.store rfl 9 _ { ({ zeroA 12 with hi := hi, hg := hg } : AA) with name := name } rfl rfl)
  clear l1 l3 c0 c1 c2 c3 c4 c5 c6 c7 c8 c9 c10 c11 x0 x1 x2 x3 x4 x5 x6 x7 x8 x9 x10 x11 f3
  refine (Has_c2 12 111 false (by decide) 111 (by decide) _).mono ?_
  rintro e w2 ⟨rfl, hg2⟩
  replace HI := hide (HI.out.grown hg2)
  have I := HI.out
  have l1 := I.b1.lt
  have l3 := I.b3.lt
  obtain ⟨c0, c1, c2, c3, c4, c5, c6, c7, c8, c9, c10, c11⟩ := Blk.args I.b1
  obtain ⟨x0, x1, x2, x3, x4, x5, x6, x7, x8, x9, x10, x11⟩ := Blk.args I.b3
  have f3 := I.b3.frozen
  clear I hg2
  go_wp2_with fail
  clear l1 l3 c0 c1 c2 c3 c4 c5 c6 c7 c8 c9 c10 c11 x0 x1 x2 x3 x4 x5 x6 x7 x8 x9 x10 x11 f3
  refine (Has_c2 12 99 false (by decide) 99 (by decide) _).mono ?_
  rintro e w3 ⟨rfl, hg3⟩
  replace HI := hide (HI.out.grown hg3)
  have I := HI.out
  have l1 := I.b1.lt
  have l3 := I.b3.lt
  obtain ⟨c0, c1, c2, c3, c4, c5, c6, c7, c8, c9, c10, c11⟩ := Blk.args I.b1
  obtain ⟨x0, x1, x2, x3, x4, x5, x6, x7, x8, x9, x10, x11⟩ := Blk.args I.b3
  have f3 := I.b3.frozen
  clear I hg3
  go_wp2_with fail
  clear l1 l3 c0 c1 c2 c3 c4 c5 c6 c7 c8 c9 c10 c11 x0 x1 x2 x3 x4 x5 x6 x7 x8 x9 x10 x11 f3
  refine (Has_c2 12 100 false (by decide) 100 (by decide) _).mono ?_
  rintro e w4 ⟨rfl, hg4⟩
  replace HI := hide (HI.out.grown hg4)
  have I := HI.out
  have l1 := I.b1.lt
  have l3 := I.b3.lt
  obtain ⟨c0, c1, c2, c3, c4, c5, c6, c7, c8, c9, c10, c11⟩ := Blk.args I.b1
  obtain ⟨x0, x1, x2, x3, x4, x5, x6, x7, x8, x9, x10, x11⟩ := Blk.args I.b3
  have f3 := I.b3.frozen
  clear I hg4
  go_wp2_with fail
  clear l1 l3 c0 c1 c2 c3 c4 c5 c6 c7 c8 c9 c10 c11 x0 x1 x2 x3 x4 x5 x6 x7 x8 x9 x10 x11 f3
  refine (Has_c2 12 109 false (by decide) 109 (by decide) _).mono ?_
  rintro e w5 ⟨rfl, hg5⟩
  replace HI := hide (HI.out.grown hg5)
  have I := HI.out
  have l1 := I.b1.lt
  have l3 := I.b3.lt
  obtain ⟨c0, c1, c2, c3, c4, c5, c6, c7, c8, c9, c10, c11⟩ := Blk.args I.b1
  obtain ⟨x0, x1, x2, x3, x4, x5, x6, x7, x8, x9, x10, x11⟩ := Blk.args I.b3
  have f3 := I.b3.frozen
  clear I hg5
  go_wp2_with fail
  clear l1 l3 c0 c1 c2 c3 c4 c5 c6 c7 c8 c9 c10 c11 x0 x1 x2 x3 x4 x5 x6 x7 x8 x9 x10 x11 f3
  refine (Has_c2 12 105 false (by decide) 105 (by decide) _).mono ?_
  rintro e w6 ⟨rfl, hg6⟩
  replace HI := hide (HI.out.grown hg6)
  have I := HI.out
  have l1 := I.b1.lt
  have l3 := I.b3.lt
  obtain ⟨c0, c1, c2, c3, c4, c5, c6, c7, c8, c9, c10, c11⟩ := Blk.args I.b1
  obtain ⟨x0, x1, x2, x3, x4, x5, x6, x7, x8, x9, x10, x11⟩ := Blk.args I.b3
  have f3 := I.b3.frozen
  clear I hg6
  have l2 := HI.out.b2.lt
  obtain ⟨e0, e1, e2, e3, e4, e5, e6, e7, e8, e9, e10, e11⟩ := Blk.args (a := zeroA 0) (u := .slice none 0 0) HI.out.b2
  have f2 := HI.out.b2.frozen
  go_wp2_with fail
  clear l1 l3 c0 c1 c2 c3 c4 c5 c6 c7 c8 c9 c10 c11 x0 x1 x2 x3 x4 x5 x6 x7 x8 x9 x10 x11 f3
  refine post_put12 HI.out.b2 rfl fun wz hb2 hgz => ?_
  have d0 := hb2.cell 0
  have d1 := hb2.cell 1
  have d2 := hb2.cell 2
  have d3 := hb2.cell 3
  have d4 := hb2.cell 4
  have d5 := hb2.cell 5
  have d6 := hb2.cell 6
  have d7 := hb2.cell 7
  have d8 := hb2.cell 8
  have d9 := hb2.cell 9
  have d10 := hb2.cell 10
  have d11 := hb2.cell 11
  simp only [List.getElem?_toArray, List.getElem?_cons_zero, List.getElem?_cons_succ] at d0 d1 d2 d3 d4 d5 d6 d7 d8 d9 d10 d11
  refine bodyPost_ret (v := ((ownA _).at _).val) (by rw [Hown.out]; simp [results, Try.results37, go_sem, d0, d1, d2, d3, d4, d5, d6, d7, d8, d9, d10, d11]; rfl) rfl ?_
  exact ⟨_, rfl, by rw [Hown.out]; exact HI.out.bx.kept hgz (fun k hk => by cases hk; exact ⟨_, _, HI.out.b2, by decide⟩), gb_new HI.out.g hgz (by omega)⟩
set_option maxHeartbeats 2000000 in
theorem own13_c (a : AA) (ha : a.proc = 13) (u : Value) (w : World) (hu : BS w u a.dl) : Calls Try.prog 37 #[(a.at u).val] w (OwnR a w) := by
  have hown : ownA a = ownA a := rfl
  conv at hown => rhs; unfold ownA; rw [ha]; simp only [show fieldsOf 13 = [0, 2] from rfl, List.foldl_cons, List.foldl_nil, AA.setF, zeroA]
  have Hown := hide hown
  clear hown
  obtain ⟨Au, cu, hue, _⟩ := id hu
  obtain ⟨proc, off, count, size, mode, hi, hg, ji, jg, name, name2, data, dl⟩ := a
  simp only [] at ha
  subst ha
  obtain ⟨b1, b2, b3⟩ := alloc3 w ((AA.mk 13 off count size mode hi hg ji jg name name2 data dl).at u).cells.toArray (zeroA 0).cells.toArray (({ zeroA 13 with hi := hi, hg := hg } : AA).at (.slice none 0 0)).cells.toArray
  have I : OwnI (AA.mk 13 off count size mode hi hg ji jg name name2 data dl) u w.heap.size { zeroA 13 with hi := hi, hg := hg } (.slice none 0 0) w _ := ⟨b1, b2, b3, ((hu.alloc _).alloc _).alloc _, BS.nil _, gb_alloc (gb_alloc (gb_alloc (gb_refl _ _) _) _) _⟩
  clear b1 b2 b3
  have HI := hide I
  subst hue
  clear hu I
  simp only [AA.at, AA.val, AA.cells]
  go_enter Try.func37, Try.ntmps37
  go_wp2_with fail
  refine (Has_c2 13 115 false (by decide) 115 (by decide) _).mono ?_
  rintro e w0 ⟨rfl, hg0⟩
  replace HI := hide (HI.out.grown hg0)
  have I := HI.out
  have l1 := I.b1.lt
  have l3 := I.b3.lt
  obtain ⟨c0, c1, c2, c3, c4, c5, c6, c7, c8, c9, c10, c11⟩ := Blk.args I.b1
  obtain ⟨x0, x1, x2, x3, x4, x5, x6, x7, x8, x9, x10, x11⟩ := Blk.args I.b3
  have f3 := I.b3.frozen
  clear I hg0
  go_wp2_with fail
  clear l1 l3 c0 c1 c2 c3 c4 c5 c6 c7 c8 c9 c10 c11 x0 x1 x2 x3 x4 x5 x6 x7 x8 x9 x10 x11 f3
  refine (Has_c2 13 110 true (by decide) 110 (by decide) _).mono ?_
  rintro e w1 ⟨rfl, hg1⟩
  replace HI := hide (HI.out.grown hg1)
  have I := HI.out
  have l1 := I.b1.lt
  have l3 := I.b3.lt
  obtain ⟨c0, c1, c2, c3, c4, c5, c6, c7, c8, c9, c10, c11⟩ := Blk.args I.b1
  obtain ⟨x0, x1, x2, x3, x4, x5, x6, x7, x8, x9, x10, x11⟩ := Blk.args I.b3
  have f3 := I.b3.frozen
  clear I hg1
  go_wp2_with fail
  replace HI := hide (HI.out.store rfl 9 _ { ({ zeroA 13 with hi := hi, hg := hg } : AA) with name := name } rfl rfl)
  clear l1 l3 c0 c1 c2 c3 c4 c5 c6 c7 c8 c9 c10 c11 x0 x1 x2 x3 x4 x5 x6 x7 x8 x9 x10 x11 f3
  refine (Has_c2 13 111 false (by decide) 111 (by decide) _).mono ?_
  rintro e w2 ⟨rfl, hg2⟩
  replace HI := hide (HI.out.grown hg2)
  have I := HI.out
  have l1 := I.b1.lt
  have l3 := I.b3.lt
  obtain ⟨c0, c1, c2, c3, c4, c5, c6, c7, c8, c9, c10, c11⟩ := Blk.args I.b1
  obtain ⟨x0, x1, x2, x3, x4, x5, x6, x7, x8, x9, x10, x11⟩ := Blk.args I.b3
  have f3 := I.b3.frozen
  clear I hg2
  go_wp2_with fail
  clear l1 l3 c0 c1 c2 c3 c4 c5 c6 c7 c8 c9 c10 c11 x0 x1 x2 x3 x4 x5 x6 x7 x8 x9 x10 x11 f3
  refine (Has_c2 13 99 false (by decide) 99 (by decide) _).mono ?_
  rintro e w3 ⟨rfl, hg3⟩
  replace HI := hide (HI.out.grown hg3)
  have I := HI.out
  have l1 := I.b1.lt
  have l3 := I.b3.lt
  obtain ⟨c0, c1, c2, c3, c4, c5, c6, c7, c8, c9, c10, c11⟩ := Blk.args I.b1
  obtain ⟨x0, x1, x2, x3, x4, x5, x6, x7, x8, x9, x10, x11⟩ := Blk.args I.b3
  have f3 := I.b3.frozen
  clear I hg3
  go_wp2_with fail
  clear l1 l3 c0 c1 c2 c3 c4 c5 c6 c7 c8 c9 c10 c11 x0 x1 x2 x3 x4 x5 x6 x7 x8 x9 x10 x11 f3
  refine (Has_c2 13 100 false (by decide) 100 (by decide) _).mono ?_
  rintro e w4 ⟨rfl, hg4⟩
  replace HI := hide (HI.out.grown hg4)
  have I := HI.out
  have l1 := I.b1.lt
  have l3 := I.b3.lt
  obtain ⟨c0, c1, c2, c3, c4, c5, c6, c7, c8, c9, c10, c11⟩ := Blk.args I.b1
  obtain ⟨x0, x1, x2, x3, x4, x5, x6, x7, x8, x9, x10, x11⟩ := Blk.args I.b3
  have f3 := I.b3.frozen
  clear I hg4
  go_wp2_with fail
  clear l1 l3 c0 c1 c2 c3 c4 c5 c6 c7 c8 c9 c10 c11 x0 x1 x2 x3 x4 x5 x6 x7 x8 x9 x10 x11 f3
  refine (Has_c2 13 109 false (by decide) 109 (by decide) _).mono ?_
  rintro e w5 ⟨rfl, hg5⟩
  replace HI := hide (HI.out.grown hg5)
  have I := HI.out
  have l1 := I.b1.lt
  have l3 := I.b3.lt
  obtain ⟨c0, c1, c2, c3, c4, c5, c6, c7, c8, c9, c10, c11⟩ := Blk.args I.b1
  obtain ⟨x0, x1, x2, x3, x4, x5, x6, x7, x8, x9, x10, x11⟩ := Blk.args I.b3
  have f3 := I.b3.frozen
  clear I hg5
  go_wp2_with fail
  clear l1 l3 c0 c1 c2 c3 c4 c5 c6 c7 c8 c9 c10 c11 x0 x1 x2 x3 x4 x5 x6 x7 x8 x9 x10 x11 f3
  refine (Has_c2 13 105 false (by decide) 105 (by decide) _).mono ?_
  rintro e w6 ⟨rfl, hg6⟩
  replace HI := hide (HI.out.grown hg6)
  have I := HI.out
  have l1 := I.b1.lt
  have l3 := I.b3.lt
  obtain ⟨c0, c1, c2, c3, c4, c5, c6, c7, c8, c9, c10, c11⟩ := Blk.args I.b1
  obtain ⟨x0, x1, x2, x3, x4, x5, x6, x7, x8, x9, x10, x11⟩ := Blk.args I.b3
  have f3 := I.b3.frozen
  clear I hg6
  have l2 := HI.out.b2.lt
  obtain ⟨e0, e1, e2, e3, e4, e5, e6, e7, e8, e9, e10, e11⟩ := Blk.args (a := zeroA 0) (u := .slice none 0 0) HI.out.b2
  have f2 := HI.out.b2.frozen
  go_wp2_with fail
  clear l1 l3 c0 c1 c2 c3 c4 c5 c6 c7 c8 c9 c10 c11 x0 x1 x2 x3 x4 x5 x6 x7 x8 x9 x10 x11 f3
  refine post_put12 HI.out.b2 rfl fun wz hb2 hgz => ?_
  have d0 := hb2.cell 0
  have d1 := hb2.cell 1
  have d2 := hb2.cell 2
  have d3 := hb2.cell 3
  have d4 := hb2.cell 4
  have d5 := hb2.cell 5
  have d6 := hb2.cell 6
  have d7 := hb2.cell 7
  have d8 := hb2.cell 8
  have d9 := hb2.cell 9
  have d10 := hb2.cell 10
  have d11 := hb2.cell 11
  simp only [List.getElem?_toArray, List.getElem?_cons_zero, List.getElem?_cons_succ] at d0 d1 d2 d3 d4 d5 d6 d7 d8 d9 d10 d11
  refine bodyPost_ret (v := ((ownA _).at _).val) (by rw [Hown.out]; simp [results, Try.results37, go_sem, d0, d1, d2, d3, d4, d5, d6, d7, d8, d9, d10, d11]; rfl) rfl ?_
  exact ⟨_, rfl, by rw [Hown.out]; exact HI.out.bx.kept hgz (fun k hk => by cases hk; exact ⟨_, _, HI.out.b2, by decide⟩), gb_new HI.out.g hgz (by omega)⟩
set_option maxHeartbeats 2000000 in
theorem own6_c (a : AA) (ha : a.proc = 6) (u : Value) (w : World) (hu : BS w u a.dl) : Calls Try.prog 37 #[(a.at u).val] w (OwnR a w) := by
  have hown : ownA a = ownA a := rfl
  conv at hown => rhs; unfold ownA; rw [ha]; simp only [show fieldsOf 6 = [0, 4, 5] from rfl, List.foldl_cons, List.foldl_nil, AA.setF, zeroA]
  have Hown := hide hown
  clear hown
  obtain ⟨Au, cu, hue, _⟩ := id hu
  obtain ⟨proc, off, count, size, mode, hi, hg, ji, jg, name, name2, data, dl⟩ := a
  simp only [] at ha
  subst ha
  obtain ⟨b1, b2, b3⟩ := alloc3 w ((AA.mk 6 off count size mode hi hg ji jg name name2 data dl).at u).cells.toArray (zeroA 0).cells.toArray (({ zeroA 6 with hi := hi, hg := hg } : AA).at (.slice none 0 0)).cells.toArray
  have I : OwnI (AA.mk 6 off count size mode hi hg ji jg name name2 data dl) u w.heap.size { zeroA 6 with hi := hi, hg := hg } (.slice none 0 0) w _ := ⟨b1, b2, b3, ((hu.alloc _).alloc _).alloc _, BS.nil _, gb_alloc (gb_alloc (gb_alloc (gb_refl _ _) _) _) _⟩
  clear b1 b2 b3
  have HI := hide I
  subst hue
  clear hu I
  simp only [AA.at, AA.val, AA.cells]
  go_enter Try.func37, Try.ntmps37
  go_wp2_with fail
  refine (Has_c2 6 115 false (by decide) 115 (by decide) _).mono ?_
  rintro e w0 ⟨rfl, hg0⟩
  replace HI := hide (HI.out.grown hg0)
  have I := HI.out
  have l1 := I.b1.lt
  have l3 := I.b3.lt
  obtain ⟨c0, c1, c2, c3, c4, c5, c6, c7, c8, c9, c10, c11⟩ := Blk.args I.b1
  obtain ⟨x0, x1, x2, x3, x4, x5, x6, x7, x8, x9, x10, x11⟩ := Blk.args I.b3
  have f3 := I.b3.frozen
  clear I hg0
  go_wp2_with fail
  clear l1 l3 c0 c1 c2 c3 c4 c5 c6 c7 c8 c9 c10 c11 x0 x1 x2 x3 x4 x5 x6 x7 x8 x9 x10 x11 f3
  refine (Has_c2 6 110 false (by decide) 110 (by decide) _).mono ?_
  rintro e w1 ⟨rfl, hg1⟩
  replace HI := hide (HI.out.grown hg1)
  have I := HI.out
  have l1 := I.b1.lt
  have l3 := I.b3.lt
  obtain ⟨c0, c1, c2, c3, c4, c5, c6, c7, c8, c9, c10, c11⟩ := Blk.args I.b1
  obtain ⟨x0, x1, x2, x3, x4, x5, x6, x7, x8, x9, x10, x11⟩ := Blk.args I.b3
  have f3 := I.b3.frozen
  clear I hg1
  go_wp2_with fail
  clear l1 l3 c0 c1 c2 c3 c4 c5 c6 c7 c8 c9 c10 c11 x0 x1 x2 x3 x4 x5 x6 x7 x8 x9 x10 x11 f3
  refine (Has_c2 6 111 true (by decide) 111 (by decide) _).mono ?_
  rintro e w2 ⟨rfl, hg2⟩
  replace HI := hide (HI.out.grown hg2)
  have I := HI.out
  have l1 := I.b1.lt
  have l3 := I.b3.lt
  obtain ⟨c0, c1, c2, c3, c4, c5, c6, c7, c8, c9, c10, c11⟩ := Blk.args I.b1
  obtain ⟨x0, x1, x2, x3, x4, x5, x6, x7, x8, x9, x10, x11⟩ := Blk.args I.b3
  have f3 := I.b3.frozen
  clear I hg2
  go_wp2_with fail
  replace HI := hide (HI.out.store rfl 1 _ { ({ zeroA 6 with hi := hi, hg := hg } : AA) with off := off } rfl rfl)
  clear l1 l3 c0 c1 c2 c3 c4 c5 c6 c7 c8 c9 c10 c11 x0 x1 x2 x3 x4 x5 x6 x7 x8 x9 x10 x11 f3
  refine (Has_c2 6 99 true (by decide) 99 (by decide) _).mono ?_
  rintro e w3 ⟨rfl, hg3⟩
  replace HI := hide (HI.out.grown hg3)
  have I := HI.out
  have l1 := I.b1.lt
  have l3 := I.b3.lt
  obtain ⟨c0, c1, c2, c3, c4, c5, c6, c7, c8, c9, c10, c11⟩ := Blk.args I.b1
  obtain ⟨x0, x1, x2, x3, x4, x5, x6, x7, x8, x9, x10, x11⟩ := Blk.args I.b3
  have f3 := I.b3.frozen
  clear I hg3
  go_wp2_with fail
  replace HI := hide (HI.out.store rfl 2 _ { ({ ({ zeroA 6 with hi := hi, hg := hg } : AA) with off := off } : AA) with count := count } rfl rfl)
  clear l1 l3 c0 c1 c2 c3 c4 c5 c6 c7 c8 c9 c10 c11 x0 x1 x2 x3 x4 x5 x6 x7 x8 x9 x10 x11 f3
  refine (Has_c2 6 100 false (by decide) 100 (by decide) _).mono ?_
  rintro e w4 ⟨rfl, hg4⟩
  replace HI := hide (HI.out.grown hg4)
  have I := HI.out
  have l1 := I.b1.lt
  have l3 := I.b3.lt
  obtain ⟨c0, c1, c2, c3, c4, c5, c6, c7, c8, c9, c10, c11⟩ := Blk.args I.b1
  obtain ⟨x0, x1, x2, x3, x4, x5, x6, x7, x8, x9, x10, x11⟩ := Blk.args I.b3
  have f3 := I.b3.frozen
  clear I hg4
  go_wp2_with fail
  clear l1 l3 c0 c1 c2 c3 c4 c5 c6 c7 c8 c9 c10 c11 x0 x1 x2 x3 x4 x5 x6 x7 x8 x9 x10 x11 f3
  refine (Has_c2 6 109 false (by decide) 109 (by decide) _).mono ?_
  rintro e w5 ⟨rfl, hg5⟩
  replace HI := hide (HI.out.grown hg5)
  have I := HI.out
  have l1 := I.b1.lt
  have l3 := I.b3.lt
  obtain ⟨c0, c1, c2, c3, c4, c5, c6, c7, c8, c9, c10, c11⟩ := Blk.args I.b1
  obtain ⟨x0, x1, x2, x3, x4, x5, x6, x7, x8, x9, x10, x11⟩ := Blk.args I.b3
  have f3 := I.b3.frozen
  clear I hg5
  go_wp2_with fail
  clear l1 l3 c0 c1 c2 c3 c4 c5 c6 c7 c8 c9 c10 c11 x0 x1 x2 x3 x4 x5 x6 x7 x8 x9 x10 x11 f3
  refine (Has_c2 6 105 false (by decide) 105 (by decide) _).mono ?_
  rintro e w6 ⟨rfl, hg6⟩
  replace HI := hide (HI.out.grown hg6)
  have I := HI.out
  have l1 := I.b1.lt
  have l3 := I.b3.lt
  obtain ⟨c0, c1, c2, c3, c4, c5, c6, c7, c8, c9, c10, c11⟩ := Blk.args I.b1
  obtain ⟨x0, x1, x2, x3, x4, x5, x6, x7, x8, x9, x10, x11⟩ := Blk.args I.b3
  have f3 := I.b3.frozen
  clear I hg6
  have l2 := HI.out.b2.lt
  obtain ⟨e0, e1, e2, e3, e4, e5, e6, e7, e8, e9, e10, e11⟩ := Blk.args (a := zeroA 0) (u := .slice none 0 0) HI.out.b2
  have f2 := HI.out.b2.frozen
  go_wp2_with fail
  clear l1 l3 c0 c1 c2 c3 c4 c5 c6 c7 c8 c9 c10 c11 x0 x1 x2 x3 x4 x5 x6 x7 x8 x9 x10 x11 f3
  refine post_put12 HI.out.b2 rfl fun wz hb2 hgz => ?_
  have d0 := hb2.cell 0
  have d1 := hb2.cell 1
  have d2 := hb2.cell 2
  have d3 := hb2.cell 3
  have d4 := hb2.cell 4
  have d5 := hb2.cell 5
  have d6 := hb2.cell 6
  have d7 := hb2.cell 7
  have d8 := hb2.cell 8
  have d9 := hb2.cell 9
  have d10 := hb2.cell 10
  have d11 := hb2.cell 11
  simp only [List.getElem?_toArray, List.getElem?_cons_zero, List.getElem?_cons_succ] at d0 d1 d2 d3 d4 d5 d6 d7 d8 d9 d10 d11
  refine bodyPost_ret (v := ((ownA _).at _).val) (by rw [Hown.out]; simp [results, Try.results37, go_sem, d0, d1, d2, d3, d4, d5, d6, d7, d8, d9, d10, d11]; rfl) rfl ?_
  exact ⟨_, rfl, by rw [Hown.out]; exact HI.out.bx.kept hgz (fun k hk => by cases hk; exact ⟨_, _, HI.out.b2, by decide⟩), gb_new HI.out.g hgz (by omega)⟩
set_option maxHeartbeats 2000000 in
theorem own16_c (a : AA) (ha : a.proc = 16) (u : Value) (w : World) (hu : BS w u a.dl) : Calls Try.prog 37 #[(a.at u).val] w (OwnR a w) := by
  have hown : ownA a = ownA a := rfl
  conv at hown => rhs; unfold ownA; rw [ha]; simp only [show fieldsOf 16 = [0, 4, 5] from rfl, List.foldl_cons, List.foldl_nil, AA.setF, zeroA]
  have Hown := hide hown
  clear hown
  obtain ⟨Au, cu, hue, _⟩ := id hu
  obtain ⟨proc, off, count, size, mode, hi, hg, ji, jg, name, name2, data, dl⟩ := a
  simp only [] at ha
  subst ha
  obtain ⟨b1, b2, b3⟩ := alloc3 w ((AA.mk 16 off count size mode hi hg ji jg name name2 data dl).at u).cells.toArray (zeroA 0).cells.toArray (({ zeroA 16 with hi := hi, hg := hg } : AA).at (.slice none 0 0)).cells.toArray
  have I : OwnI (AA.mk 16 off count size mode hi hg ji jg name name2 data dl) u w.heap.size { zeroA 16 with hi := hi, hg := hg } (.slice none 0 0) w _ := ⟨b1, b2, b3, ((hu.alloc _).alloc _).alloc _, BS.nil _, gb_alloc (gb_alloc (gb_alloc (gb_refl _ _) _) _) _⟩
  clear b1 b2 b3
  have HI := hide I
  subst hue
  clear hu I
  simp only [AA.at, AA.val, AA.cells]
  go_enter Try.func37, Try.ntmps37
  go_wp2_with fail
  refine (Has_c2 16 115 false (by decide) 115 (by decide) _).mono ?_
  rintro e w0 ⟨rfl, hg0⟩
  replace HI := hide (HI.out.grown hg0)
  have I := HI.out
  have l1 := I.b1.lt
  have l3 := I.b3.lt
  obtain ⟨c0, c1, c2, c3, c4, c5, c6, c7, c8, c9, c10, c11⟩ := Blk.args I.b1
  obtain ⟨x0, x1, x2, x3, x4, x5, x6, x7, x8, x9, x10, x11⟩ := Blk.args I.b3
  have f3 := I.b3.frozen
  clear I hg0
  go_wp2_with fail
  clear l1 l3 c0 c1 c2 c3 c4 c5 c6 c7 c8 c9 c10 c11 x0 x1 x2 x3 x4 x5 x6 x7 x8 x9 x10 x11 f3
  refine (Has_c2 16 110 false (by decide) 110 (by decide) _).mono ?_
  rintro e w1 ⟨rfl, hg1⟩
  replace HI := hide (HI.out.grown hg1)
  have I := HI.out
  have l1 := I.b1.lt
  have l3 := I.b3.lt
  obtain ⟨c0, c1, c2, c3, c4, c5, c6, c7, c8, c9, c10, c11⟩ := Blk.args I.b1
  obtain ⟨x0, x1, x2, x3, x4, x5, x6, x7, x8, x9, x10, x11⟩ := Blk.args I.b3
  have f3 := I.b3.frozen
  clear I hg1
  go_wp2_with fail
  clear l1 l3 c0 c1 c2 c3 c4 c5 c6 c7 c8 c9 c10 c11 x0 x1 x2 x3 x4 x5 x6 x7 x8 x9 x10 x11 f3
  refine (Has_c2 16 111 true (by decide) 111 (by decide) _).mono ?_
  rintro e w2 ⟨rfl, hg2⟩
  replace HI := hide (HI.out.grown hg2)
  have I := HI.out
  have l1 := I.b1.lt
  have l3 := I.b3.lt
  obtain ⟨c0, c1, c2, c3, c4, c5, c6, c7, c8, c9, c10, c11⟩ := Blk.args I.b1
  obtain ⟨x0, x1, x2, x3, x4, x5, x6, x7, x8, x9, x10, x11⟩ := Blk.args I.b3
  have f3 := I.b3.frozen
  clear I hg2
  go_wp2_with fail
  replace HI := hide (HI.out.store rfl 1 _ { ({ zeroA 16 with hi := hi, hg := hg } : AA) with off := off } rfl rfl)
  clear l1 l3 c0 c1 c2 c3 c4 c5 c6 c7 c8 c9 c10 c11 x0 x1 x2 x3 x4 x5 x6 x7 x8 x9 x10 x11 f3
  refine (Has_c2 16 99 true (by decide) 99 (by decide) _).mono ?_
  rintro e w3 ⟨rfl, hg3⟩
  replace HI := hide (HI.out.grown hg3)
  have I := HI.out
  have l1 := I.b1.lt
  have l3 := I.b3.lt
  obtain ⟨c0, c1, c2, c3, c4, c5, c6, c7, c8, c9, c10, c11⟩ := Blk.args I.b1
  obtain ⟨x0, x1, x2, x3, x4, x5, x6, x7, x8, x9, x10, x11⟩ := Blk.args I.b3
  have f3 := I.b3.frozen
  clear I hg3
  go_wp2_with fail
  replace HI := hide (HI.out.store rfl 2 _ { ({ ({ zeroA 16 with hi := hi, hg := hg } : AA) with off := off } : AA) with count := count } rfl rfl)
  clear l1 l3 c0 c1 c2 c3 c4 c5 c6 c7 c8 c9 c10 c11 x0 x1 x2 x3 x4 x5 x6 x7 x8 x9 x10 x11 f3
  refine (Has_c2 16 100 false (by decide) 100 (by decide) _).mono ?_
  rintro e w4 ⟨rfl, hg4⟩
  replace HI := hide (HI.out.grown hg4)
  have I := HI.out
  have l1 := I.b1.lt
  have l3 := I.b3.lt
  obtain ⟨c0, c1, c2, c3, c4, c5, c6, c7, c8, c9, c10, c11⟩ := Blk.args I.b1
  obtain ⟨x0, x1, x2, x3, x4, x5, x6, x7, x8, x9, x10, x11⟩ := Blk.args I.b3
  have f3 := I.b3.frozen
  clear I hg4
  go_wp2_with fail
  clear l1 l3 c0 c1 c2 c3 c4 c5 c6 c7 c8 c9 c10 c11 x0 x1 x2 x3 x4 x5 x6 x7 x8 x9 x10 x11 f3
  refine (Has_c2 16 109 false (by decide) 109 (by decide) _).mono ?_
  rintro e w5 ⟨rfl, hg5⟩
  replace HI := hide (HI.out.grown hg5)
  have I := HI.out
  have l1 := I.b1.lt
  have l3 := I.b3.lt
  obtain ⟨c0, c1, c2, c3, c4, c5, c6, c7, c8, c9, c10, c11⟩ := Blk.args I.b1
  obtain ⟨x0, x1, x2, x3, x4, x5, x6, x7, x8, x9, x10, x11⟩ := Blk.args I.b3
  have f3 := I.b3.frozen
  clear I hg5
  go_wp2_with fail
  clear l1 l3 c0 c1 c2 c3 c4 c5 c6 c7 c8 c9 c10 c11 x0 x1 x2 x3 x4 x5 x6 x7 x8 x9 x10 x11 f3
  refine (Has_c2 16 105 false (by decide) 105 (by decide) _).mono ?_
  rintro e w6 ⟨rfl, hg6⟩
  replace HI := hide (HI.out.grown hg6)
  have I := HI.out
  have l1 := I.b1.lt
  have l3 := I.b3.lt
  obtain ⟨c0, c1, c2, c3, c4, c5, c6, c7, c8, c9, c10, c11⟩ := Blk.args I.b1
  obtain ⟨x0, x1, x2, x3, x4, x5, x6, x7, x8, x9, x10, x11⟩ := Blk.args I.b3
  have f3 := I.b3.frozen
  clear I hg6
  have l2 := HI.out.b2.lt
  obtain ⟨e0, e1, e2, e3, e4, e5, e6, e7, e8, e9, e10, e11⟩ := Blk.args (a := zeroA 0) (u := .slice none 0 0) HI.out.b2
  have f2 := HI.out.b2.frozen
  go_wp2_with fail
  clear l1 l3 c0 c1 c2 c3 c4 c5 c6 c7 c8 c9 c10 c11 x0 x1 x2 x3 x4 x5 x6 x7 x8 x9 x10 x11 f3
  refine post_put12 HI.out.b2 rfl fun wz hb2 hgz => ?_
  have d0 := hb2.cell 0
  have d1 := hb2.cell 1
  have d2 := hb2.cell 2
  have d3 := hb2.cell 3
  have d4 := hb2.cell 4
  have d5 := hb2.cell 5
  have d6 := hb2.cell 6
  have d7 := hb2.cell 7
  have d8 := hb2.cell 8
  have d9 := hb2.cell 9
  have d10 := hb2.cell 10
  have d11 := hb2.cell 11
  simp only [List.getElem?_toArray, List.getElem?_cons_zero, List.getElem?_cons_succ] at d0 d1 d2 d3 d4 d5 d6 d7 d8 d9 d10 d11
  refine bodyPost_ret (v := ((ownA _).at _).val) (by rw [Hown.out]; simp [results, Try.results37, go_sem, d0, d1, d2, d3, d4, d5, d6, d7, d8, d9, d10, d11]; rfl) rfl ?_
  exact ⟨_, rfl, by rw [Hown.out]; exact HI.out.bx.kept hgz (fun k hk => by cases hk; exact ⟨_, _, HI.out.b2, by decide⟩), gb_new HI.out.g hgz (by omega)⟩
set_option maxHeartbeats 2000000 in
theorem own7_c (a : AA) (ha : a.proc = 7) (u : Value) (w : World) (hu : BS w u a.dl) : Calls Try.prog 37 #[(a.at u).val] w (OwnR a w) := by
  have hown : ownA a = ownA a := rfl
  conv at hown => rhs; unfold ownA; rw [ha]; simp only [show fieldsOf 7 = [0, 4, 8] from rfl, List.foldl_cons, List.foldl_nil, AA.setF, zeroA]
  have Hown := hide hown
  clear hown
  obtain ⟨Au, cu, hue, _⟩ := id hu
  obtain ⟨proc, off, count, size, mode, hi, hg, ji, jg, name, name2, data, dl⟩ := a
  simp only [] at ha
  subst ha
  obtain ⟨b1, b2, b3⟩ := alloc3 w ((AA.mk 7 off count size mode hi hg ji jg name name2 data dl).at u).cells.toArray (zeroA 0).cells.toArray (({ zeroA 7 with hi := hi, hg := hg } : AA).at (.slice none 0 0)).cells.toArray
  have I : OwnI (AA.mk 7 off count size mode hi hg ji jg name name2 data dl) u w.heap.size { zeroA 7 with hi := hi, hg := hg } (.slice none 0 0) w _ := ⟨b1, b2, b3, ((hu.alloc _).alloc _).alloc _, BS.nil _, gb_alloc (gb_alloc (gb_alloc (gb_refl _ _) _) _) _⟩
  clear b1 b2 b3
  have HI := hide I
  subst hue
  clear hu I
  simp only [AA.at, AA.val, AA.cells]
  go_enter Try.func37, Try.ntmps37
  go_wp2_with fail
  refine (Has_c2 7 115 false (by decide) 115 (by decide) _).mono ?_
  rintro e w0 ⟨rfl, hg0⟩
  replace HI := hide (HI.out.grown hg0)
  have I := HI.out
  have l1 := I.b1.lt
  have l3 := I.b3.lt
  obtain ⟨c0, c1, c2, c3, c4, c5, c6, c7, c8, c9, c10, c11⟩ := Blk.args I.b1
  obtain ⟨x0, x1, x2, x3, x4, x5, x6, x7, x8, x9, x10, x11⟩ := Blk.args I.b3
  have f3 := I.b3.frozen
  clear I hg0
  go_wp2_with fail
  clear l1 l3 c0 c1 c2 c3 c4 c5 c6 c7 c8 c9 c10 c11 x0 x1 x2 x3 x4 x5 x6 x7 x8 x9 x10 x11 f3
  refine (Has_c2 7 110 false (by decide) 110 (by decide) _).mono ?_
  rintro e w1 ⟨rfl, hg1⟩
  replace HI := hide (HI.out.grown hg1)
  have I := HI.out
  have l1 := I.b1.lt
  have l3 := I.b3.lt
  obtain ⟨c0, c1, c2, c3, c4, c5, c6, c7, c8, c9, c10, c11⟩ := Blk.args I.b1
  obtain ⟨x0, x1, x2, x3, x4, x5, x6, x7, x8, x9, x10, x11⟩ := Blk.args I.b3
  have f3 := I.b3.frozen
  clear I hg1
  go_wp2_with fail
  clear l1 l3 c0 c1 c2 c3 c4 c5 c6 c7 c8 c9 c10 c11 x0 x1 x2 x3 x4 x5 x6 x7 x8 x9 x10 x11 f3
  refine (Has_c2 7 111 true (by decide) 111 (by decide) _).mono ?_
  rintro e w2 ⟨rfl, hg2⟩
  replace HI := hide (HI.out.grown hg2)
  have I := HI.out
  have l1 := I.b1.lt
  have l3 := I.b3.lt
  obtain ⟨c0, c1, c2, c3, c4, c5, c6, c7, c8, c9, c10, c11⟩ := Blk.args I.b1
  obtain ⟨x0, x1, x2, x3, x4, x5, x6, x7, x8, x9, x10, x11⟩ := Blk.args I.b3
  have f3 := I.b3.frozen
  clear I hg2
  go_wp2_with fail
  replace HI := hide (HI.out.store rfl 1 _ { ({ zeroA 7 with hi := hi, hg := hg } : AA) with off := off } rfl rfl)
  clear l1 l3 c0 c1 c2 c3 c4 c5 c6 c7 c8 c9 c10 c11 x0 x1 x2 x3 x4 x5 x6 x7 x8 x9 x10 x11 f3
  refine (Has_c2 7 99 false (by decide) 99 (by decide) _).mono ?_
  rintro e w3 ⟨rfl, hg3⟩
  replace HI := hide (HI.out.grown hg3)
  have I := HI.out
  have l1 := I.b1.lt
  have l3 := I.b3.lt
  obtain ⟨c0, c1, c2, c3, c4, c5, c6, c7, c8, c9, c10, c11⟩ := Blk.args I.b1
  obtain ⟨x0, x1, x2, x3, x4, x5, x6, x7, x8, x9, x10, x11⟩ := Blk.args I.b3
  have f3 := I.b3.frozen
  clear I hg3
  go_wp2_with fail
  clear l1 l3 c0 c1 c2 c3 c4 c5 c6 c7 c8 c9 c10 c11 x0 x1 x2 x3 x4 x5 x6 x7 x8 x9 x10 x11 f3
  refine (Has_c2 7 100 true (by decide) 100 (by decide) _).mono ?_
  rintro e w4 ⟨rfl, hg4⟩
  replace HI := hide (HI.out.grown hg4)
  have I := HI.out
  have l1 := I.b1.lt
  have l3 := I.b3.lt
  obtain ⟨c0, c1, c2, c3, c4, c5, c6, c7, c8, c9, c10, c11⟩ := Blk.args I.b1
  obtain ⟨x0, x1, x2, x3, x4, x5, x6, x7, x8, x9, x10, x11⟩ := Blk.args I.b3
  have f3 := I.b3.frozen
  clear I hg4
  go_wp2_with fail
  replace HI := hide (HI.out.storeD rfl)
  clear l1 l3 c0 c1 c2 c3 c4 c5 c6 c7 c8 c9 c10 c11 x0 x1 x2 x3 x4 x5 x6 x7 x8 x9 x10 x11 f3
  refine (Has_c2 7 109 false (by decide) 109 (by decide) _).mono ?_
  rintro e w5 ⟨rfl, hg5⟩
  replace HI := hide (HI.out.grown hg5)
  have I := HI.out
  have l1 := I.b1.lt
  have l3 := I.b3.lt
  obtain ⟨c0, c1, c2, c3, c4, c5, c6, c7, c8, c9, c10, c11⟩ := Blk.args I.b1
  obtain ⟨x0, x1, x2, x3, x4, x5, x6, x7, x8, x9, x10, x11⟩ := Blk.args I.b3
  have f3 := I.b3.frozen
  clear I hg5
  go_wp2_with fail
  clear l1 l3 c0 c1 c2 c3 c4 c5 c6 c7 c8 c9 c10 c11 x0 x1 x2 x3 x4 x5 x6 x7 x8 x9 x10 x11 f3
  refine (Has_c2 7 105 false (by decide) 105 (by decide) _).mono ?_
  rintro e w6 ⟨rfl, hg6⟩
  replace HI := hide (HI.out.grown hg6)
  have I := HI.out
  have l1 := I.b1.lt
  have l3 := I.b3.lt
  obtain ⟨c0, c1, c2, c3, c4, c5, c6, c7, c8, c9, c10, c11⟩ := Blk.args I.b1
  obtain ⟨x0, x1, x2, x3, x4, x5, x6, x7, x8, x9, x10, x11⟩ := Blk.args I.b3
  have f3 := I.b3.frozen
  clear I hg6
  have l2 := HI.out.b2.lt
  obtain ⟨e0, e1, e2, e3, e4, e5, e6, e7, e8, e9, e10, e11⟩ := Blk.args (a := zeroA 0) (u := .slice none 0 0) HI.out.b2
  have f2 := HI.out.b2.frozen
  go_wp2_with fail
  clear l1 l3 c0 c1 c2 c3 c4 c5 c6 c7 c8 c9 c10 c11 x0 x1 x2 x3 x4 x5 x6 x7 x8 x9 x10 x11 f3
  refine post_put12 HI.out.b2 rfl fun wz hb2 hgz => ?_
  have d0 := hb2.cell 0
  have d1 := hb2.cell 1
  have d2 := hb2.cell 2
  have d3 := hb2.cell 3
  have d4 := hb2.cell 4
  have d5 := hb2.cell 5
  have d6 := hb2.cell 6
  have d7 := hb2.cell 7
  have d8 := hb2.cell 8
  have d9 := hb2.cell 9
  have d10 := hb2.cell 10
  have d11 := hb2.cell 11
  simp only [List.getElem?_toArray, List.getElem?_cons_zero, List.getElem?_cons_succ] at d0 d1 d2 d3 d4 d5 d6 d7 d8 d9 d10 d11
  refine bodyPost_ret (v := ((ownA _).at _).val) (by rw [Hown.out]; simp [results, Try.results37, go_sem, d0, d1, d2, d3, d4, d5, d6, d7, d8, d9, d10, d11]; rfl) rfl ?_
  exact ⟨_, rfl, by rw [Hown.out]; exact HI.out.bx.kept hgz (fun k hk => by cases hk; exact ⟨_, _, HI.out.b2, by decide⟩), gb_new HI.out.g hgz (by omega)⟩
set_option maxHeartbeats 2000000 in
theorem own8_c (a : AA) (ha : a.proc = 8) (u : Value) (w : World) (hu : BS w u a.dl) : Calls Try.prog 37 #[(a.at u).val] w (OwnR a w) := by
  have hown : ownA a = ownA a := rfl
  conv at hown => rhs; unfold ownA; rw [ha]; simp only [show fieldsOf 8 = [0, 2, 7] from rfl, List.foldl_cons, List.foldl_nil, AA.setF, zeroA]
  have Hown := hide hown
  clear hown
  obtain ⟨Au, cu, hue, _⟩ := id hu
  obtain ⟨proc, off, count, size, mode, hi, hg, ji, jg, name, name2, data, dl⟩ := a
  simp only [] at ha
  subst ha
  obtain ⟨b1, b2, b3⟩ := alloc3 w ((AA.mk 8 off count size mode hi hg ji jg name name2 data dl).at u).cells.toArray (zeroA 0).cells.toArray (({ zeroA 8 with hi := hi, hg := hg } : AA).at (.slice none 0 0)).cells.toArray
  have I : OwnI (AA.mk 8 off count size mode hi hg ji jg name name2 data dl) u w.heap.size { zeroA 8 with hi := hi, hg := hg } (.slice none 0 0) w _ := ⟨b1, b2, b3, ((hu.alloc _).alloc _).alloc _, BS.nil _, gb_alloc (gb_alloc (gb_alloc (gb_refl _ _) _) _) _⟩
  clear b1 b2 b3
  have HI := hide I
  subst hue
  clear hu I
  simp only [AA.at, AA.val, AA.cells]
  go_enter Try.func37, Try.ntmps37
  go_wp2_with fail
  refine (Has_c2 8 115 false (by decide) 115 (by decide) _).mono ?_
  rintro e w0 ⟨rfl, hg0⟩
  replace HI := hide (HI.out.grown hg0)
  have I := HI.out
  have l1 := I.b1.lt
  have l3 := I.b3.lt
  obtain ⟨c0, c1, c2, c3, c4, c5, c6, c7, c8, c9, c10, c11⟩ := Blk.args I.b1
  obtain ⟨x0, x1, x2, x3, x4, x5, x6, x7, x8, x9, x10, x11⟩ := Blk.args I.b3
  have f3 := I.b3.frozen
  clear I hg0
  go_wp2_with fail
  clear l1 l3 c0 c1 c2 c3 c4 c5 c6 c7 c8 c9 c10 c11 x0 x1 x2 x3 x4 x5 x6 x7 x8 x9 x10 x11 f3
  refine (Has_c2 8 110 true (by decide) 110 (by decide) _).mono ?_
  rintro e w1 ⟨rfl, hg1⟩
  replace HI := hide (HI.out.grown hg1)
  have I := HI.out
  have l1 := I.b1.lt
  have l3 := I.b3.lt
  obtain ⟨c0, c1, c2, c3, c4, c5, c6, c7, c8, c9, c10, c11⟩ := Blk.args I.b1
  obtain ⟨x0, x1, x2, x3, x4, x5, x6, x7, x8, x9, x10, x11⟩ := Blk.args I.b3
  have f3 := I.b3.frozen
  clear I hg1
  go_wp2_with fail
  replace HI := hide (HI.out.store rfl 9 _ { ({ zeroA 8 with hi := hi, hg := hg } : AA) with name := name } rfl rfl)
  clear l1 l3 c0 c1 c2 c3 c4 c5 c6 c7 c8 c9 c10 c11 x0 x1 x2 x3 x4 x5 x6 x7 x8 x9 x10 x11 f3
  refine (Has_c2 8 111 false (by decide) 111 (by decide) _).mono ?_
  rintro e w2 ⟨rfl, hg2⟩
  replace HI := hide (HI.out.grown hg2)
  have I := HI.out
  have l1 := I.b1.lt
  have l3 := I.b3.lt
  obtain ⟨c0, c1, c2, c3, c4, c5, c6, c7, c8, c9, c10, c11⟩ := Blk.args I.b1
  obtain ⟨x0, x1, x2, x3, x4, x5, x6, x7, x8, x9, x10, x11⟩ := Blk.args I.b3
  have f3 := I.b3.frozen
  clear I hg2
  go_wp2_with fail
  clear l1 l3 c0 c1 c2 c3 c4 c5 c6 c7 c8 c9 c10 c11 x0 x1 x2 x3 x4 x5 x6 x7 x8 x9 x10 x11 f3
  refine (Has_c2 8 99 false (by decide) 99 (by decide) _).mono ?_
  rintro e w3 ⟨rfl, hg3⟩
  replace HI := hide (HI.out.grown hg3)
  have I := HI.out
  have l1 := I.b1.lt
  have l3 := I.b3.lt
  obtain ⟨c0, c1, c2, c3, c4, c5, c6, c7, c8, c9, c10, c11⟩ := Blk.args I.b1
  obtain ⟨x0, x1, x2, x3, x4, x5, x6, x7, x8, x9, x10, x11⟩ := Blk.args I.b3
  have f3 := I.b3.frozen
  clear I hg3
  go_wp2_with fail
  clear l1 l3 c0 c1 c2 c3 c4 c5 c6 c7 c8 c9 c10 c11 x0 x1 x2 x3 x4 x5 x6 x7 x8 x9 x10 x11 f3
  refine (Has_c2 8 100 false (by decide) 100 (by decide) _).mono ?_
  rintro e w4 ⟨rfl, hg4⟩
  replace HI := hide (HI.out.grown hg4)
  have I := HI.out
  have l1 := I.b1.lt
  have l3 := I.b3.lt
  obtain ⟨c0, c1, c2, c3, c4, c5, c6, c7, c8, c9, c10, c11⟩ := Blk.args I.b1
  obtain ⟨x0, x1, x2, x3, x4, x5, x6, x7, x8, x9, x10, x11⟩ := Blk.args I.b3
  have f3 := I.b3.frozen
  clear I hg4
  go_wp2_with fail
  clear l1 l3 c0 c1 c2 c3 c4 c5 c6 c7 c8 c9 c10 c11 x0 x1 x2 x3 x4 x5 x6 x7 x8 x9 x10 x11 f3
  refine (Has_c2 8 109 true (by decide) 109 (by decide) _).mono ?_
  rintro e w5 ⟨rfl, hg5⟩
  replace HI := hide (HI.out.grown hg5)
  have I := HI.out
  have l1 := I.b1.lt
  have l3 := I.b3.lt
  obtain ⟨c0, c1, c2, c3, c4, c5, c6, c7, c8, c9, c10, c11⟩ := Blk.args I.b1
  obtain ⟨x0, x1, x2, x3, x4, x5, x6, x7, x8, x9, x10, x11⟩ := Blk.args I.b3
  have f3 := I.b3.frozen
  clear I hg5
  go_wp2_with fail
  replace HI := hide (HI.out.store rfl 4 _ { ({ ({ zeroA 8 with hi := hi, hg := hg } : AA) with name := name } : AA) with mode := mode } rfl rfl)
  clear l1 l3 c0 c1 c2 c3 c4 c5 c6 c7 c8 c9 c10 c11 x0 x1 x2 x3 x4 x5 x6 x7 x8 x9 x10 x11 f3
  refine (Has_c2 8 105 false (by decide) 105 (by decide) _).mono ?_
  rintro e w6 ⟨rfl, hg6⟩
  replace HI := hide (HI.out.grown hg6)
  have I := HI.out
  have l1 := I.b1.lt
  have l3 := I.b3.lt
  obtain ⟨c0, c1, c2, c3, c4, c5, c6, c7, c8, c9, c10, c11⟩ := Blk.args I.b1
  obtain ⟨x0, x1, x2, x3, x4, x5, x6, x7, x8, x9, x10, x11⟩ := Blk.args I.b3
  have f3 := I.b3.frozen
  clear I hg6
  have l2 := HI.out.b2.lt
  obtain ⟨e0, e1, e2, e3, e4, e5, e6, e7, e8, e9, e10, e11⟩ := Blk.args (a := zeroA 0) (u := .slice none 0 0) HI.out.b2
  have f2 := HI.out.b2.frozen
  go_wp2_with fail
  clear l1 l3 c0 c1 c2 c3 c4 c5 c6 c7 c8 c9 c10 c11 x0 x1 x2 x3 x4 x5 x6 x7 x8 x9 x10 x11 f3
  refine post_put12 HI.out.b2 rfl fun wz hb2 hgz => ?_
  have d0 := hb2.cell 0
  have d1 := hb2.cell 1
  have d2 := hb2.cell 2
  have d3 := hb2.cell 3
  have d4 := hb2.cell 4
  have d5 := hb2.cell 5
  have d6 := hb2.cell 6
  have d7 := hb2.cell 7
  have d8 := hb2.cell 8
  have d9 := hb2.cell 9
  have d10 := hb2.cell 10
  have d11 := hb2.cell 11
  simp only [List.getElem?_toArray, List.getElem?_cons_zero, List.getElem?_cons_succ] at d0 d1 d2 d3 d4 d5 d6 d7 d8 d9 d10 d11
  refine bodyPost_ret (v := ((ownA _).at _).val) (by rw [Hown.out]; simp [results, Try.results37, go_sem, d0, d1, d2, d3, d4, d5, d6, d7, d8, d9, d10, d11]; rfl) rfl ?_
  exact ⟨_, rfl, by rw [Hown.out]; exact HI.out.bx.kept hgz (fun k hk => by cases hk; exact ⟨_, _, HI.out.b2, by decide⟩), gb_new HI.out.g hgz (by omega)⟩
set_option maxHeartbeats 2000000 in
theorem own9_c (a : AA) (ha : a.proc = 9) (u : Value) (w : World) (hu : BS w u a.dl) : Calls Try.prog 37 #[(a.at u).val] w (OwnR a w) := by
  have hown : ownA a = ownA a := rfl
  conv at hown => rhs; unfold ownA; rw [ha]; simp only [show fieldsOf 9 = [0, 2, 7] from rfl, List.foldl_cons, List.foldl_nil, AA.setF, zeroA]
  have Hown := hide hown
  clear hown
  obtain ⟨Au, cu, hue, _⟩ := id hu
  obtain ⟨proc, off, count, size, mode, hi, hg, ji, jg, name, name2, data, dl⟩ := a
  simp only [] at ha
  subst ha
  obtain ⟨b1, b2, b3⟩ := alloc3 w ((AA.mk 9 off count size mode hi hg ji jg name name2 data dl).at u).cells.toArray (zeroA 0).cells.toArray (({ zeroA 9 with hi := hi, hg := hg } : AA).at (.slice none 0 0)).cells.toArray
  have I : OwnI (AA.mk 9 off count size mode hi hg ji jg name name2 data dl) u w.heap.size { zeroA 9 with hi := hi, hg := hg } (.slice none 0 0) w _ := ⟨b1, b2, b3, ((hu.alloc _).alloc _).alloc _, BS.nil _, gb_alloc (gb_alloc (gb_alloc (gb_refl _ _) _) _) _⟩
  clear b1 b2 b3
  have HI := hide I
  subst hue
  clear hu I
  simp only [AA.at, AA.val, AA.cells]
  go_enter Try.func37, Try.ntmps37
  go_wp2_with fail
  refine (Has_c2 9 115 false (by decide) 115 (by decide) _).mono ?_
  rintro e w0 ⟨rfl, hg0⟩
  replace HI := hide (HI.out.grown hg0)
  have I := HI.out
  have l1 := I.b1.lt
  have l3 := I.b3.lt
  obtain ⟨c0, c1, c2, c3, c4, c5, c6, c7, c8, c9, c10, c11⟩ := Blk.args I.b1
  obtain ⟨x0, x1, x2, x3, x4, x5, x6, x7, x8, x9, x10, x11⟩ := Blk.args I.b3
  have f3 := I.b3.frozen
  clear I hg0
  go_wp2_with fail
  clear l1 l3 c0 c1 c2 c3 c4 c5 c6 c7 c8 c9 c10 c11 x0 x1 x2 x3 x4 x5 x6 x7 x8 x9 x10 x11 f3
  refine (Has_c2 9 110 true (by decide) 110 (by decide) _).mono ?_
  rintro e w1 ⟨rfl, hg1⟩
  replace HI := hide (HI.out.grown hg1)
  have I := HI.out
  have l1 := I.b1.lt
  have l3 := I.b3.lt
  obtain ⟨c0, c1, c2, c3, c4, c5, c6, c7, c8, c9, c10, c11⟩ := Blk.args I.b1
  obtain ⟨x0, x1, x2, x3, x4, x5, x6, x7, x8, x9, x10, x11⟩ := Blk.args I.b3
  have f3 := I.b3.frozen
  clear I hg1
  go_wp2_with fail
  replace HI := hide (HI.out.store rfl 9 _ { ({ zeroA 9 with hi := hi, hg := hg } : AA) with name := name } rfl rfl)
  clear l1 l3 c0 c1 c2 c3 c4 c5 c6 c7 c8 c9 c10 c11 x0 x1 x2 x3 x4 x5 x6 x7 x8 x9 x10 x11 f3
  refine (Has_c2 9 111 false (by decide) 111 (by decide) _).mono ?_
  rintro e w2 ⟨rfl, hg2⟩
  replace HI := hide (HI.out.grown hg2)
  have I := HI.out
  have l1 := I.b1.lt
  have l3 := I.b3.lt
  obtain ⟨c0, c1, c2, c3, c4, c5, c6, c7, c8, c9, c10, c11⟩ := Blk.args I.b1
  obtain ⟨x0, x1, x2, x3, x4, x5, x6, x7, x8, x9, x10, x11⟩ := Blk.args I.b3
  have f3 := I.b3.frozen
  clear I hg2
  go_wp2_with fail
  clear l1 l3 c0 c1 c2 c3 c4 c5 c6 c7 c8 c9 c10 c11 x0 x1 x2 x3 x4 x5 x6 x7 x8 x9 x10 x11 f3
  refine (Has_c2 9 99 false (by decide) 99 (by decide) _).mono ?_
  rintro e w3 ⟨rfl, hg3⟩
  replace HI := hide (HI.out.grown hg3)
  have I := HI.out
  have l1 := I.b1.lt
  have l3 := I.b3.lt
  obtain ⟨c0, c1, c2, c3, c4, c5, c6, c7, c8, c9, c10, c11⟩ := Blk.args I.b1
  obtain ⟨x0, x1, x2, x3, x4, x5, x6, x7, x8, x9, x10, x11⟩ := Blk.args I.b3
  have f3 := I.b3.frozen
  clear I hg3
  go_wp2_with fail
  clear l1 l3 c0 c1 c2 c3 c4 c5 c6 c7 c8 c9 c10 c11 x0 x1 x2 x3 x4 x5 x6 x7 x8 x9 x10 x11 f3
  refine (Has_c2 9 100 false (by decide) 100 (by decide) _).mono ?_
  rintro e w4 ⟨rfl, hg4⟩
  replace HI := hide (HI.out.grown hg4)
  have I := HI.out
  have l1 := I.b1.lt
  have l3 := I.b3.lt
  obtain ⟨c0, c1, c2, c3, c4, c5, c6, c7, c8, c9, c10, c11⟩ := Blk.args I.b1
  obtain ⟨x0, x1, x2, x3, x4, x5, x6, x7, x8, x9, x10, x11⟩ := Blk.args I.b3
  have f3 := I.b3.frozen
  clear I hg4
  go_wp2_with fail
  clear l1 l3 c0 c1 c2 c3 c4 c5 c6 c7 c8 c9 c10 c11 x0 x1 x2 x3 x4 x5 x6 x7 x8 x9 x10 x11 f3
  refine (Has_c2 9 109 true (by decide) 109 (by decide) _).mono ?_
  rintro e w5 ⟨rfl, hg5⟩
  replace HI := hide (HI.out.grown hg5)
  have I := HI.out
  have l1 := I.b1.lt
  have l3 := I.b3.lt
  obtain ⟨c0, c1, c2, c3, c4, c5, c6, c7, c8, c9, c10, c11⟩ := Blk.args I.b1
  obtain ⟨x0, x1, x2, x3, x4, x5, x6, x7, x8, x9, x10, x11⟩ := Blk.args I.b3
  have f3 := I.b3.frozen
  clear I hg5
  go_wp2_with fail
  replace HI := hide (HI.out.store rfl 4 _ { ({ ({ zeroA 9 with hi := hi, hg := hg } : AA) with name := name } : AA) with mode := mode } rfl rfl)
  clear l1 l3 c0 c1 c2 c3 c4 c5 c6 c7 c8 c9 c10 c11 x0 x1 x2 x3 x4 x5 x6 x7 x8 x9 x10 x11 f3
  refine (Has_c2 9 105 false (by decide) 105 (by decide) _).mono ?_
  rintro e w6 ⟨rfl, hg6⟩
  replace HI := hide (HI.out.grown hg6)
  have I := HI.out
  have l1 := I.b1.lt
  have l3 := I.b3.lt
  obtain ⟨c0, c1, c2, c3, c4, c5, c6, c7, c8, c9, c10, c11⟩ := Blk.args I.b1
  obtain ⟨x0, x1, x2, x3, x4, x5, x6, x7, x8, x9, x10, x11⟩ := Blk.args I.b3
  have f3 := I.b3.frozen
  clear I hg6
  have l2 := HI.out.b2.lt
  obtain ⟨e0, e1, e2, e3, e4, e5, e6, e7, e8, e9, e10, e11⟩ := Blk.args (a := zeroA 0) (u := .slice none 0 0) HI.out.b2
  have f2 := HI.out.b2.frozen
  go_wp2_with fail
  clear l1 l3 c0 c1 c2 c3 c4 c5 c6 c7 c8 c9 c10 c11 x0 x1 x2 x3 x4 x5 x6 x7 x8 x9 x10 x11 f3
  refine post_put12 HI.out.b2 rfl fun wz hb2 hgz => ?_
  have d0 := hb2.cell 0
  have d1 := hb2.cell 1
  have d2 := hb2.cell 2
  have d3 := hb2.cell 3
  have d4 := hb2.cell 4
  have d5 := hb2.cell 5
  have d6 := hb2.cell 6
  have d7 := hb2.cell 7
  have d8 := hb2.cell 8
  have d9 := hb2.cell 9
  have d10 := hb2.cell 10
  have d11 := hb2.cell 11
  simp only [List.getElem?_toArray, List.getElem?_cons_zero, List.getElem?_cons_succ] at d0 d1 d2 d3 d4 d5 d6 d7 d8 d9 d10 d11
  refine bodyPost_ret (v := ((ownA _).at _).val) (by rw [Hown.out]; simp [results, Try.results37, go_sem, d0, d1, d2, d3, d4, d5, d6, d7, d8, d9, d10, d11]; rfl) rfl ?_
  exact ⟨_, rfl, by rw [Hown.out]; exact HI.out.bx.kept hgz (fun k hk => by cases hk; exact ⟨_, _, HI.out.b2, by decide⟩), gb_new HI.out.g hgz (by omega)⟩
set_option maxHeartbeats 2000000 in
theorem own14_c (a : AA) (ha : a.proc = 14) (u : Value) (w : World) (hu : BS w u a.dl) : Calls Try.prog 37 #[(a.at u).val] w (OwnR a w) := by
  have hown : ownA a = ownA a := rfl
  conv at hown => rhs; unfold ownA; rw [ha]; simp only [show fieldsOf 14 = [0, 2, 1, 3] from rfl, List.foldl_cons, List.foldl_nil, AA.setF, zeroA]
  have Hown := hide hown
  clear hown
  obtain ⟨Au, cu, hue, _⟩ := id hu
  obtain ⟨proc, off, count, size, mode, hi, hg, ji, jg, name, name2, data, dl⟩ := a
  simp only [] at ha
  subst ha
  obtain ⟨b1, b2, b3⟩ := alloc3 w ((AA.mk 14 off count size mode hi hg ji jg name name2 data dl).at u).cells.toArray (zeroA 0).cells.toArray (({ zeroA 14 with hi := hi, hg := hg } : AA).at (.slice none 0 0)).cells.toArray
  have I : OwnI (AA.mk 14 off count size mode hi hg ji jg name name2 data dl) u w.heap.size { zeroA 14 with hi := hi, hg := hg } (.slice none 0 0) w _ := ⟨b1, b2, b3, ((hu.alloc _).alloc _).alloc _, BS.nil _, gb_alloc (gb_alloc (gb_alloc (gb_refl _ _) _) _) _⟩
  clear b1 b2 b3
  have HI := hide I
  subst hue
  clear hu I
  simp only [AA.at, AA.val, AA.cells]
  go_enter Try.func37, Try.ntmps37
  go_wp2_with fail
  refine (Has_c2 14 115 false (by decide) 115 (by decide) _).mono ?_
  rintro e w0 ⟨rfl, hg0⟩
  replace HI := hide (HI.out.grown hg0)
  have I := HI.out
  have l1 := I.b1.lt
  have l3 := I.b3.lt
  obtain ⟨c0, c1, c2, c3, c4, c5, c6, c7, c8, c9, c10, c11⟩ := Blk.args I.b1
  obtain ⟨x0, x1, x2, x3, x4, x5, x6, x7, x8, x9, x10, x11⟩ := Blk.args I.b3
  have f3 := I.b3.frozen
  clear I hg0
  go_wp2_with fail
  clear l1 l3 c0 c1 c2 c3 c4 c5 c6 c7 c8 c9 c10 c11 x0 x1 x2 x3 x4 x5 x6 x7 x8 x9 x10 x11 f3
  refine (Has_c2 14 110 true (by decide) 110 (by decide) _).mono ?_
  rintro e w1 ⟨rfl, hg1⟩
  replace HI := hide (HI.out.grown hg1)
  have I := HI.out
  have l1 := I.b1.lt
  have l3 := I.b3.lt
  obtain ⟨c0, c1, c2, c3, c4, c5, c6, c7, c8, c9, c10, c11⟩ := Blk.args I.b1
  obtain ⟨x0, x1, x2, x3, x4, x5, x6, x7, x8, x9, x10, x11⟩ := Blk.args I.b3
  have f3 := I.b3.frozen
  clear I hg1
  go_wp2_with fail
  replace HI := hide (HI.out.store rfl 9 _ { ({ zeroA 14 with hi := hi, hg := hg } : AA) with name := name } rfl rfl)
  clear l1 l3 c0 c1 c2 c3 c4 c5 c6 c7 c8 c9 c10 c11 x0 x1 x2 x3 x4 x5 x6 x7 x8 x9 x10 x11 f3
  refine (Has_c2 14 111 false (by decide) 111 (by decide) _).mono ?_
  rintro e w2 ⟨rfl, hg2⟩
  replace HI := hide (HI.out.grown hg2)
  have I := HI.out
  have l1 := I.b1.lt
  have l3 := I.b3.lt
  obtain ⟨c0, c1, c2, c3, c4, c5, c6, c7, c8, c9, c10, c11⟩ := Blk.args I.b1
  obtain ⟨x0, x1, x2, x3, x4, x5, x6, x7, x8, x9, x10, x11⟩ := Blk.args I.b3
  have f3 := I.b3.frozen
  clear I hg2
  go_wp2_with fail
  clear l1 l3 c0 c1 c2 c3 c4 c5 c6 c7 c8 c9 c10 c11 x0 x1 x2 x3 x4 x5 x6 x7 x8 x9 x10 x11 f3
  refine (Has_c2 14 99 false (by decide) 99 (by decide) _).mono ?_
  rintro e w3 ⟨rfl, hg3⟩
  replace HI := hide (HI.out.grown hg3)
  have I := HI.out
  have l1 := I.b1.lt
  have l3 := I.b3.lt
  obtain ⟨c0, c1, c2, c3, c4, c5, c6, c7, c8, c9, c10, c11⟩ := Blk.args I.b1
  obtain ⟨x0, x1, x2, x3, x4, x5, x6, x7, x8, x9, x10, x11⟩ := Blk.args I.b3
  have f3 := I.b3.frozen
  clear I hg3
  go_wp2_with fail
  clear l1 l3 c0 c1 c2 c3 c4 c5 c6 c7 c8 c9 c10 c11 x0 x1 x2 x3 x4 x5 x6 x7 x8 x9 x10 x11 f3
  refine (Has_c2 14 100 false (by decide) 100 (by decide) _).mono ?_
  rintro e w4 ⟨rfl, hg4⟩
  replace HI := hide (HI.out.grown hg4)
  have I := HI.out
  have l1 := I.b1.lt
  have l3 := I.b3.lt
  obtain ⟨c0, c1, c2, c3, c4, c5, c6, c7, c8, c9, c10, c11⟩ := Blk.args I.b1
  obtain ⟨x0, x1, x2, x3, x4, x5, x6, x7, x8, x9, x10, x11⟩ := Blk.args I.b3
  have f3 := I.b3.frozen
  clear I hg4
  go_wp2_with fail
  clear l1 l3 c0 c1 c2 c3 c4 c5 c6 c7 c8 c9 c10 c11 x0 x1 x2 x3 x4 x5 x6 x7 x8 x9 x10 x11 f3
  refine (Has_c2 14 109 false (by decide) 109 (by decide) _).mono ?_
  rintro e w5 ⟨rfl, hg5⟩
  replace HI := hide (HI.out.grown hg5)
  have I := HI.out
  have l1 := I.b1.lt
  have l3 := I.b3.lt
  obtain ⟨c0, c1, c2, c3, c4, c5, c6, c7, c8, c9, c10, c11⟩ := Blk.args I.b1
  obtain ⟨x0, x1, x2, x3, x4, x5, x6, x7, x8, x9, x10, x11⟩ := Blk.args I.b3
  have f3 := I.b3.frozen
  clear I hg5
  go_wp2_with fail
  clear l1 l3 c0 c1 c2 c3 c4 c5 c6 c7 c8 c9 c10 c11 x0 x1 x2 x3 x4 x5 x6 x7 x8 x9 x10 x11 f3
  refine (Has_c2 14 105 true (by decide) 105 (by decide) _).mono ?_
  rintro e w6 ⟨rfl, hg6⟩
  replace HI := hide (HI.out.grown hg6)
  have I := HI.out
  have l1 := I.b1.lt
  have l3 := I.b3.lt
  obtain ⟨c0, c1, c2, c3, c4, c5, c6, c7, c8, c9, c10, c11⟩ := Blk.args I.b1
  obtain ⟨x0, x1, x2, x3, x4, x5, x6, x7, x8, x9, x10, x11⟩ := Blk.args I.b3
  have f3 := I.b3.frozen
  clear I hg6
  have l2 := HI.out.b2.lt
  obtain ⟨e0, e1, e2, e3, e4, e5, e6, e7, e8, e9, e10, e11⟩ := Blk.args (a := zeroA 0) (u := .slice none 0 0) HI.out.b2
  have f2 := HI.out.b2.frozen
  go_wp2_with fail
  replace HI := hide (HI.out.store rfl 7 _ { ({ ({ zeroA 14 with hi := hi, hg := hg } : AA) with name := name } : AA) with ji := ji } rfl rfl)
  replace HI := hide (HI.out.store rfl 8 _ { ({ ({ ({ zeroA 14 with hi := hi, hg := hg } : AA) with name := name } : AA) with ji := ji } : AA) with jg := jg } rfl rfl)
  replace HI := hide (HI.out.store rfl 10 _ { ({ ({ ({ ({ zeroA 14 with hi := hi, hg := hg } : AA) with name := name } : AA) with ji := ji } : AA) with jg := jg } : AA) with name2 := name2 } rfl rfl)
  clear l1 l3 c0 c1 c2 c3 c4 c5 c6 c7 c8 c9 c10 c11 x0 x1 x2 x3 x4 x5 x6 x7 x8 x9 x10 x11 f3
  refine post_put12 HI.out.b2 rfl fun wz hb2 hgz => ?_
  have d0 := hb2.cell 0
  have d1 := hb2.cell 1
  have d2 := hb2.cell 2
  have d3 := hb2.cell 3
  have d4 := hb2.cell 4
  have d5 := hb2.cell 5
  have d6 := hb2.cell 6
  have d7 := hb2.cell 7
  have d8 := hb2.cell 8
  have d9 := hb2.cell 9
  have d10 := hb2.cell 10
  have d11 := hb2.cell 11
  simp only [List.getElem?_toArray, List.getElem?_cons_zero, List.getElem?_cons_succ] at d0 d1 d2 d3 d4 d5 d6 d7 d8 d9 d10 d11
  refine bodyPost_ret (v := ((ownA _).at _).val) (by rw [Hown.out]; simp [results, Try.results37, go_sem, d0, d1, d2, d3, d4, d5, d6, d7, d8, d9, d10, d11]; rfl) rfl ?_
  exact ⟨_, rfl, by rw [Hown.out]; exact HI.out.bx.kept hgz (fun k hk => by cases hk; exact ⟨_, _, HI.out.b2, by decide⟩), gb_new HI.out.g hgz (by omega)⟩
theorem own_c (a : AA) (h : a.proc ∈ procN) (u : Value) (w : World) (hu : BS w u a.dl) : Calls Try.prog 37 #[(a.at u).val] w (OwnR a w) := by
  have hc : a.proc = 1 ∨ a.proc = 2 ∨ a.proc = 3 ∨ a.proc = 6 ∨ a.proc = 7 ∨ a.proc = 8 ∨ a.proc = 9 ∨ a.proc = 12 ∨ a.proc = 13 ∨ a.proc = 14 ∨ a.proc = 16 := by simpa [procN] using h
  rcases hc with h | h | h | h | h | h | h | h | h | h | h
  · exact own1_c a h u w hu
  · exact own2_c a h u w hu
  · exact own3_c a h u w hu
  · exact own6_c a h u w hu
  · exact own7_c a h u w hu
  · exact own8_c a h u w hu
  · exact own9_c a h u w hu
  · exact own12_c a h u w hu
  · exact own13_c a h u w hu
  · exact own14_c a h u w hu
  · exact own16_c a h u w hu
end Go.Tr
