/- An answer that may be, made of any. No condition. Printed by gen_agood.py. -/
import Derived.Test.YtdbacbhopkdhgaaDoorAFew
import Derived.Deep.CutBlock
namespace Go.Tr
open Go.RowKit Go.Proofs
set_option linter.unusedVariables false
def goodE0 (r : RR) : Int := if 0 < aroundN r.errno 3 then 0 else fromCodeN (aroundN r.errno 25 - 6)
def goodAtt (a : Att) : Att := ⟨lowN a.ino, lowN a.gen, 1 + aroundN a.kind 2, aroundN a.mode 512, aroundN a.size 65537⟩
def goodEnt (e : Ent) : Ent := ⟨ofN e.ino, lowN e.ino, lowN e.gen⟩
def goodKB (k : Nat) (r : RR) : RR :=
  match k with
  | 1 => { zeroR 0 with att := goodAtt r.att }
  | 2 => { zeroR 0 with dl := r.dl.take 30, count := ((r.dl.take 30).length : Int), eof := r.eof }
  | 3 => { zeroR 0 with att := goodAtt r.att, count := lowN r.count }
  | 5 => { zeroR 0 with el := (r.el.take 5).map goodEnt, eof := r.eof }
  | _ => zeroR 0
def goodR (p : Int) (r : RR) : RR := if goodE0 r = 0 then goodKB (kindN p) r else zeroR (goodE0 r)
structure RR.ranged (r : RR) : Prop where
  ints : i64ok r.errno ∧ i64ok r.att.ino ∧ i64ok r.att.gen ∧ i64ok r.att.kind ∧ i64ok r.att.mode ∧ i64ok r.att.size ∧ i64ok r.count
  en : ∀ e ∈ r.el, i64ok e.ino ∧ i64ok e.gen
structure GdI (w : World) (R X : Nat) (r : RR) (u v : Value) (x : RR) (ux vx : Value) (wr : World) : Prop where
  g : w.grownBy wr none
  bR : Blk wr R tRes (r.cells u v).toArray
  bT : Blk wr (R + 1) tRes ((zeroR 0).cells (.slice none 0 0) (.slice none 0 0)).toArray
  bX : Blk wr X tRes (x.cells ux vx).toArray
  ok : r.ok wr u v
  od : OwnB w.heap.size wr ux x.dl
  oe : OwnE w.heap.size wr vx x.el
  le : w.heap.size ≤ X
  ne : R + 1 < X
theorem GdI.grown {w : World} {R X : Nat} {r : RR} {u v : Value} {x : RR} {ux vx : Value} {wr w' : World} (h : GdI w R X r u v x ux vx wr) (hg : wr.grownBy w' none) : GdI w R X r u v x ux vx w' :=
  ⟨gb_trans h.g hg, h.bR.grown hg (by simp), h.bT.grown hg (by simp), h.bX.grown hg (by simp), h.ok.grown hg, h.od.grown hg, h.oe.grown hg, h.le, h.ne⟩
/-- behind stores to the answer's own block -/
theorem GdI.put {w : World} {R X : Nat} {r : RR} {u v : Value} {x x' : RR} {ux vx ux' vx' : Value} {wr w' : World} (h : GdI w R X r u v x ux vx wr) (hg : wr.grownBy w' (some X)) (hb : Blk w' X tRes (x'.cells ux' vx').toArray)
    (hd : OwnB w.heap.size wr ux' x'.dl) (he : OwnE w.heap.size wr vx' x'.el) : GdI w R X r u v x' ux' vx' w' := by
  have n1 := h.ne
  have k1 : ∀ k, some X = some k → ∃ t cs, Blk wr k t cs ∧ t ≠ tU8 := fun k hk => by cases hk; exact ⟨_, _, h.bX, by decide⟩
  have k2 : ∀ k, some X = some k → ∃ t cs, Blk wr k t cs ∧ t ≠ tEnt := fun k hk => by cases hk; exact ⟨_, _, h.bX, by decide⟩
  exact ⟨gb_new h.g hg h.le, h.bR.grown hg (by simp; omega), h.bT.grown hg (by simp; omega), hb, ⟨h.ok.d.kept hg k1, OwnE.kept h.ok.e hg k2⟩, hd.kept hg k1, he.kept hg k2, h.le, h.ne⟩
/-- behind an append to the answer's own row -/
theorem GdI.own {w : World} {R X : Nat} {r : RR} {u v : Value} {x : RR} {ux vx y : Value} {el : List Ent} {wr w' : World} (h : GdI w R X r u v x ux vx wr) (ho : OwnE w.heap.size wr y el) (hv : ∀ k, v.ownBlock = some k → k < w.heap.size) (hg : wr.grownBy w' y.ownBlock) (hx : vx = y ∨ vx = .slice none 0 0 ∧ x.el = []) :
    w.grownBy w' none ∧ Blk w' R tRes (r.cells u v).toArray ∧ Blk w' (R + 1) tRes ((zeroR 0).cells (.slice none 0 0) (.slice none 0 0)).toArray ∧ Blk w' X tRes (x.cells ux vx).toArray ∧ r.ok w' u v ∧ OwnB w.heap.size w' ux x.dl := by
  have hk : ∀ k, y.ownBlock = some k → ∃ cs fr, wr.heap[k]? = some (.cells cs tEnt fr) := by
    intro k hk
    rcases ho.2 with ⟨rfl, _⟩ | ⟨g, cap, cur, rfl, _, hgg, _⟩
    · cases hk
    · cases hk; exact ⟨cur, (0, 0), hgg⟩
  have hne : ∀ g t cs, Blk wr g t cs → t ≠ tEnt → some g ≠ y.ownBlock := by
    intro g t cs hb ht hh
    obtain ⟨cs', fr, h2⟩ := hk g hh.symm
    unfold Blk at hb
    rw [hb] at h2
    injection h2 with h2
    injection h2 with _ h2
    exact ht h2
  have hlow : ∀ k, y.ownBlock = some k → w.heap.size ≤ k := fun k hk => (World.ownsRow.lt ho k hk).1
  refine ⟨gb_own ho (Nat.le_refl _) h.g hg, h.bR.grown hg (hne _ _ _ h.bR (by decide)), h.bT.grown hg (hne _ _ _ h.bT (by decide)), h.bX.grown hg (hne _ _ _ h.bX (by decide)), ⟨?_, ?_⟩, ?_⟩
  · obtain ⟨A, c, hv1, hc1, hn1, hcell⟩ := h.ok.d
    refine ⟨A, c, hv1, hc1, hn1, fun h0 => ?_⟩
    obtain ⟨g, o, cur, fr, hA, hb, hj⟩ := hcell h0
    refine ⟨g, o, cur, fr, hA, ?_, hj⟩
    rw [hg.block g (Array.getElem?_eq_some_iff.1 hb).1]
    · exact hb
    · intro hh
      obtain ⟨cs', fr', h2⟩ := hk g hh.symm
      rw [hb] at h2
      injection h2 with h2
      injection h2 with _ h2
      revert h2
      decide
  · refine World.ownsRow.kept h.ok.e hg ?_
    cases hvb : v.ownBlock with
    | none => exact .inl rfl
    | some k =>
      right
      intro hh
      have h1 := hv k hvb
      have h2 := hlow k hh.symm
      omega
  · refine World.ownsRow.kept h.od hg ?_
    rcases h.od.2 with ⟨rfl, _⟩ | ⟨g, cap, cur, rfl, _, hgg, _⟩
    · exact .inl rfl
    · exact .inr (hne g tU8 cur hgg (by decide))
theorem GdI.app {w : World} {R X : Nat} {r : RR} {u v : Value} {x : RR} {ux vx vx' : Value} {el' : List Ent} {wr : World} (h : w.grownBy wr none ∧ Blk wr R tRes (r.cells u v).toArray ∧ Blk wr (R + 1) tRes ((zeroR 0).cells (.slice none 0 0) (.slice none 0 0)).toArray ∧ Blk wr X tRes (x.cells ux vx).toArray ∧ r.ok wr u v ∧ OwnB w.heap.size wr ux x.dl)
    (ho : OwnE w.heap.size wr vx' el') (hX : w.heap.size ≤ X) (hR : R + 1 < X) : GdI w R X r u v ({ x with el := el' } : RR) ux vx' (wr.setCell ⟨X, 9, none⟩ vx') := by
  obtain ⟨hg, bR, bT, bX, ok, od⟩ := h
  have k1 : ∀ k, some X = some k → ∃ t cs, Blk wr k t cs ∧ t ≠ tU8 := fun k hk => by cases hk; exact ⟨_, _, bX, by decide⟩
  have k2 : ∀ k, some X = some k → ∃ t cs, Blk wr k t cs ∧ t ≠ tEnt := fun k hk => by cases hk; exact ⟨_, _, bX, by decide⟩
  have gs := gb_set (gb_refl wr (some X)) 9 vx'
  exact ⟨gb_set_new hg hX _ _, bR.far (by show R ≠ X; omega) _, bT.far (by show R + 1 ≠ X; omega) _, bX.set 9 _, ⟨ok.d.kept gs k1, OwnE.kept ok.e gs k2⟩, od.kept gs k1, ho.kept gs k2, hX, hR⟩
theorem GdI.bTs {w : World} {R X : Nat} {r : RR} {u v : Value} {x : RR} {ux vx : Value} {wr : World} (h : GdI w R X r u v x ux vx wr) (b : Bool) : Blk (wr.setCell ⟨X, 8, none⟩ (.bool b)) (R + 1) tRes ((zeroR 0).cells (.slice none 0 0) (.slice none 0 0)).toArray :=
  h.bT.far (by have := h.ne; show R + 1 ≠ X; omega) _
theorem GdI.fin {w : World} {R X : Nat} {r : RR} {u v : Value} {x : RR} {ux vx : Value} {wr wz : World} {b : Bool} (h : GdI w R X r u v x ux vx wr) (hR : w.heap.size ≤ R + 1) (hg : (wr.setCell ⟨X, 8, none⟩ (.bool b)).grownBy wz (some (R + 1))) : OwnB w.heap.size wz ux x.dl ∧ OwnE w.heap.size wz vx x.el ∧ w.grownBy wz none := by
  have k1 : ∀ k, some X = some k → ∃ t cs, Blk wr k t cs ∧ t ≠ tU8 := fun k hk => by cases hk; exact ⟨_, _, h.bX, by decide⟩
  have k2 : ∀ k, some X = some k → ∃ t cs, Blk wr k t cs ∧ t ≠ tEnt := fun k hk => by cases hk; exact ⟨_, _, h.bX, by decide⟩
  have k3 : ∀ k, some (R + 1) = some k → ∃ t cs, Blk (wr.setCell ⟨X, 8, none⟩ (.bool b)) k t cs ∧ t ≠ tU8 := fun k hk => by cases hk; exact ⟨_, _, h.bTs b, by decide⟩
  have k4 : ∀ k, some (R + 1) = some k → ∃ t cs, Blk (wr.setCell ⟨X, 8, none⟩ (.bool b)) k t cs ∧ t ≠ tEnt := fun k hk => by cases hk; exact ⟨_, _, h.bTs b, by decide⟩
  exact ⟨(h.od.kept (gb_set (gb_refl _ _) _ _) k1).kept hg k3, (h.oe.kept (gb_set (gb_refl _ _) _ _) k2).kept hg k4, gb_new (gb_new h.g (gb_set (gb_refl _ _) _ _) h.le) hg hR⟩
set_option maxRecDepth 100000 in
set_option maxHeartbeats 3000000 in
theorem good_c15 (p : Int) (r : RR) (u v : Value) (w : World) (ha : r.ok w u v) (hr : r.ranged) (hs : r.small) : Calls Tryd.prog 11 #[.int .i64 p, r.val u v] w (ResR (goodR p r) w) := by
  obtain ⟨Au, cu, rfl, _⟩ := id ha.d
  obtain ⟨Av, cv, rfl, hAv, hNv, hcv⟩ := OwnE.shape ha.e
  obtain ⟨n, hn⟩ : ∃ n, r.el.length = n := ⟨_, rfl⟩
  rw [hn] at ha hcv hNv ⊢
  have HN := hide hn
  clear hn
  have HA := hide ha
  have HEN := hide hr.en
  obtain ⟨i0, i1, i2, i3, i4, i5, i6⟩ := hr.ints
  have HS := hide hs
  have HAV := hide hAv
  have HNV := hide hNv
  have b0 : ∀ z, Blk ((w.alloc (.cells (r.cells (.slice Au r.dl.length cu) (.slice Av n cv)).toArray tRes)).alloc (.cells z tRes)) w.heap.size tRes (r.cells (.slice Au r.dl.length cu) (.slice Av n cv)).toArray ∧ Blk ((w.alloc (.cells (r.cells (.slice Au r.dl.length cu) (.slice Av n cv)).toArray tRes)).alloc (.cells z tRes)) (w.heap.size + 1) tRes z ∧ w.grownBy ((w.alloc (.cells (r.cells (.slice Au r.dl.length cu) (.slice Av n cv)).toArray tRes)).alloc (.cells z tRes)) none := fun z =>
    ⟨(Blk.new _ _ _).alloc _, (by have h := Blk.new (w.alloc (.cells (r.cells (.slice Au r.dl.length cu) (.slice Av n cv)).toArray tRes)) tRes z; simpa using h), gb_alloc (gb_alloc (gb_refl _ _) _) _⟩
  have HB0 := hide (b0 ((zeroR 0).cells (.slice none 0 0) (.slice none 0 0)).toArray)
  clear ha hr hs b0 hAv hNv
  unfold i64ok at i0 i1 i2 i3 i4 i5 i6
  unfold RR.val RR.cells
  go_enter Tryd.func11, Tryd.ntmps11
  go_wp2_with fail
  refine (around_c r.errno 25 _ i0.1 i0.2 (by omega) (by omega)).mono ?_
  rintro e w1 ⟨rfl, rfl⟩
  have q0 := aroundN_nonneg r.errno 25 (by omega)
  have q1 := aroundN_lt r.errno 25 (by omega)
  have hE : goodE0 r = goodE0 r := rfl
  conv at hE => rhs; unfold goodE0
  generalize aroundN r.errno 25 = q at *
  have HEE := hide hE
  clear hE
  go_wp2_with fail
  refine (fromCode_c (q - 6) _).mono ?_
  rintro e w1 ⟨rfl, hg1⟩
  have HG1 := hide (And.intro (gb_trans HB0.out.2.2 hg1) (And.intro (HB0.out.1.grown hg1 (by simp)) (And.intro (HB0.out.2.1.grown hg1 (by simp)) (HA.out.grown (gb_trans HB0.out.2.2 hg1)))))
  clear hg1 HB0 HA
  have lR := HG1.out.2.1.lt
  obtain ⟨r0, r1, r2, r3, r4, r5, r6, r7, r8, r9⟩ := Blk.res HG1.out.2.1
  go_wp2_with fail
  refine (around_c r.errno 3 _ i0.1 i0.2 (by omega) (by omega)).mono ?_
  rintro e w1' ⟨rfl, rfl⟩
  have s0 := aroundN_nonneg r.errno 3 (by omega)
  have hEE := HEE.out
  generalize aroundN r.errno 3 = q3 at *
  have HEE2 := hide hEE
  clear hEE HEE
  go_upto_if 17 with fail
  go_cut [5] from 18 to 19 (fun e wx => e = .int .i64 (goodE0 r) ∧ wx = w1')
  case first =>
    go_wp2_with fail
    all_goals
      go_meet
      exact ⟨congrArg (Value.int .i64) (by rw [HEE2.out]; first | rw [if_pos (by omega)] | rw [if_neg (by omega)]), rfl⟩
  case rest =>
    obtain ⟨rfl, rfl⟩ := hcut
    clear q0 q1 s0 HEE2
    obtain ⟨e0, he0⟩ : ∃ e0, goodE0 r = e0 := ⟨_, rfl⟩
    have HE0 := hide he0
    rw [he0]
    clear he0
    by_cases hz : e0 = 0
    case neg =>
      have hfin : goodR p r = zeroR e0 := by unfold goodR; rw [HE0.out, if_neg hz]
      have HF := hide hfin
      have hzb : (e0 != 0) = true := by simpa using hz
      have lT := HG1.out.2.2.1.lt
      obtain ⟨z0, z1, z2, z3, z4, z5, z6, z7, z8, z9⟩ := Blk.res HG1.out.2.2.1
      have fT := HG1.out.2.2.1.frozen
      clear hfin hz
      go_wp2_with fail
      refine post_put10 HG1.out.2.2.1 rfl fun wz hb2 hgz => ?_
      have d0 := hb2.cell 0
      have d1 := hb2.cell 1
      have d2 := hb2.cell 2
      have d3 := hb2.cell 3
      have d4 := hb2.cell 4
      have d5 := hb2.cell 5
      have d6 := hb2.cell 6
      have d7 := hb2.cell 7
      have d8 := hb2.cell 8
      have d9 := hb2.cell 9
      simp only [List.getElem?_toArray, List.getElem?_cons_zero, List.getElem?_cons_succ] at d0 d1 d2 d3 d4 d5 d6 d7 d8 d9
      refine bodyPost_ret (v := (zeroR e0).val (.slice none 0 0) (.slice none 0 0)) (by simp [results, Tryd.results11, go_sem, d0, d1, d2, d3, d4, d5, d6, d7, d8, d9]; rfl) rfl ?_
      rw [HF.out]
      exact ⟨_, _, rfl, OwnB.nil _ _, OwnE.nil _ _, gb_new HG1.out.1 hgz (by omega)⟩
    case pos =>
      have hfin : goodR p r = goodKB (kindN p) r := by unfold goodR; rw [HE0.out, if_pos hz]
      have HF := hide hfin
      have hzb : (e0 != 0) = false := by simp [hz]
      clear hfin hz
      go_wp2_with fail
      refine (kind_c p _).mono ?_
      rintro e w2 ⟨rfl, hg2⟩
      obtain ⟨k, hk⟩ : ∃ k, kindN p = k := ⟨_, rfl⟩
      have hk6 : k < 6 := by rw [← hk]; unfold kindN; repeat' split
                             all_goals omega
      rw [hk] at HF ⊢
      clear hk
      have I0 : GdI w w.heap.size wc.heap.size r (.slice Au r.dl.length cu) (.slice Av n cv) (zeroR 0) (.slice none 0 0) (.slice none 0 0) w2 :=
        ⟨gb_trans (gb_alloc HG1.out.1 _) hg2, (HG1.out.2.1.alloc _).grown hg2 (by simp), (HG1.out.2.2.1.alloc _).grown hg2 (by simp), (Blk.new wc tRes ((zeroR 0).cells (.slice none 0 0) (.slice none 0 0)).toArray).grown hg2 (by simp), (HG1.out.2.2.2.grown (gb_alloc (gb_refl _ none) _)).grown hg2, OwnB.nil _ _, OwnE.nil _ _, HG1.out.1.size, HG1.out.2.2.1.lt⟩
      have HI := hide I0
      clear I0 hg2 HG1 lR r0 r1 r2 r3 r4 r5 r6 r7 r8 r9
      generalize wc.heap.size = X at *
      have ne1 : ¬ w.heap.size + 1 = X := by have := HI.out.ne; omega
      have ne2 : ¬ X = w.heap.size + 1 := by have := HI.out.ne; omega
      have ne3 : ¬ w.heap.size = X := by have := HI.out.ne; omega
      have ne4 : ¬ X = w.heap.size := by have := HI.out.ne; omega
      have hkc : k = 0 ∨ k = 1 ∨ k = 2 ∨ k = 3 ∨ k = 4 ∨ k = 5 := by omega
      have lR := HI.out.bR.lt
      have lX := HI.out.bX.lt
      obtain ⟨r0, r1, r2, r3, r4, r5, r6, r7, r8, r9⟩ := Blk.res HI.out.bR
      have x0 : w2.cell? ⟨X, 0, none⟩ = some (.int .i64 0) := HI.out.bX.cell 0
      have x1 : w2.cell? ⟨X, 1, none⟩ = some (.int .i64 0) := HI.out.bX.cell 1
      have x2 : w2.cell? ⟨X, 2, none⟩ = some (.int .i64 0) := HI.out.bX.cell 2
      have x3 : w2.cell? ⟨X, 3, none⟩ = some (.int .i64 0) := HI.out.bX.cell 3
      have x4 : w2.cell? ⟨X, 4, none⟩ = some (.int .i64 0) := HI.out.bX.cell 4
      have x5 : w2.cell? ⟨X, 5, none⟩ = some (.int .i64 0) := HI.out.bX.cell 5
      have x6 : w2.cell? ⟨X, 6, none⟩ = some (.slice none 0 0) := HI.out.bX.cell 6
      have x7 : w2.cell? ⟨X, 7, none⟩ = some (.int .i64 0) := HI.out.bX.cell 7
      have x8 : w2.cell? ⟨X, 8, none⟩ = some (.bool false) := HI.out.bX.cell 8
      have x9 : w2.cell? ⟨X, 9, none⟩ = some (.slice none 0 0) := HI.out.bX.cell 9
      have fX := HI.out.bX.frozen
      rcases hkc with rfl | rfl | rfl | rfl | rfl | rfl
      · go_wp2_with fail
        go_loopw [8] (fun i wr => i = .int .i64 0 ∧ GdI w w.heap.size X r (.slice Au r.dl.length cu) (.slice Av n cv) (zeroR 0) (.slice none 0 0) (.slice none 0 0) wr) (fun _ _ => 0)
        case atStart => exact ⟨rfl, HI.out⟩
        case round =>
          obtain ⟨rfl, hI⟩ := hrel
          clear lR lX fX r0 r1 r2 r3 r4 r5 r6 r7 r8 r9 x0 x1 x2 x3 x4 x5 x6 x7 x8 x9 HI
          have HI := hide hI
          clear hI
          have lR := HI.out.bR.lt
          have lX := HI.out.bX.lt
          obtain ⟨r0, r1, r2, r3, r4, r5, r6, r7, r8, r9⟩ := Blk.res HI.out.bR
          have x0 : wr.cell? ⟨X, 0, none⟩ = some (.int .i64 0) := HI.out.bX.cell 0
          have x1 : wr.cell? ⟨X, 1, none⟩ = some (.int .i64 0) := HI.out.bX.cell 1
          have x2 : wr.cell? ⟨X, 2, none⟩ = some (.int .i64 0) := HI.out.bX.cell 2
          have x3 : wr.cell? ⟨X, 3, none⟩ = some (.int .i64 0) := HI.out.bX.cell 3
          have x4 : wr.cell? ⟨X, 4, none⟩ = some (.int .i64 0) := HI.out.bX.cell 4
          have x5 : wr.cell? ⟨X, 5, none⟩ = some (.int .i64 0) := HI.out.bX.cell 5
          have x6 : wr.cell? ⟨X, 6, none⟩ = some (.slice none 0 0) := HI.out.bX.cell 6
          have x7 : wr.cell? ⟨X, 7, none⟩ = some (.int .i64 0) := HI.out.bX.cell 7
          have x8 : wr.cell? ⟨X, 8, none⟩ = some (.bool false) := HI.out.bX.cell 8
          have x9 : wr.cell? ⟨X, 9, none⟩ = some (.slice none 0 0) := HI.out.bX.cell 9
          have fX := HI.out.bX.frozen
          have lT := HI.out.bT.lt
          have z0 : wr.cell? ⟨w.heap.size + 1, 0, none⟩ = some (.int .i64 0) := HI.out.bT.cell 0
          have z1 : wr.cell? ⟨w.heap.size + 1, 1, none⟩ = some (.int .i64 0) := HI.out.bT.cell 1
          have z2 : wr.cell? ⟨w.heap.size + 1, 2, none⟩ = some (.int .i64 0) := HI.out.bT.cell 2
          have z3 : wr.cell? ⟨w.heap.size + 1, 3, none⟩ = some (.int .i64 0) := HI.out.bT.cell 3
          have z4 : wr.cell? ⟨w.heap.size + 1, 4, none⟩ = some (.int .i64 0) := HI.out.bT.cell 4
          have z5 : wr.cell? ⟨w.heap.size + 1, 5, none⟩ = some (.int .i64 0) := HI.out.bT.cell 5
          have z6 : wr.cell? ⟨w.heap.size + 1, 6, none⟩ = some (.slice none 0 0) := HI.out.bT.cell 6
          have z7 : wr.cell? ⟨w.heap.size + 1, 7, none⟩ = some (.int .i64 0) := HI.out.bT.cell 7
          have z8 : wr.cell? ⟨w.heap.size + 1, 8, none⟩ = some (.bool false) := HI.out.bT.cell 8
          have z9 : wr.cell? ⟨w.heap.size + 1, 9, none⟩ = some (.slice none 0 0) := HI.out.bT.cell 9
          have fT := HI.out.bT.frozen
          obtain ⟨bq, hbq⟩ : ∃ bq, r.eof = bq := ⟨_, rfl⟩
          rw [hbq] at r8
          have HBQ := hide hbq
          clear hbq
          cases bq
          · rcases Nat.eq_zero_or_pos n with h0 | h0
            · subst h0
              go_wp2_with fail
              refine post_put10 (HI.out.bTs false) rfl fun wz hb2 hgz => ?_
              have d0 := hb2.cell 0
              have d1 := hb2.cell 1
              have d2 := hb2.cell 2
              have d3 := hb2.cell 3
              have d4 := hb2.cell 4
              have d5 := hb2.cell 5
              have d6 := hb2.cell 6
              have d7 := hb2.cell 7
              have d8 := hb2.cell 8
              have d9 := hb2.cell 9
              simp only [List.getElem?_toArray, List.getElem?_cons_zero, List.getElem?_cons_succ] at d0 d1 d2 d3 d4 d5 d6 d7 d8 d9
              refine bodyPost_ret (v := RR.val ({ (zeroR 0) with eof := false } : RR) (.slice none 0 0) (.slice none 0 0)) (by simp [results, Tryd.results11, go_sem, d0, d1, d2, d3, d4, d5, d6, d7, d8, d9]; rfl) rfl ?_
              rw [HF.out, show goodKB _ r = ({ (zeroR 0) with eof := false } : RR) from rfl]
              have hfin := HI.out.fin (by omega) hgz
              exact ⟨_, _, rfl, hfin.1, hfin.2.1, hfin.2.2⟩
            · have h1 : (0 : Int) < (n : Int) := by omega
              go_wp2_with fail
              refine post_put10 (HI.out.bTs false) rfl fun wz hb2 hgz => ?_
              have d0 := hb2.cell 0
              have d1 := hb2.cell 1
              have d2 := hb2.cell 2
              have d3 := hb2.cell 3
              have d4 := hb2.cell 4
              have d5 := hb2.cell 5
              have d6 := hb2.cell 6
              have d7 := hb2.cell 7
              have d8 := hb2.cell 8
              have d9 := hb2.cell 9
              simp only [List.getElem?_toArray, List.getElem?_cons_zero, List.getElem?_cons_succ] at d0 d1 d2 d3 d4 d5 d6 d7 d8 d9
              refine bodyPost_ret (v := RR.val ({ (zeroR 0) with eof := false } : RR) (.slice none 0 0) (.slice none 0 0)) (by simp [results, Tryd.results11, go_sem, d0, d1, d2, d3, d4, d5, d6, d7, d8, d9]; rfl) rfl ?_
              rw [HF.out, show goodKB _ r = ({ (zeroR 0) with eof := false } : RR) from rfl]
              have hfin := HI.out.fin (by omega) hgz
              exact ⟨_, _, rfl, hfin.1, hfin.2.1, hfin.2.2⟩
          · rcases Nat.eq_zero_or_pos n with h0 | h0
            · subst h0
              go_wp2_with fail
              refine post_put10 (HI.out.bTs false) rfl fun wz hb2 hgz => ?_
              have d0 := hb2.cell 0
              have d1 := hb2.cell 1
              have d2 := hb2.cell 2
              have d3 := hb2.cell 3
              have d4 := hb2.cell 4
              have d5 := hb2.cell 5
              have d6 := hb2.cell 6
              have d7 := hb2.cell 7
              have d8 := hb2.cell 8
              have d9 := hb2.cell 9
              simp only [List.getElem?_toArray, List.getElem?_cons_zero, List.getElem?_cons_succ] at d0 d1 d2 d3 d4 d5 d6 d7 d8 d9
              refine bodyPost_ret (v := RR.val ({ (zeroR 0) with eof := false } : RR) (.slice none 0 0) (.slice none 0 0)) (by simp [results, Tryd.results11, go_sem, d0, d1, d2, d3, d4, d5, d6, d7, d8, d9]; rfl) rfl ?_
              rw [HF.out, show goodKB _ r = ({ (zeroR 0) with eof := false } : RR) from rfl]
              have hfin := HI.out.fin (by omega) hgz
              exact ⟨_, _, rfl, hfin.1, hfin.2.1, hfin.2.2⟩
            · have h1 : (0 : Int) < (n : Int) := by omega
              go_wp2_with fail
              refine post_put10 (HI.out.bTs false) rfl fun wz hb2 hgz => ?_
              have d0 := hb2.cell 0
              have d1 := hb2.cell 1
              have d2 := hb2.cell 2
              have d3 := hb2.cell 3
              have d4 := hb2.cell 4
              have d5 := hb2.cell 5
              have d6 := hb2.cell 6
              have d7 := hb2.cell 7
              have d8 := hb2.cell 8
              have d9 := hb2.cell 9
              simp only [List.getElem?_toArray, List.getElem?_cons_zero, List.getElem?_cons_succ] at d0 d1 d2 d3 d4 d5 d6 d7 d8 d9
              refine bodyPost_ret (v := RR.val ({ (zeroR 0) with eof := false } : RR) (.slice none 0 0) (.slice none 0 0)) (by simp [results, Tryd.results11, go_sem, d0, d1, d2, d3, d4, d5, d6, d7, d8, d9]; rfl) rfl ?_
              rw [HF.out, show goodKB _ r = ({ (zeroR 0) with eof := false } : RR) from rfl]
              have hfin := HI.out.fin (by omega) hgz
              exact ⟨_, _, rfl, hfin.1, hfin.2.1, hfin.2.2⟩
      · have q20 := aroundN_nonneg r.att.kind 2 (by omega)
        have q21 := aroundN_lt r.att.kind 2 (by omega)
        have wq : IntKind.wrap .i64 (1 + aroundN r.att.kind 2) = 1 + aroundN r.att.kind 2 := by rw [IntKind.wrap_i64]; omega
        go_wp2_with fail
        refine Reg.wp_reg [0, 1, 3, 7, 0, 16, 48, 127, 255, 0, 512, 1536, 3839, 0, 8192, 24576, 65279, 131071, 262143, 524287] [(0, .W), (1, .W), (2, .H), (3, .E true), (4, .W), (5, .W), (6, .H), (7, .Q), (8, .W), (9, .W), (10, .W), (11, .H), (12, .Q), (13, .W), (14, .W), (15, .H), (16, .Q), (17, .W), (18, .W), (19, .E false)] (Reg.Old _) (by kernel_rfl) (by kernel_rfl) (fun _ => Reg.Old.drew (Reg.Old.refl _)) ?_
        repeat (first | (refine Reg.wpC_W rfl (fun K hK => ?_); go_simp; refine hK _ ?_; clear hK K) | (refine Reg.wpC_H2 rfl rfl (fun K hK => ?_); apply Exists.intro; refine ⟨fun w' hS => ?_, ?_⟩; (have hS2 := hS.2; clear hS; go_simp; first | done | rfl); go_simp; refine hK _ ?_; clear hK K) | (refine Reg.wpC_N rfl rfl (fun K hK => ?_); go_simp; refine hK _ ?_; clear hK K))
        refine Reg.wpC_E rfl (fun K hK => ?_)
        go_simp
        refine (low_c15 r.att.ino r.att.gen _ i1.1 i1.2 i2.1 i2.2).mono ?_
        rintro e w5 ⟨rfl, hg5⟩
        have hO5 := (Reg.Old.refl w2).drew.grown hg5
        have HI5 := hide (HI.out.grown (gb_trans (gb_drew (gb_refl _ none)) hg5))
        have HO5 := hide hO5
        clear hg5 hO5
        refine hK _ _ (fun _ => HO5.out) ?_
        clear hK K
        repeat (first | (refine Reg.wpC_W rfl (fun K hK => ?_); go_simp; refine hK _ ?_; clear hK K) | (refine Reg.wpC_H2 rfl rfl (fun K hK => ?_); apply Exists.intro; refine ⟨fun w' hS => ?_, ?_⟩; (have hS2 := hS.2; clear hS; go_simp; first | done | rfl); go_simp; refine hK _ ?_; clear hK K) | (refine Reg.wpC_N rfl rfl (fun K hK => ?_); go_simp; refine hK _ ?_; clear hK K))
        refine Reg.wpC_Q2 rfl rfl (fun K hK => ?_)
        refine ⟨.int .i64 (aroundN r.att.kind 2), fun w' hS => ?qt, ?_⟩
        case qt => (unfold Oper.quietAt; go_simp; exact ⟨rfl, (around_c r.att.kind 2 w' i3.1 i3.2 (by omega) (by omega)).mono fun e w'' h => h⟩)
        go_simp
        refine hK _ ?_
        clear hK K
        repeat (first | (refine Reg.wpC_W rfl (fun K hK => ?_); go_simp; refine hK _ ?_; clear hK K) | (refine Reg.wpC_H2 rfl rfl (fun K hK => ?_); apply Exists.intro; refine ⟨fun w' hS => ?_, ?_⟩; (have hS2 := hS.2; clear hS; go_simp; first | done | rfl); go_simp; refine hK _ ?_; clear hK K) | (refine Reg.wpC_N rfl rfl (fun K hK => ?_); go_simp; refine hK _ ?_; clear hK K))
        refine Reg.wpC_Q2 rfl rfl (fun K hK => ?_)
        refine ⟨.int .i64 (aroundN r.att.mode 512), fun w' hS => ?qt, ?_⟩
        case qt => (unfold Oper.quietAt; go_simp; exact ⟨rfl, (around_c r.att.mode 512 w' i4.1 i4.2 (by omega) (by omega)).mono fun e w'' h => h⟩)
        go_simp
        refine hK _ ?_
        clear hK K
        repeat (first | (refine Reg.wpC_W rfl (fun K hK => ?_); go_simp; refine hK _ ?_; clear hK K) | (refine Reg.wpC_H2 rfl rfl (fun K hK => ?_); apply Exists.intro; refine ⟨fun w' hS => ?_, ?_⟩; (have hS2 := hS.2; clear hS; go_simp; first | done | rfl); go_simp; refine hK _ ?_; clear hK K) | (refine Reg.wpC_N rfl rfl (fun K hK => ?_); go_simp; refine hK _ ?_; clear hK K))
        refine Reg.wpC_Q2 rfl rfl (fun K hK => ?_)
        refine ⟨.int .i64 (aroundN r.att.size 65537), fun w' hS => ?qt, ?_⟩
        case qt => (unfold Oper.quietAt; go_simp; exact ⟨rfl, (around_c r.att.size 65537 w' i5.1 i5.2 (by omega) (by omega)).mono fun e w'' h => h⟩)
        go_simp
        refine hK _ ?_
        clear hK K
        repeat (first | (refine Reg.wpC_W rfl (fun K hK => ?_); go_simp; refine hK _ ?_; clear hK K) | (refine Reg.wpC_H2 rfl rfl (fun K hK => ?_); apply Exists.intro; refine ⟨fun w' hS => ?_, ?_⟩; (have hS2 := hS.2; clear hS; go_simp; first | done | rfl); go_simp; refine hK _ ?_; clear hK K) | (refine Reg.wpC_N rfl rfl (fun K hK => ?_); go_simp; refine hK _ ?_; clear hK K))
        clear lR lX fX r0 r1 r2 r3 r4 r5 r6 r7 r8 r9 x0 x1 x2 x3 x4 x5 x6 x7 x8 x9
        clear HI
        have HI := HI5
        clear HI5
        have lR := HI.out.bR.lt
        have lX := HI.out.bX.lt
        obtain ⟨r0, r1, r2, r3, r4, r5, r6, r7, r8, r9⟩ := Blk.res HI.out.bR
        have x0 : w5.cell? ⟨X, 0, none⟩ = some (.int .i64 0) := HI.out.bX.cell 0
        have x1 : w5.cell? ⟨X, 1, none⟩ = some (.int .i64 0) := HI.out.bX.cell 1
        have x2 : w5.cell? ⟨X, 2, none⟩ = some (.int .i64 0) := HI.out.bX.cell 2
        have x3 : w5.cell? ⟨X, 3, none⟩ = some (.int .i64 0) := HI.out.bX.cell 3
        have x4 : w5.cell? ⟨X, 4, none⟩ = some (.int .i64 0) := HI.out.bX.cell 4
        have x5 : w5.cell? ⟨X, 5, none⟩ = some (.int .i64 0) := HI.out.bX.cell 5
        have x6 : w5.cell? ⟨X, 6, none⟩ = some (.slice none 0 0) := HI.out.bX.cell 6
        have x7 : w5.cell? ⟨X, 7, none⟩ = some (.int .i64 0) := HI.out.bX.cell 7
        have x8 : w5.cell? ⟨X, 8, none⟩ = some (.bool false) := HI.out.bX.cell 8
        have x9 : w5.cell? ⟨X, 9, none⟩ = some (.slice none 0 0) := HI.out.bX.cell 9
        have fX := HI.out.bX.frozen
        refine Reg.wpC_E rfl (fun K hK => ?_)
        go_simp
        refine hK _ _ (fun h => by cases h) ?_
        clear hK K
        refine Reg.wpC_nil ?_
        refine genW (C := fun wz => Exit.then _ _ _ _ wz) (I := fun wz => GdI w w.heap.size X r (.slice Au r.dl.length cu) (.slice Av n cv) ({ zeroR 0 with att := goodAtt r.att } : RR) (.slice none 0 0) (.slice none 0 0) wz) (HI.out.put (x' := ({ zeroR 0 with att := goodAtt r.att } : RR)) (ux' := (.slice none 0 0)) (vx' := (.slice none 0 0)) (gb_set (gb_set (gb_set (gb_set (gb_set (gb_refl _ _) _ _) _ _) _ _) _ _) _ _) (((((HI.out.bX.set 1 _).set 2 _).set 3 _).set 4 _).set 5 _) (OwnB.nil _ _) (OwnE.nil _ _)) fun wr5 I => ?_
        clear lR lX fX r0 r1 r2 r3 r4 r5 r6 r7 r8 r9 x0 x1 x2 x3 x4 x5 x6 x7 x8 x9 HI
        have HI := hide I
        clear I
        have lR := HI.out.bR.lt
        have lX := HI.out.bX.lt
        obtain ⟨r0, r1, r2, r3, r4, r5, r6, r7, r8, r9⟩ := Blk.res HI.out.bR
        have x0 : wr5.cell? ⟨X, 0, none⟩ = some (.int .i64 0) := HI.out.bX.cell 0
        have x1 : wr5.cell? ⟨X, 1, none⟩ = some (.int .i64 (lowN r.att.ino)) := HI.out.bX.cell 1
        have x2 : wr5.cell? ⟨X, 2, none⟩ = some (.int .i64 (lowN r.att.gen)) := HI.out.bX.cell 2
        have x3 : wr5.cell? ⟨X, 3, none⟩ = some (.int .i64 (1 + aroundN r.att.kind 2)) := HI.out.bX.cell 3
        have x4 : wr5.cell? ⟨X, 4, none⟩ = some (.int .i64 (aroundN r.att.mode 512)) := HI.out.bX.cell 4
        have x5 : wr5.cell? ⟨X, 5, none⟩ = some (.int .i64 (aroundN r.att.size 65537)) := HI.out.bX.cell 5
        have x6 : wr5.cell? ⟨X, 6, none⟩ = some (.slice none 0 0) := HI.out.bX.cell 6
        have x7 : wr5.cell? ⟨X, 7, none⟩ = some (.int .i64 0) := HI.out.bX.cell 7
        have x8 : wr5.cell? ⟨X, 8, none⟩ = some (.bool false) := HI.out.bX.cell 8
        have x9 : wr5.cell? ⟨X, 9, none⟩ = some (.slice none 0 0) := HI.out.bX.cell 9
        have fX := HI.out.bX.frozen
        go_wp2_with fail
        go_loopw [8] (fun i wr => i = .int .i64 0 ∧ GdI w w.heap.size X r (.slice Au r.dl.length cu) (.slice Av n cv) ({ zeroR 0 with att := goodAtt r.att } : RR) (.slice none 0 0) (.slice none 0 0) wr) (fun _ _ => 0)
        case atStart => exact ⟨rfl, HI.out⟩
        case round =>
          obtain ⟨rfl, hI⟩ := hrel
          clear lR lX fX r0 r1 r2 r3 r4 r5 r6 r7 r8 r9 x0 x1 x2 x3 x4 x5 x6 x7 x8 x9 HI
          have HI := hide hI
          clear hI
          have lR := HI.out.bR.lt
          have lX := HI.out.bX.lt
          obtain ⟨r0, r1, r2, r3, r4, r5, r6, r7, r8, r9⟩ := Blk.res HI.out.bR
          have x0 : wr.cell? ⟨X, 0, none⟩ = some (.int .i64 0) := HI.out.bX.cell 0
          have x1 : wr.cell? ⟨X, 1, none⟩ = some (.int .i64 (lowN r.att.ino)) := HI.out.bX.cell 1
          have x2 : wr.cell? ⟨X, 2, none⟩ = some (.int .i64 (lowN r.att.gen)) := HI.out.bX.cell 2
          have x3 : wr.cell? ⟨X, 3, none⟩ = some (.int .i64 (1 + aroundN r.att.kind 2)) := HI.out.bX.cell 3
          have x4 : wr.cell? ⟨X, 4, none⟩ = some (.int .i64 (aroundN r.att.mode 512)) := HI.out.bX.cell 4
          have x5 : wr.cell? ⟨X, 5, none⟩ = some (.int .i64 (aroundN r.att.size 65537)) := HI.out.bX.cell 5
          have x6 : wr.cell? ⟨X, 6, none⟩ = some (.slice none 0 0) := HI.out.bX.cell 6
          have x7 : wr.cell? ⟨X, 7, none⟩ = some (.int .i64 0) := HI.out.bX.cell 7
          have x8 : wr.cell? ⟨X, 8, none⟩ = some (.bool false) := HI.out.bX.cell 8
          have x9 : wr.cell? ⟨X, 9, none⟩ = some (.slice none 0 0) := HI.out.bX.cell 9
          have fX := HI.out.bX.frozen
          have lT := HI.out.bT.lt
          have z0 : wr.cell? ⟨w.heap.size + 1, 0, none⟩ = some (.int .i64 0) := HI.out.bT.cell 0
          have z1 : wr.cell? ⟨w.heap.size + 1, 1, none⟩ = some (.int .i64 0) := HI.out.bT.cell 1
          have z2 : wr.cell? ⟨w.heap.size + 1, 2, none⟩ = some (.int .i64 0) := HI.out.bT.cell 2
          have z3 : wr.cell? ⟨w.heap.size + 1, 3, none⟩ = some (.int .i64 0) := HI.out.bT.cell 3
          have z4 : wr.cell? ⟨w.heap.size + 1, 4, none⟩ = some (.int .i64 0) := HI.out.bT.cell 4
          have z5 : wr.cell? ⟨w.heap.size + 1, 5, none⟩ = some (.int .i64 0) := HI.out.bT.cell 5
          have z6 : wr.cell? ⟨w.heap.size + 1, 6, none⟩ = some (.slice none 0 0) := HI.out.bT.cell 6
          have z7 : wr.cell? ⟨w.heap.size + 1, 7, none⟩ = some (.int .i64 0) := HI.out.bT.cell 7
          have z8 : wr.cell? ⟨w.heap.size + 1, 8, none⟩ = some (.bool false) := HI.out.bT.cell 8
          have z9 : wr.cell? ⟨w.heap.size + 1, 9, none⟩ = some (.slice none 0 0) := HI.out.bT.cell 9
          have fT := HI.out.bT.frozen
          obtain ⟨bq, hbq⟩ : ∃ bq, r.eof = bq := ⟨_, rfl⟩
          rw [hbq] at r8
          have HBQ := hide hbq
          clear hbq
          cases bq
          · rcases Nat.eq_zero_or_pos n with h0 | h0
            · subst h0
              go_wp2_with fail
              refine post_put10 (HI.out.bTs false) rfl fun wz hb2 hgz => ?_
              have d0 := hb2.cell 0
              have d1 := hb2.cell 1
              have d2 := hb2.cell 2
              have d3 := hb2.cell 3
              have d4 := hb2.cell 4
              have d5 := hb2.cell 5
              have d6 := hb2.cell 6
              have d7 := hb2.cell 7
              have d8 := hb2.cell 8
              have d9 := hb2.cell 9
              simp only [List.getElem?_toArray, List.getElem?_cons_zero, List.getElem?_cons_succ] at d0 d1 d2 d3 d4 d5 d6 d7 d8 d9
              refine bodyPost_ret (v := RR.val ({ ({ zeroR 0 with att := goodAtt r.att } : RR) with eof := false } : RR) (.slice none 0 0) (.slice none 0 0)) (by simp [results, Tryd.results11, go_sem, d0, d1, d2, d3, d4, d5, d6, d7, d8, d9]; rfl) rfl ?_
              rw [HF.out, show goodKB _ r = ({ ({ zeroR 0 with att := goodAtt r.att } : RR) with eof := false } : RR) from rfl]
              have hfin := HI.out.fin (by omega) hgz
              exact ⟨_, _, rfl, hfin.1, hfin.2.1, hfin.2.2⟩
            · have h1 : (0 : Int) < (n : Int) := by omega
              go_wp2_with fail
              refine post_put10 (HI.out.bTs false) rfl fun wz hb2 hgz => ?_
              have d0 := hb2.cell 0
              have d1 := hb2.cell 1
              have d2 := hb2.cell 2
              have d3 := hb2.cell 3
              have d4 := hb2.cell 4
              have d5 := hb2.cell 5
              have d6 := hb2.cell 6
              have d7 := hb2.cell 7
              have d8 := hb2.cell 8
              have d9 := hb2.cell 9
              simp only [List.getElem?_toArray, List.getElem?_cons_zero, List.getElem?_cons_succ] at d0 d1 d2 d3 d4 d5 d6 d7 d8 d9
              refine bodyPost_ret (v := RR.val ({ ({ zeroR 0 with att := goodAtt r.att } : RR) with eof := false } : RR) (.slice none 0 0) (.slice none 0 0)) (by simp [results, Tryd.results11, go_sem, d0, d1, d2, d3, d4, d5, d6, d7, d8, d9]; rfl) rfl ?_
              rw [HF.out, show goodKB _ r = ({ ({ zeroR 0 with att := goodAtt r.att } : RR) with eof := false } : RR) from rfl]
              have hfin := HI.out.fin (by omega) hgz
              exact ⟨_, _, rfl, hfin.1, hfin.2.1, hfin.2.2⟩
          · rcases Nat.eq_zero_or_pos n with h0 | h0
            · subst h0
              go_wp2_with fail
              refine post_put10 (HI.out.bTs false) rfl fun wz hb2 hgz => ?_
              have d0 := hb2.cell 0
              have d1 := hb2.cell 1
              have d2 := hb2.cell 2
              have d3 := hb2.cell 3
              have d4 := hb2.cell 4
              have d5 := hb2.cell 5
              have d6 := hb2.cell 6
              have d7 := hb2.cell 7
              have d8 := hb2.cell 8
              have d9 := hb2.cell 9
              simp only [List.getElem?_toArray, List.getElem?_cons_zero, List.getElem?_cons_succ] at d0 d1 d2 d3 d4 d5 d6 d7 d8 d9
              refine bodyPost_ret (v := RR.val ({ ({ zeroR 0 with att := goodAtt r.att } : RR) with eof := false } : RR) (.slice none 0 0) (.slice none 0 0)) (by simp [results, Tryd.results11, go_sem, d0, d1, d2, d3, d4, d5, d6, d7, d8, d9]; rfl) rfl ?_
              rw [HF.out, show goodKB _ r = ({ ({ zeroR 0 with att := goodAtt r.att } : RR) with eof := false } : RR) from rfl]
              have hfin := HI.out.fin (by omega) hgz
              exact ⟨_, _, rfl, hfin.1, hfin.2.1, hfin.2.2⟩
            · have h1 : (0 : Int) < (n : Int) := by omega
              go_wp2_with fail
              refine post_put10 (HI.out.bTs false) rfl fun wz hb2 hgz => ?_
              have d0 := hb2.cell 0
              have d1 := hb2.cell 1
              have d2 := hb2.cell 2
              have d3 := hb2.cell 3
              have d4 := hb2.cell 4
              have d5 := hb2.cell 5
              have d6 := hb2.cell 6
              have d7 := hb2.cell 7
              have d8 := hb2.cell 8
              have d9 := hb2.cell 9
              simp only [List.getElem?_toArray, List.getElem?_cons_zero, List.getElem?_cons_succ] at d0 d1 d2 d3 d4 d5 d6 d7 d8 d9
              refine bodyPost_ret (v := RR.val ({ ({ zeroR 0 with att := goodAtt r.att } : RR) with eof := false } : RR) (.slice none 0 0) (.slice none 0 0)) (by simp [results, Tryd.results11, go_sem, d0, d1, d2, d3, d4, d5, d6, d7, d8, d9]; rfl) rfl ?_
              rw [HF.out, show goodKB _ r = ({ ({ zeroR 0 with att := goodAtt r.att } : RR) with eof := false } : RR) from rfl]
              have hfin := HI.out.fin (by omega) hgz
              exact ⟨_, _, rfl, hfin.1, hfin.2.1, hfin.2.2⟩
      · obtain ⟨d, hd⟩ : ∃ d, r.dl.take 30 = d := ⟨_, rfl⟩
        have HD := hide hd
        have hfw := few_c (.slice Au r.dl.length cu) r.dl 30 (by omega) w2 HI.out.ok.d (by have := HS.out.d; omega)
        rw [hd] at hfw
        have HFW := hide hfw
        clear hd hfw
        go_wp2_with fail
        refine HFW.out.mono ?_
        rintro e w5 ⟨A5, n5, c5, rfl, ho5, hg5⟩
        obtain rfl := ho5.len
        have HO5 := hide (ho5.lower HI.out.g.size)
        have HI0 := hide (HI.out.grown hg5)
        clear HI
        have HI := HI0
        clear HI0
        clear ho5 hg5 HFW lR lX fX r0 r1 r2 r3 r4 r5 r6 r7 r8 r9 x0 x1 x2 x3 x4 x5 x6 x7 x8 x9
        have lR := HI.out.bR.lt
        have lX := HI.out.bX.lt
        obtain ⟨r0, r1, r2, r3, r4, r5, r6, r7, r8, r9⟩ := Blk.res HI.out.bR
        have x0 : w5.cell? ⟨X, 0, none⟩ = some (.int .i64 0) := HI.out.bX.cell 0
        have x1 : w5.cell? ⟨X, 1, none⟩ = some (.int .i64 0) := HI.out.bX.cell 1
        have x2 : w5.cell? ⟨X, 2, none⟩ = some (.int .i64 0) := HI.out.bX.cell 2
        have x3 : w5.cell? ⟨X, 3, none⟩ = some (.int .i64 0) := HI.out.bX.cell 3
        have x4 : w5.cell? ⟨X, 4, none⟩ = some (.int .i64 0) := HI.out.bX.cell 4
        have x5 : w5.cell? ⟨X, 5, none⟩ = some (.int .i64 0) := HI.out.bX.cell 5
        have x6 : w5.cell? ⟨X, 6, none⟩ = some (.slice none 0 0) := HI.out.bX.cell 6
        have x7 : w5.cell? ⟨X, 7, none⟩ = some (.int .i64 0) := HI.out.bX.cell 7
        have x8 : w5.cell? ⟨X, 8, none⟩ = some (.bool false) := HI.out.bX.cell 8
        have x9 : w5.cell? ⟨X, 9, none⟩ = some (.slice none 0 0) := HI.out.bX.cell 9
        have fX := HI.out.bX.frozen
        go_wp2_with fail
        have HI0 := hide (HI.out.put (x' := ({ zeroR 0 with dl := d, count := (d.length : Int) } : RR)) (ux' := (.slice A5 d.length c5)) (vx' := (.slice none 0 0)) (gb_set (gb_set (gb_refl _ _) _ _) _ _) ((HI.out.bX.set 6 _).set 7 _) HO5.out (OwnE.nil _ _))
        clear HI
        have HI := HI0
        clear HI0
        go_loopw [8] (fun i wr => i = .int .i64 0 ∧ GdI w w.heap.size X r (.slice Au r.dl.length cu) (.slice Av n cv) ({ zeroR 0 with dl := d, count := (d.length : Int) } : RR) (.slice A5 d.length c5) (.slice none 0 0) wr) (fun _ _ => 0)
        case atStart => exact ⟨rfl, HI.out⟩
        case round =>
          obtain ⟨rfl, hI⟩ := hrel
          clear lR lX fX r0 r1 r2 r3 r4 r5 r6 r7 r8 r9 x0 x1 x2 x3 x4 x5 x6 x7 x8 x9 HI
          have HI := hide hI
          clear hI
          have lR := HI.out.bR.lt
          have lX := HI.out.bX.lt
          obtain ⟨r0, r1, r2, r3, r4, r5, r6, r7, r8, r9⟩ := Blk.res HI.out.bR
          have x0 : wr.cell? ⟨X, 0, none⟩ = some (.int .i64 0) := HI.out.bX.cell 0
          have x1 : wr.cell? ⟨X, 1, none⟩ = some (.int .i64 0) := HI.out.bX.cell 1
          have x2 : wr.cell? ⟨X, 2, none⟩ = some (.int .i64 0) := HI.out.bX.cell 2
          have x3 : wr.cell? ⟨X, 3, none⟩ = some (.int .i64 0) := HI.out.bX.cell 3
          have x4 : wr.cell? ⟨X, 4, none⟩ = some (.int .i64 0) := HI.out.bX.cell 4
          have x5 : wr.cell? ⟨X, 5, none⟩ = some (.int .i64 0) := HI.out.bX.cell 5
          have x6 : wr.cell? ⟨X, 6, none⟩ = some (.slice A5 d.length c5) := HI.out.bX.cell 6
          have x7 : wr.cell? ⟨X, 7, none⟩ = some (.int .i64 (d.length : Int)) := HI.out.bX.cell 7
          have x8 : wr.cell? ⟨X, 8, none⟩ = some (.bool false) := HI.out.bX.cell 8
          have x9 : wr.cell? ⟨X, 9, none⟩ = some (.slice none 0 0) := HI.out.bX.cell 9
          have fX := HI.out.bX.frozen
          have lT := HI.out.bT.lt
          have z0 : wr.cell? ⟨w.heap.size + 1, 0, none⟩ = some (.int .i64 0) := HI.out.bT.cell 0
          have z1 : wr.cell? ⟨w.heap.size + 1, 1, none⟩ = some (.int .i64 0) := HI.out.bT.cell 1
          have z2 : wr.cell? ⟨w.heap.size + 1, 2, none⟩ = some (.int .i64 0) := HI.out.bT.cell 2
          have z3 : wr.cell? ⟨w.heap.size + 1, 3, none⟩ = some (.int .i64 0) := HI.out.bT.cell 3
          have z4 : wr.cell? ⟨w.heap.size + 1, 4, none⟩ = some (.int .i64 0) := HI.out.bT.cell 4
          have z5 : wr.cell? ⟨w.heap.size + 1, 5, none⟩ = some (.int .i64 0) := HI.out.bT.cell 5
          have z6 : wr.cell? ⟨w.heap.size + 1, 6, none⟩ = some (.slice none 0 0) := HI.out.bT.cell 6
          have z7 : wr.cell? ⟨w.heap.size + 1, 7, none⟩ = some (.int .i64 0) := HI.out.bT.cell 7
          have z8 : wr.cell? ⟨w.heap.size + 1, 8, none⟩ = some (.bool false) := HI.out.bT.cell 8
          have z9 : wr.cell? ⟨w.heap.size + 1, 9, none⟩ = some (.slice none 0 0) := HI.out.bT.cell 9
          have fT := HI.out.bT.frozen
          obtain ⟨bq, hbq⟩ : ∃ bq, r.eof = bq := ⟨_, rfl⟩
          rw [hbq] at r8
          have HBQ := hide hbq
          clear hbq
          cases bq
          · rcases Nat.eq_zero_or_pos n with h0 | h0
            · subst h0
              go_wp2_with fail
              refine post_put10 (HI.out.bTs false) rfl fun wz hb2 hgz => ?_
              have d0 := hb2.cell 0
              have d1 := hb2.cell 1
              have d2 := hb2.cell 2
              have d3 := hb2.cell 3
              have d4 := hb2.cell 4
              have d5 := hb2.cell 5
              have d6 := hb2.cell 6
              have d7 := hb2.cell 7
              have d8 := hb2.cell 8
              have d9 := hb2.cell 9
              simp only [List.getElem?_toArray, List.getElem?_cons_zero, List.getElem?_cons_succ] at d0 d1 d2 d3 d4 d5 d6 d7 d8 d9
              refine bodyPost_ret (v := RR.val ({ ({ zeroR 0 with dl := d, count := (d.length : Int) } : RR) with eof := false } : RR) (.slice A5 d.length c5) (.slice none 0 0)) (by simp [results, Tryd.results11, go_sem, d0, d1, d2, d3, d4, d5, d6, d7, d8, d9]; rfl) rfl ?_
              rw [HF.out, show goodKB _ r = ({ ({ zeroR 0 with dl := d, count := (d.length : Int) } : RR) with eof := false } : RR) from (by unfold goodKB; rw [HD.out, HBQ.out]; rfl)]
              have hfin := HI.out.fin (by omega) hgz
              exact ⟨_, _, rfl, hfin.1, hfin.2.1, hfin.2.2⟩
            · have h1 : (0 : Int) < (n : Int) := by omega
              go_wp2_with fail
              refine post_put10 (HI.out.bTs false) rfl fun wz hb2 hgz => ?_
              have d0 := hb2.cell 0
              have d1 := hb2.cell 1
              have d2 := hb2.cell 2
              have d3 := hb2.cell 3
              have d4 := hb2.cell 4
              have d5 := hb2.cell 5
              have d6 := hb2.cell 6
              have d7 := hb2.cell 7
              have d8 := hb2.cell 8
              have d9 := hb2.cell 9
              simp only [List.getElem?_toArray, List.getElem?_cons_zero, List.getElem?_cons_succ] at d0 d1 d2 d3 d4 d5 d6 d7 d8 d9
              refine bodyPost_ret (v := RR.val ({ ({ zeroR 0 with dl := d, count := (d.length : Int) } : RR) with eof := false } : RR) (.slice A5 d.length c5) (.slice none 0 0)) (by simp [results, Tryd.results11, go_sem, d0, d1, d2, d3, d4, d5, d6, d7, d8, d9]; rfl) rfl ?_
              rw [HF.out, show goodKB _ r = ({ ({ zeroR 0 with dl := d, count := (d.length : Int) } : RR) with eof := false } : RR) from (by unfold goodKB; rw [HD.out, HBQ.out]; rfl)]
              have hfin := HI.out.fin (by omega) hgz
              exact ⟨_, _, rfl, hfin.1, hfin.2.1, hfin.2.2⟩
          · rcases Nat.eq_zero_or_pos n with h0 | h0
            · subst h0
              go_wp2_with fail
              refine post_put10 (HI.out.bTs true) rfl fun wz hb2 hgz => ?_
              have d0 := hb2.cell 0
              have d1 := hb2.cell 1
              have d2 := hb2.cell 2
              have d3 := hb2.cell 3
              have d4 := hb2.cell 4
              have d5 := hb2.cell 5
              have d6 := hb2.cell 6
              have d7 := hb2.cell 7
              have d8 := hb2.cell 8
              have d9 := hb2.cell 9
              simp only [List.getElem?_toArray, List.getElem?_cons_zero, List.getElem?_cons_succ] at d0 d1 d2 d3 d4 d5 d6 d7 d8 d9
              refine bodyPost_ret (v := RR.val ({ ({ zeroR 0 with dl := d, count := (d.length : Int) } : RR) with eof := true } : RR) (.slice A5 d.length c5) (.slice none 0 0)) (by simp [results, Tryd.results11, go_sem, d0, d1, d2, d3, d4, d5, d6, d7, d8, d9]; rfl) rfl ?_
              rw [HF.out, show goodKB _ r = ({ ({ zeroR 0 with dl := d, count := (d.length : Int) } : RR) with eof := true } : RR) from (by unfold goodKB; rw [HD.out, HBQ.out]; rfl)]
              have hfin := HI.out.fin (by omega) hgz
              exact ⟨_, _, rfl, hfin.1, hfin.2.1, hfin.2.2⟩
            · have h1 : (0 : Int) < (n : Int) := by omega
              go_wp2_with fail
              refine post_put10 (HI.out.bTs true) rfl fun wz hb2 hgz => ?_
              have d0 := hb2.cell 0
              have d1 := hb2.cell 1
              have d2 := hb2.cell 2
              have d3 := hb2.cell 3
              have d4 := hb2.cell 4
              have d5 := hb2.cell 5
              have d6 := hb2.cell 6
              have d7 := hb2.cell 7
              have d8 := hb2.cell 8
              have d9 := hb2.cell 9
              simp only [List.getElem?_toArray, List.getElem?_cons_zero, List.getElem?_cons_succ] at d0 d1 d2 d3 d4 d5 d6 d7 d8 d9
              refine bodyPost_ret (v := RR.val ({ ({ zeroR 0 with dl := d, count := (d.length : Int) } : RR) with eof := true } : RR) (.slice A5 d.length c5) (.slice none 0 0)) (by simp [results, Tryd.results11, go_sem, d0, d1, d2, d3, d4, d5, d6, d7, d8, d9]; rfl) rfl ?_
              rw [HF.out, show goodKB _ r = ({ ({ zeroR 0 with dl := d, count := (d.length : Int) } : RR) with eof := true } : RR) from (by unfold goodKB; rw [HD.out, HBQ.out]; rfl)]
              have hfin := HI.out.fin (by omega) hgz
              exact ⟨_, _, rfl, hfin.1, hfin.2.1, hfin.2.2⟩
      · have q20 := aroundN_nonneg r.att.kind 2 (by omega)
        have q21 := aroundN_lt r.att.kind 2 (by omega)
        have wq : IntKind.wrap .i64 (1 + aroundN r.att.kind 2) = 1 + aroundN r.att.kind 2 := by rw [IntKind.wrap_i64]; omega
        go_wp2_with fail
        refine Reg.wp_reg [0, 1, 3, 7, 0, 16, 48, 127, 255, 0, 512, 1536, 3839, 0, 8192, 24576, 65279, 131071, 262143, 524287] [(0, .W), (1, .W), (2, .H), (3, .E true), (4, .W), (5, .W), (6, .H), (7, .Q), (8, .W), (9, .W), (10, .W), (11, .H), (12, .Q), (13, .W), (14, .W), (15, .H), (16, .Q), (17, .W), (18, .W), (19, .E false)] (Reg.Old _) (by kernel_rfl) (by kernel_rfl) (fun _ => Reg.Old.drew (Reg.Old.refl _)) ?_
        repeat (first | (refine Reg.wpC_W rfl (fun K hK => ?_); go_simp; refine hK _ ?_; clear hK K) | (refine Reg.wpC_H2 rfl rfl (fun K hK => ?_); apply Exists.intro; refine ⟨fun w' hS => ?_, ?_⟩; (have hS2 := hS.2; clear hS; go_simp; first | done | rfl); go_simp; refine hK _ ?_; clear hK K) | (refine Reg.wpC_N rfl rfl (fun K hK => ?_); go_simp; refine hK _ ?_; clear hK K))
        refine Reg.wpC_E rfl (fun K hK => ?_)
        go_simp
        refine (low_c15 r.att.ino r.att.gen _ i1.1 i1.2 i2.1 i2.2).mono ?_
        rintro e w5 ⟨rfl, hg5⟩
        have hO5 := (Reg.Old.refl w2).drew.grown hg5
        have HI5 := hide (HI.out.grown (gb_trans (gb_drew (gb_refl _ none)) hg5))
        have HO5 := hide hO5
        clear hg5 hO5
        refine hK _ _ (fun _ => HO5.out) ?_
        clear hK K
        repeat (first | (refine Reg.wpC_W rfl (fun K hK => ?_); go_simp; refine hK _ ?_; clear hK K) | (refine Reg.wpC_H2 rfl rfl (fun K hK => ?_); apply Exists.intro; refine ⟨fun w' hS => ?_, ?_⟩; (have hS2 := hS.2; clear hS; go_simp; first | done | rfl); go_simp; refine hK _ ?_; clear hK K) | (refine Reg.wpC_N rfl rfl (fun K hK => ?_); go_simp; refine hK _ ?_; clear hK K))
        refine Reg.wpC_Q2 rfl rfl (fun K hK => ?_)
        refine ⟨.int .i64 (aroundN r.att.kind 2), fun w' hS => ?qt, ?_⟩
        case qt => (unfold Oper.quietAt; go_simp; exact ⟨rfl, (around_c r.att.kind 2 w' i3.1 i3.2 (by omega) (by omega)).mono fun e w'' h => h⟩)
        go_simp
        refine hK _ ?_
        clear hK K
        repeat (first | (refine Reg.wpC_W rfl (fun K hK => ?_); go_simp; refine hK _ ?_; clear hK K) | (refine Reg.wpC_H2 rfl rfl (fun K hK => ?_); apply Exists.intro; refine ⟨fun w' hS => ?_, ?_⟩; (have hS2 := hS.2; clear hS; go_simp; first | done | rfl); go_simp; refine hK _ ?_; clear hK K) | (refine Reg.wpC_N rfl rfl (fun K hK => ?_); go_simp; refine hK _ ?_; clear hK K))
        refine Reg.wpC_Q2 rfl rfl (fun K hK => ?_)
        refine ⟨.int .i64 (aroundN r.att.mode 512), fun w' hS => ?qt, ?_⟩
        case qt => (unfold Oper.quietAt; go_simp; exact ⟨rfl, (around_c r.att.mode 512 w' i4.1 i4.2 (by omega) (by omega)).mono fun e w'' h => h⟩)
        go_simp
        refine hK _ ?_
        clear hK K
        repeat (first | (refine Reg.wpC_W rfl (fun K hK => ?_); go_simp; refine hK _ ?_; clear hK K) | (refine Reg.wpC_H2 rfl rfl (fun K hK => ?_); apply Exists.intro; refine ⟨fun w' hS => ?_, ?_⟩; (have hS2 := hS.2; clear hS; go_simp; first | done | rfl); go_simp; refine hK _ ?_; clear hK K) | (refine Reg.wpC_N rfl rfl (fun K hK => ?_); go_simp; refine hK _ ?_; clear hK K))
        refine Reg.wpC_Q2 rfl rfl (fun K hK => ?_)
        refine ⟨.int .i64 (aroundN r.att.size 65537), fun w' hS => ?qt, ?_⟩
        case qt => (unfold Oper.quietAt; go_simp; exact ⟨rfl, (around_c r.att.size 65537 w' i5.1 i5.2 (by omega) (by omega)).mono fun e w'' h => h⟩)
        go_simp
        refine hK _ ?_
        clear hK K
        repeat (first | (refine Reg.wpC_W rfl (fun K hK => ?_); go_simp; refine hK _ ?_; clear hK K) | (refine Reg.wpC_H2 rfl rfl (fun K hK => ?_); apply Exists.intro; refine ⟨fun w' hS => ?_, ?_⟩; (have hS2 := hS.2; clear hS; go_simp; first | done | rfl); go_simp; refine hK _ ?_; clear hK K) | (refine Reg.wpC_N rfl rfl (fun K hK => ?_); go_simp; refine hK _ ?_; clear hK K))
        clear lR lX fX r0 r1 r2 r3 r4 r5 r6 r7 r8 r9 x0 x1 x2 x3 x4 x5 x6 x7 x8 x9
        clear HI
        have HI := HI5
        clear HI5
        have lR := HI.out.bR.lt
        have lX := HI.out.bX.lt
        obtain ⟨r0, r1, r2, r3, r4, r5, r6, r7, r8, r9⟩ := Blk.res HI.out.bR
        have x0 : w5.cell? ⟨X, 0, none⟩ = some (.int .i64 0) := HI.out.bX.cell 0
        have x1 : w5.cell? ⟨X, 1, none⟩ = some (.int .i64 0) := HI.out.bX.cell 1
        have x2 : w5.cell? ⟨X, 2, none⟩ = some (.int .i64 0) := HI.out.bX.cell 2
        have x3 : w5.cell? ⟨X, 3, none⟩ = some (.int .i64 0) := HI.out.bX.cell 3
        have x4 : w5.cell? ⟨X, 4, none⟩ = some (.int .i64 0) := HI.out.bX.cell 4
        have x5 : w5.cell? ⟨X, 5, none⟩ = some (.int .i64 0) := HI.out.bX.cell 5
        have x6 : w5.cell? ⟨X, 6, none⟩ = some (.slice none 0 0) := HI.out.bX.cell 6
        have x7 : w5.cell? ⟨X, 7, none⟩ = some (.int .i64 0) := HI.out.bX.cell 7
        have x8 : w5.cell? ⟨X, 8, none⟩ = some (.bool false) := HI.out.bX.cell 8
        have x9 : w5.cell? ⟨X, 9, none⟩ = some (.slice none 0 0) := HI.out.bX.cell 9
        have fX := HI.out.bX.frozen
        refine Reg.wpC_E rfl (fun K hK => ?_)
        go_simp
        refine hK _ _ (fun h => by cases h) ?_
        clear hK K
        refine Reg.wpC_nil ?_
        refine genW (C := fun wz => Exit.then _ _ _ _ wz) (I := fun wz => GdI w w.heap.size X r (.slice Au r.dl.length cu) (.slice Av n cv) ({ zeroR 0 with att := goodAtt r.att } : RR) (.slice none 0 0) (.slice none 0 0) wz) (HI.out.put (x' := ({ zeroR 0 with att := goodAtt r.att } : RR)) (ux' := (.slice none 0 0)) (vx' := (.slice none 0 0)) (gb_set (gb_set (gb_set (gb_set (gb_set (gb_refl _ _) _ _) _ _) _ _) _ _) _ _) (((((HI.out.bX.set 1 _).set 2 _).set 3 _).set 4 _).set 5 _) (OwnB.nil _ _) (OwnE.nil _ _)) fun wr5 I => ?_
        clear lR lX fX r0 r1 r2 r3 r4 r5 r6 r7 r8 r9 x0 x1 x2 x3 x4 x5 x6 x7 x8 x9 HI
        have HI := hide I
        clear I
        have lR := HI.out.bR.lt
        have lX := HI.out.bX.lt
        obtain ⟨r0, r1, r2, r3, r4, r5, r6, r7, r8, r9⟩ := Blk.res HI.out.bR
        have x0 : wr5.cell? ⟨X, 0, none⟩ = some (.int .i64 0) := HI.out.bX.cell 0
        have x1 : wr5.cell? ⟨X, 1, none⟩ = some (.int .i64 (lowN r.att.ino)) := HI.out.bX.cell 1
        have x2 : wr5.cell? ⟨X, 2, none⟩ = some (.int .i64 (lowN r.att.gen)) := HI.out.bX.cell 2
        have x3 : wr5.cell? ⟨X, 3, none⟩ = some (.int .i64 (1 + aroundN r.att.kind 2)) := HI.out.bX.cell 3
        have x4 : wr5.cell? ⟨X, 4, none⟩ = some (.int .i64 (aroundN r.att.mode 512)) := HI.out.bX.cell 4
        have x5 : wr5.cell? ⟨X, 5, none⟩ = some (.int .i64 (aroundN r.att.size 65537)) := HI.out.bX.cell 5
        have x6 : wr5.cell? ⟨X, 6, none⟩ = some (.slice none 0 0) := HI.out.bX.cell 6
        have x7 : wr5.cell? ⟨X, 7, none⟩ = some (.int .i64 0) := HI.out.bX.cell 7
        have x8 : wr5.cell? ⟨X, 8, none⟩ = some (.bool false) := HI.out.bX.cell 8
        have x9 : wr5.cell? ⟨X, 9, none⟩ = some (.slice none 0 0) := HI.out.bX.cell 9
        have fX := HI.out.bX.frozen
        go_wp2_with fail
        refine (around_c r.count 4294967296 _ i6.1 i6.2 (by omega) (by omega)).mono ?_
        rintro e w6 ⟨rfl, rfl⟩
        go_wp2_with fail
        have HI0 := hide (HI.out.put (x' := ({ zeroR 0 with att := goodAtt r.att, count := lowN r.count } : RR)) (ux' := (.slice none 0 0)) (vx' := (.slice none 0 0)) (gb_set (gb_refl _ _) _ _) (HI.out.bX.set 7 _) (OwnB.nil _ _) (OwnE.nil _ _))
        clear HI
        have HI := HI0
        clear HI0
        go_loopw [8] (fun i wr => i = .int .i64 0 ∧ GdI w w.heap.size X r (.slice Au r.dl.length cu) (.slice Av n cv) ({ zeroR 0 with att := goodAtt r.att, count := lowN r.count } : RR) (.slice none 0 0) (.slice none 0 0) wr) (fun _ _ => 0)
        case atStart => exact ⟨rfl, HI.out⟩
        case round =>
          obtain ⟨rfl, hI⟩ := hrel
          clear lR lX fX r0 r1 r2 r3 r4 r5 r6 r7 r8 r9 x0 x1 x2 x3 x4 x5 x6 x7 x8 x9 HI
          have HI := hide hI
          clear hI
          have lR := HI.out.bR.lt
          have lX := HI.out.bX.lt
          obtain ⟨r0, r1, r2, r3, r4, r5, r6, r7, r8, r9⟩ := Blk.res HI.out.bR
          have x0 : wr.cell? ⟨X, 0, none⟩ = some (.int .i64 0) := HI.out.bX.cell 0
          have x1 : wr.cell? ⟨X, 1, none⟩ = some (.int .i64 (lowN r.att.ino)) := HI.out.bX.cell 1
          have x2 : wr.cell? ⟨X, 2, none⟩ = some (.int .i64 (lowN r.att.gen)) := HI.out.bX.cell 2
          have x3 : wr.cell? ⟨X, 3, none⟩ = some (.int .i64 (1 + aroundN r.att.kind 2)) := HI.out.bX.cell 3
          have x4 : wr.cell? ⟨X, 4, none⟩ = some (.int .i64 (aroundN r.att.mode 512)) := HI.out.bX.cell 4
          have x5 : wr.cell? ⟨X, 5, none⟩ = some (.int .i64 (aroundN r.att.size 65537)) := HI.out.bX.cell 5
          have x6 : wr.cell? ⟨X, 6, none⟩ = some (.slice none 0 0) := HI.out.bX.cell 6
          have x7 : wr.cell? ⟨X, 7, none⟩ = some (.int .i64 (lowN r.count)) := HI.out.bX.cell 7
          have x8 : wr.cell? ⟨X, 8, none⟩ = some (.bool false) := HI.out.bX.cell 8
          have x9 : wr.cell? ⟨X, 9, none⟩ = some (.slice none 0 0) := HI.out.bX.cell 9
          have fX := HI.out.bX.frozen
          have lT := HI.out.bT.lt
          have z0 : wr.cell? ⟨w.heap.size + 1, 0, none⟩ = some (.int .i64 0) := HI.out.bT.cell 0
          have z1 : wr.cell? ⟨w.heap.size + 1, 1, none⟩ = some (.int .i64 0) := HI.out.bT.cell 1
          have z2 : wr.cell? ⟨w.heap.size + 1, 2, none⟩ = some (.int .i64 0) := HI.out.bT.cell 2
          have z3 : wr.cell? ⟨w.heap.size + 1, 3, none⟩ = some (.int .i64 0) := HI.out.bT.cell 3
          have z4 : wr.cell? ⟨w.heap.size + 1, 4, none⟩ = some (.int .i64 0) := HI.out.bT.cell 4
          have z5 : wr.cell? ⟨w.heap.size + 1, 5, none⟩ = some (.int .i64 0) := HI.out.bT.cell 5
          have z6 : wr.cell? ⟨w.heap.size + 1, 6, none⟩ = some (.slice none 0 0) := HI.out.bT.cell 6
          have z7 : wr.cell? ⟨w.heap.size + 1, 7, none⟩ = some (.int .i64 0) := HI.out.bT.cell 7
          have z8 : wr.cell? ⟨w.heap.size + 1, 8, none⟩ = some (.bool false) := HI.out.bT.cell 8
          have z9 : wr.cell? ⟨w.heap.size + 1, 9, none⟩ = some (.slice none 0 0) := HI.out.bT.cell 9
          have fT := HI.out.bT.frozen
          obtain ⟨bq, hbq⟩ : ∃ bq, r.eof = bq := ⟨_, rfl⟩
          rw [hbq] at r8
          have HBQ := hide hbq
          clear hbq
          cases bq
          · rcases Nat.eq_zero_or_pos n with h0 | h0
            · subst h0
              go_wp2_with fail
              refine post_put10 (HI.out.bTs false) rfl fun wz hb2 hgz => ?_
              have d0 := hb2.cell 0
              have d1 := hb2.cell 1
              have d2 := hb2.cell 2
              have d3 := hb2.cell 3
              have d4 := hb2.cell 4
              have d5 := hb2.cell 5
              have d6 := hb2.cell 6
              have d7 := hb2.cell 7
              have d8 := hb2.cell 8
              have d9 := hb2.cell 9
              simp only [List.getElem?_toArray, List.getElem?_cons_zero, List.getElem?_cons_succ] at d0 d1 d2 d3 d4 d5 d6 d7 d8 d9
              refine bodyPost_ret (v := RR.val ({ ({ zeroR 0 with att := goodAtt r.att, count := lowN r.count } : RR) with eof := false } : RR) (.slice none 0 0) (.slice none 0 0)) (by simp [results, Tryd.results11, go_sem, d0, d1, d2, d3, d4, d5, d6, d7, d8, d9]; rfl) rfl ?_
              rw [HF.out, show goodKB _ r = ({ ({ zeroR 0 with att := goodAtt r.att, count := lowN r.count } : RR) with eof := false } : RR) from rfl]
              have hfin := HI.out.fin (by omega) hgz
              exact ⟨_, _, rfl, hfin.1, hfin.2.1, hfin.2.2⟩
            · have h1 : (0 : Int) < (n : Int) := by omega
              go_wp2_with fail
              refine post_put10 (HI.out.bTs false) rfl fun wz hb2 hgz => ?_
              have d0 := hb2.cell 0
              have d1 := hb2.cell 1
              have d2 := hb2.cell 2
              have d3 := hb2.cell 3
              have d4 := hb2.cell 4
              have d5 := hb2.cell 5
              have d6 := hb2.cell 6
              have d7 := hb2.cell 7
              have d8 := hb2.cell 8
              have d9 := hb2.cell 9
              simp only [List.getElem?_toArray, List.getElem?_cons_zero, List.getElem?_cons_succ] at d0 d1 d2 d3 d4 d5 d6 d7 d8 d9
              refine bodyPost_ret (v := RR.val ({ ({ zeroR 0 with att := goodAtt r.att, count := lowN r.count } : RR) with eof := false } : RR) (.slice none 0 0) (.slice none 0 0)) (by simp [results, Tryd.results11, go_sem, d0, d1, d2, d3, d4, d5, d6, d7, d8, d9]; rfl) rfl ?_
              rw [HF.out, show goodKB _ r = ({ ({ zeroR 0 with att := goodAtt r.att, count := lowN r.count } : RR) with eof := false } : RR) from rfl]
              have hfin := HI.out.fin (by omega) hgz
              exact ⟨_, _, rfl, hfin.1, hfin.2.1, hfin.2.2⟩
          · rcases Nat.eq_zero_or_pos n with h0 | h0
            · subst h0
              go_wp2_with fail
              refine post_put10 (HI.out.bTs false) rfl fun wz hb2 hgz => ?_
              have d0 := hb2.cell 0
              have d1 := hb2.cell 1
              have d2 := hb2.cell 2
              have d3 := hb2.cell 3
              have d4 := hb2.cell 4
              have d5 := hb2.cell 5
              have d6 := hb2.cell 6
              have d7 := hb2.cell 7
              have d8 := hb2.cell 8
              have d9 := hb2.cell 9
              simp only [List.getElem?_toArray, List.getElem?_cons_zero, List.getElem?_cons_succ] at d0 d1 d2 d3 d4 d5 d6 d7 d8 d9
              refine bodyPost_ret (v := RR.val ({ ({ zeroR 0 with att := goodAtt r.att, count := lowN r.count } : RR) with eof := false } : RR) (.slice none 0 0) (.slice none 0 0)) (by simp [results, Tryd.results11, go_sem, d0, d1, d2, d3, d4, d5, d6, d7, d8, d9]; rfl) rfl ?_
              rw [HF.out, show goodKB _ r = ({ ({ zeroR 0 with att := goodAtt r.att, count := lowN r.count } : RR) with eof := false } : RR) from rfl]
              have hfin := HI.out.fin (by omega) hgz
              exact ⟨_, _, rfl, hfin.1, hfin.2.1, hfin.2.2⟩
            · have h1 : (0 : Int) < (n : Int) := by omega
              go_wp2_with fail
              refine post_put10 (HI.out.bTs false) rfl fun wz hb2 hgz => ?_
              have d0 := hb2.cell 0
              have d1 := hb2.cell 1
              have d2 := hb2.cell 2
              have d3 := hb2.cell 3
              have d4 := hb2.cell 4
              have d5 := hb2.cell 5
              have d6 := hb2.cell 6
              have d7 := hb2.cell 7
              have d8 := hb2.cell 8
              have d9 := hb2.cell 9
              simp only [List.getElem?_toArray, List.getElem?_cons_zero, List.getElem?_cons_succ] at d0 d1 d2 d3 d4 d5 d6 d7 d8 d9
              refine bodyPost_ret (v := RR.val ({ ({ zeroR 0 with att := goodAtt r.att, count := lowN r.count } : RR) with eof := false } : RR) (.slice none 0 0) (.slice none 0 0)) (by simp [results, Tryd.results11, go_sem, d0, d1, d2, d3, d4, d5, d6, d7, d8, d9]; rfl) rfl ?_
              rw [HF.out, show goodKB _ r = ({ ({ zeroR 0 with att := goodAtt r.att, count := lowN r.count } : RR) with eof := false } : RR) from rfl]
              have hfin := HI.out.fin (by omega) hgz
              exact ⟨_, _, rfl, hfin.1, hfin.2.1, hfin.2.2⟩
      · go_wp2_with fail
        go_loopw [8] (fun i wr => i = .int .i64 0 ∧ GdI w w.heap.size X r (.slice Au r.dl.length cu) (.slice Av n cv) (zeroR 0) (.slice none 0 0) (.slice none 0 0) wr) (fun _ _ => 0)
        case atStart => exact ⟨rfl, HI.out⟩
        case round =>
          obtain ⟨rfl, hI⟩ := hrel
          clear lR lX fX r0 r1 r2 r3 r4 r5 r6 r7 r8 r9 x0 x1 x2 x3 x4 x5 x6 x7 x8 x9 HI
          have HI := hide hI
          clear hI
          have lR := HI.out.bR.lt
          have lX := HI.out.bX.lt
          obtain ⟨r0, r1, r2, r3, r4, r5, r6, r7, r8, r9⟩ := Blk.res HI.out.bR
          have x0 : wr.cell? ⟨X, 0, none⟩ = some (.int .i64 0) := HI.out.bX.cell 0
          have x1 : wr.cell? ⟨X, 1, none⟩ = some (.int .i64 0) := HI.out.bX.cell 1
          have x2 : wr.cell? ⟨X, 2, none⟩ = some (.int .i64 0) := HI.out.bX.cell 2
          have x3 : wr.cell? ⟨X, 3, none⟩ = some (.int .i64 0) := HI.out.bX.cell 3
          have x4 : wr.cell? ⟨X, 4, none⟩ = some (.int .i64 0) := HI.out.bX.cell 4
          have x5 : wr.cell? ⟨X, 5, none⟩ = some (.int .i64 0) := HI.out.bX.cell 5
          have x6 : wr.cell? ⟨X, 6, none⟩ = some (.slice none 0 0) := HI.out.bX.cell 6
          have x7 : wr.cell? ⟨X, 7, none⟩ = some (.int .i64 0) := HI.out.bX.cell 7
          have x8 : wr.cell? ⟨X, 8, none⟩ = some (.bool false) := HI.out.bX.cell 8
          have x9 : wr.cell? ⟨X, 9, none⟩ = some (.slice none 0 0) := HI.out.bX.cell 9
          have fX := HI.out.bX.frozen
          have lT := HI.out.bT.lt
          have z0 : wr.cell? ⟨w.heap.size + 1, 0, none⟩ = some (.int .i64 0) := HI.out.bT.cell 0
          have z1 : wr.cell? ⟨w.heap.size + 1, 1, none⟩ = some (.int .i64 0) := HI.out.bT.cell 1
          have z2 : wr.cell? ⟨w.heap.size + 1, 2, none⟩ = some (.int .i64 0) := HI.out.bT.cell 2
          have z3 : wr.cell? ⟨w.heap.size + 1, 3, none⟩ = some (.int .i64 0) := HI.out.bT.cell 3
          have z4 : wr.cell? ⟨w.heap.size + 1, 4, none⟩ = some (.int .i64 0) := HI.out.bT.cell 4
          have z5 : wr.cell? ⟨w.heap.size + 1, 5, none⟩ = some (.int .i64 0) := HI.out.bT.cell 5
          have z6 : wr.cell? ⟨w.heap.size + 1, 6, none⟩ = some (.slice none 0 0) := HI.out.bT.cell 6
          have z7 : wr.cell? ⟨w.heap.size + 1, 7, none⟩ = some (.int .i64 0) := HI.out.bT.cell 7
          have z8 : wr.cell? ⟨w.heap.size + 1, 8, none⟩ = some (.bool false) := HI.out.bT.cell 8
          have z9 : wr.cell? ⟨w.heap.size + 1, 9, none⟩ = some (.slice none 0 0) := HI.out.bT.cell 9
          have fT := HI.out.bT.frozen
          obtain ⟨bq, hbq⟩ : ∃ bq, r.eof = bq := ⟨_, rfl⟩
          rw [hbq] at r8
          have HBQ := hide hbq
          clear hbq
          cases bq
          · rcases Nat.eq_zero_or_pos n with h0 | h0
            · subst h0
              go_wp2_with fail
              refine post_put10 (HI.out.bTs false) rfl fun wz hb2 hgz => ?_
              have d0 := hb2.cell 0
              have d1 := hb2.cell 1
              have d2 := hb2.cell 2
              have d3 := hb2.cell 3
              have d4 := hb2.cell 4
              have d5 := hb2.cell 5
              have d6 := hb2.cell 6
              have d7 := hb2.cell 7
              have d8 := hb2.cell 8
              have d9 := hb2.cell 9
              simp only [List.getElem?_toArray, List.getElem?_cons_zero, List.getElem?_cons_succ] at d0 d1 d2 d3 d4 d5 d6 d7 d8 d9
              refine bodyPost_ret (v := RR.val ({ (zeroR 0) with eof := false } : RR) (.slice none 0 0) (.slice none 0 0)) (by simp [results, Tryd.results11, go_sem, d0, d1, d2, d3, d4, d5, d6, d7, d8, d9]; rfl) rfl ?_
              rw [HF.out, show goodKB _ r = ({ (zeroR 0) with eof := false } : RR) from rfl]
              have hfin := HI.out.fin (by omega) hgz
              exact ⟨_, _, rfl, hfin.1, hfin.2.1, hfin.2.2⟩
            · have h1 : (0 : Int) < (n : Int) := by omega
              go_wp2_with fail
              refine post_put10 (HI.out.bTs false) rfl fun wz hb2 hgz => ?_
              have d0 := hb2.cell 0
              have d1 := hb2.cell 1
              have d2 := hb2.cell 2
              have d3 := hb2.cell 3
              have d4 := hb2.cell 4
              have d5 := hb2.cell 5
              have d6 := hb2.cell 6
              have d7 := hb2.cell 7
              have d8 := hb2.cell 8
              have d9 := hb2.cell 9
              simp only [List.getElem?_toArray, List.getElem?_cons_zero, List.getElem?_cons_succ] at d0 d1 d2 d3 d4 d5 d6 d7 d8 d9
              refine bodyPost_ret (v := RR.val ({ (zeroR 0) with eof := false } : RR) (.slice none 0 0) (.slice none 0 0)) (by simp [results, Tryd.results11, go_sem, d0, d1, d2, d3, d4, d5, d6, d7, d8, d9]; rfl) rfl ?_
              rw [HF.out, show goodKB _ r = ({ (zeroR 0) with eof := false } : RR) from rfl]
              have hfin := HI.out.fin (by omega) hgz
              exact ⟨_, _, rfl, hfin.1, hfin.2.1, hfin.2.2⟩
          · rcases Nat.eq_zero_or_pos n with h0 | h0
            · subst h0
              go_wp2_with fail
              refine post_put10 (HI.out.bTs false) rfl fun wz hb2 hgz => ?_
              have d0 := hb2.cell 0
              have d1 := hb2.cell 1
              have d2 := hb2.cell 2
              have d3 := hb2.cell 3
              have d4 := hb2.cell 4
              have d5 := hb2.cell 5
              have d6 := hb2.cell 6
              have d7 := hb2.cell 7
              have d8 := hb2.cell 8
              have d9 := hb2.cell 9
              simp only [List.getElem?_toArray, List.getElem?_cons_zero, List.getElem?_cons_succ] at d0 d1 d2 d3 d4 d5 d6 d7 d8 d9
              refine bodyPost_ret (v := RR.val ({ (zeroR 0) with eof := false } : RR) (.slice none 0 0) (.slice none 0 0)) (by simp [results, Tryd.results11, go_sem, d0, d1, d2, d3, d4, d5, d6, d7, d8, d9]; rfl) rfl ?_
              rw [HF.out, show goodKB _ r = ({ (zeroR 0) with eof := false } : RR) from rfl]
              have hfin := HI.out.fin (by omega) hgz
              exact ⟨_, _, rfl, hfin.1, hfin.2.1, hfin.2.2⟩
            · have h1 : (0 : Int) < (n : Int) := by omega
              go_wp2_with fail
              refine post_put10 (HI.out.bTs false) rfl fun wz hb2 hgz => ?_
              have d0 := hb2.cell 0
              have d1 := hb2.cell 1
              have d2 := hb2.cell 2
              have d3 := hb2.cell 3
              have d4 := hb2.cell 4
              have d5 := hb2.cell 5
              have d6 := hb2.cell 6
              have d7 := hb2.cell 7
              have d8 := hb2.cell 8
              have d9 := hb2.cell 9
              simp only [List.getElem?_toArray, List.getElem?_cons_zero, List.getElem?_cons_succ] at d0 d1 d2 d3 d4 d5 d6 d7 d8 d9
              refine bodyPost_ret (v := RR.val ({ (zeroR 0) with eof := false } : RR) (.slice none 0 0) (.slice none 0 0)) (by simp [results, Tryd.results11, go_sem, d0, d1, d2, d3, d4, d5, d6, d7, d8, d9]; rfl) rfl ?_
              rw [HF.out, show goodKB _ r = ({ (zeroR 0) with eof := false } : RR) from rfl]
              have hfin := HI.out.fin (by omega) hgz
              exact ⟨_, _, rfl, hfin.1, hfin.2.1, hfin.2.2⟩
      · go_wp2_with fail
        go_loopw [8] (fun i wr => ∃ k : Nat, k ≤ n ∧ k ≤ 5 ∧ i = .int .i64 k ∧ ∃ vx, GdI w w.heap.size X r (.slice Au r.dl.length cu) (.slice Av n cv) ({ zeroR 0 with el := (r.el.take k).map goodEnt } : RR) (.slice none 0 0) vx wr) (fun i _ => 5 - (intOf i).toNat)
        case atStart => exact ⟨0, Nat.zero_le _, by omega, rfl, _, HI.out⟩
        case round =>
          obtain ⟨k, hk, hk5, rfl, vx, hI⟩ := hrel
          clear lR lX fX r0 r1 r2 r3 r4 r5 r6 r7 r8 r9 x0 x1 x2 x3 x4 x5 x6 x7 x8 x9 HI
          obtain ⟨Al, cl, rfl, _, _, _⟩ := hI.oe.shape
          have hll : ((r.el.take k).map goodEnt).length ≤ 5 := by rw [List.length_map, List.length_take]; omega
          generalize hls : (r.el.take k).map goodEnt = ls at *
          have HLS := hide hls
          have HI := hide hI
          clear hls hI
          have lR := HI.out.bR.lt
          have lX := HI.out.bX.lt
          obtain ⟨r0, r1, r2, r3, r4, r5, r6, r7, r8, r9⟩ := Blk.res HI.out.bR
          have x0 : wr.cell? ⟨X, 0, none⟩ = some (.int .i64 0) := HI.out.bX.cell 0
          have x1 : wr.cell? ⟨X, 1, none⟩ = some (.int .i64 0) := HI.out.bX.cell 1
          have x2 : wr.cell? ⟨X, 2, none⟩ = some (.int .i64 0) := HI.out.bX.cell 2
          have x3 : wr.cell? ⟨X, 3, none⟩ = some (.int .i64 0) := HI.out.bX.cell 3
          have x4 : wr.cell? ⟨X, 4, none⟩ = some (.int .i64 0) := HI.out.bX.cell 4
          have x5 : wr.cell? ⟨X, 5, none⟩ = some (.int .i64 0) := HI.out.bX.cell 5
          have x6 : wr.cell? ⟨X, 6, none⟩ = some (.slice none 0 0) := HI.out.bX.cell 6
          have x7 : wr.cell? ⟨X, 7, none⟩ = some (.int .i64 0) := HI.out.bX.cell 7
          have x8 : wr.cell? ⟨X, 8, none⟩ = some (.bool false) := HI.out.bX.cell 8
          have x9 : wr.cell? ⟨X, 9, none⟩ = some (.slice Al ls.length cl) := HI.out.bX.cell 9
          have fX := HI.out.bX.frozen
          by_cases hlt : k < n
          case neg =>
            obtain rfl : k = n := by omega
            have hfin : ls = (r.el.take 5).map goodEnt := by
              rw [← HLS.out]
              rw [show r.el.take k = r.el.take 5 from ?hh]
              case hh => rw [List.take_of_length_le (by rw [HN.out]; exact Nat.le_refl _), List.take_of_length_le (by rw [HN.out]; omega)]
            have HFN := hide hfin
            clear hfin
            have lT := HI.out.bT.lt
            have z0 : wr.cell? ⟨w.heap.size + 1, 0, none⟩ = some (.int .i64 0) := HI.out.bT.cell 0
            have z1 : wr.cell? ⟨w.heap.size + 1, 1, none⟩ = some (.int .i64 0) := HI.out.bT.cell 1
            have z2 : wr.cell? ⟨w.heap.size + 1, 2, none⟩ = some (.int .i64 0) := HI.out.bT.cell 2
            have z3 : wr.cell? ⟨w.heap.size + 1, 3, none⟩ = some (.int .i64 0) := HI.out.bT.cell 3
            have z4 : wr.cell? ⟨w.heap.size + 1, 4, none⟩ = some (.int .i64 0) := HI.out.bT.cell 4
            have z5 : wr.cell? ⟨w.heap.size + 1, 5, none⟩ = some (.int .i64 0) := HI.out.bT.cell 5
            have z6 : wr.cell? ⟨w.heap.size + 1, 6, none⟩ = some (.slice none 0 0) := HI.out.bT.cell 6
            have z7 : wr.cell? ⟨w.heap.size + 1, 7, none⟩ = some (.int .i64 0) := HI.out.bT.cell 7
            have z8 : wr.cell? ⟨w.heap.size + 1, 8, none⟩ = some (.bool false) := HI.out.bT.cell 8
            have z9 : wr.cell? ⟨w.heap.size + 1, 9, none⟩ = some (.slice none 0 0) := HI.out.bT.cell 9
            have fT := HI.out.bT.frozen
            obtain ⟨bq, hbq⟩ : ∃ bq, r.eof = bq := ⟨_, rfl⟩
            rw [hbq] at r8
            have HBQ := hide hbq
            clear hbq
            cases bq
            · go_wp2_with fail
              refine post_put10 (HI.out.bTs false) rfl fun wz hb2 hgz => ?_
              have d0 := hb2.cell 0
              have d1 := hb2.cell 1
              have d2 := hb2.cell 2
              have d3 := hb2.cell 3
              have d4 := hb2.cell 4
              have d5 := hb2.cell 5
              have d6 := hb2.cell 6
              have d7 := hb2.cell 7
              have d8 := hb2.cell 8
              have d9 := hb2.cell 9
              simp only [List.getElem?_toArray, List.getElem?_cons_zero, List.getElem?_cons_succ] at d0 d1 d2 d3 d4 d5 d6 d7 d8 d9
              refine bodyPost_ret (v := RR.val ({ ({ zeroR 0 with el := ls } : RR) with eof := false } : RR) (.slice none 0 0) (.slice Al ls.length cl)) (by simp [results, Tryd.results11, go_sem, d0, d1, d2, d3, d4, d5, d6, d7, d8, d9]; rfl) rfl ?_
              rw [HF.out, show goodKB _ r = ({ ({ zeroR 0 with el := ls } : RR) with eof := false } : RR) from (by unfold goodKB; rw [HBQ.out, HFN.out]; try rfl)]
              have hfin := HI.out.fin (by omega) hgz
              exact ⟨_, _, rfl, hfin.1, hfin.2.1, hfin.2.2⟩
            · go_wp2_with fail
              refine post_put10 (HI.out.bTs true) rfl fun wz hb2 hgz => ?_
              have d0 := hb2.cell 0
              have d1 := hb2.cell 1
              have d2 := hb2.cell 2
              have d3 := hb2.cell 3
              have d4 := hb2.cell 4
              have d5 := hb2.cell 5
              have d6 := hb2.cell 6
              have d7 := hb2.cell 7
              have d8 := hb2.cell 8
              have d9 := hb2.cell 9
              simp only [List.getElem?_toArray, List.getElem?_cons_zero, List.getElem?_cons_succ] at d0 d1 d2 d3 d4 d5 d6 d7 d8 d9
              refine bodyPost_ret (v := RR.val ({ ({ zeroR 0 with el := ls } : RR) with eof := true } : RR) (.slice none 0 0) (.slice Al ls.length cl)) (by simp [results, Tryd.results11, go_sem, d0, d1, d2, d3, d4, d5, d6, d7, d8, d9]; rfl) rfl ?_
              rw [HF.out, show goodKB _ r = ({ ({ zeroR 0 with el := ls } : RR) with eof := true } : RR) from (by unfold goodKB; rw [HBQ.out, HFN.out]; try rfl)]
              have hfin := HI.out.fin (by omega) hgz
              exact ⟨_, _, rfl, hfin.1, hfin.2.1, hfin.2.2⟩
          case pos =>
            have hkI : (k : Int) < (n : Int) := by omega
            by_cases hlt5 : k < 5
            case neg =>
              obtain rfl : k = 5 := by omega
              have hfin : ls = (r.el.take 5).map goodEnt := by
                rw [← HLS.out]
              have HFN := hide hfin
              clear hfin
              have lT := HI.out.bT.lt
              have z0 : wr.cell? ⟨w.heap.size + 1, 0, none⟩ = some (.int .i64 0) := HI.out.bT.cell 0
              have z1 : wr.cell? ⟨w.heap.size + 1, 1, none⟩ = some (.int .i64 0) := HI.out.bT.cell 1
              have z2 : wr.cell? ⟨w.heap.size + 1, 2, none⟩ = some (.int .i64 0) := HI.out.bT.cell 2
              have z3 : wr.cell? ⟨w.heap.size + 1, 3, none⟩ = some (.int .i64 0) := HI.out.bT.cell 3
              have z4 : wr.cell? ⟨w.heap.size + 1, 4, none⟩ = some (.int .i64 0) := HI.out.bT.cell 4
              have z5 : wr.cell? ⟨w.heap.size + 1, 5, none⟩ = some (.int .i64 0) := HI.out.bT.cell 5
              have z6 : wr.cell? ⟨w.heap.size + 1, 6, none⟩ = some (.slice none 0 0) := HI.out.bT.cell 6
              have z7 : wr.cell? ⟨w.heap.size + 1, 7, none⟩ = some (.int .i64 0) := HI.out.bT.cell 7
              have z8 : wr.cell? ⟨w.heap.size + 1, 8, none⟩ = some (.bool false) := HI.out.bT.cell 8
              have z9 : wr.cell? ⟨w.heap.size + 1, 9, none⟩ = some (.slice none 0 0) := HI.out.bT.cell 9
              have fT := HI.out.bT.frozen
              obtain ⟨bq, hbq⟩ : ∃ bq, r.eof = bq := ⟨_, rfl⟩
              rw [hbq] at r8
              have HBQ := hide hbq
              clear hbq
              cases bq
              · go_wp2_with fail
                refine post_put10 (HI.out.bTs false) rfl fun wz hb2 hgz => ?_
                have d0 := hb2.cell 0
                have d1 := hb2.cell 1
                have d2 := hb2.cell 2
                have d3 := hb2.cell 3
                have d4 := hb2.cell 4
                have d5 := hb2.cell 5
                have d6 := hb2.cell 6
                have d7 := hb2.cell 7
                have d8 := hb2.cell 8
                have d9 := hb2.cell 9
                simp only [List.getElem?_toArray, List.getElem?_cons_zero, List.getElem?_cons_succ] at d0 d1 d2 d3 d4 d5 d6 d7 d8 d9
                refine bodyPost_ret (v := RR.val ({ ({ zeroR 0 with el := ls } : RR) with eof := false } : RR) (.slice none 0 0) (.slice Al ls.length cl)) (by simp [results, Tryd.results11, go_sem, d0, d1, d2, d3, d4, d5, d6, d7, d8, d9]; rfl) rfl ?_
                rw [HF.out, show goodKB _ r = ({ ({ zeroR 0 with el := ls } : RR) with eof := false } : RR) from (by unfold goodKB; rw [HBQ.out, HFN.out]; try rfl)]
                have hfin := HI.out.fin (by omega) hgz
                exact ⟨_, _, rfl, hfin.1, hfin.2.1, hfin.2.2⟩
              · go_wp2_with fail
                refine post_put10 (HI.out.bTs true) rfl fun wz hb2 hgz => ?_
                have d0 := hb2.cell 0
                have d1 := hb2.cell 1
                have d2 := hb2.cell 2
                have d3 := hb2.cell 3
                have d4 := hb2.cell 4
                have d5 := hb2.cell 5
                have d6 := hb2.cell 6
                have d7 := hb2.cell 7
                have d8 := hb2.cell 8
                have d9 := hb2.cell 9
                simp only [List.getElem?_toArray, List.getElem?_cons_zero, List.getElem?_cons_succ] at d0 d1 d2 d3 d4 d5 d6 d7 d8 d9
                refine bodyPost_ret (v := RR.val ({ ({ zeroR 0 with el := ls } : RR) with eof := true } : RR) (.slice none 0 0) (.slice Al ls.length cl)) (by simp [results, Tryd.results11, go_sem, d0, d1, d2, d3, d4, d5, d6, d7, d8, d9]; rfl) rfl ?_
                rw [HF.out, show goodKB _ r = ({ ({ zeroR 0 with el := ls } : RR) with eof := true } : RR) from (by unfold goodKB; rw [HBQ.out, HFN.out]; try rfl)]
                have hfin := HI.out.fin (by omega) hgz
                exact ⟨_, _, rfl, hfin.1, hfin.2.1, hfin.2.2⟩
            case pos =>
              have hk5I : (k : Int) < 5 := by omega
              obtain ⟨e, he⟩ : ∃ e, r.el[k]? = some e := ⟨_, List.getElem?_eq_getElem (by rw [HN.out]; exact hlt)⟩
              cases Av with
              | none => have := (HNV.out rfl).1; omega
              | some a1 =>
              obtain ⟨g1, rfl, _, l1⟩ := HAV.out _ rfl
              obtain ⟨y0, y1, y2⟩ := OwnE.cell HI.out.ok.e he
              obtain ⟨⟨j1, j2⟩, ⟨j3, j4⟩⟩ := HEN.out e (List.mem_of_getElem? he)
              have lg : g1 < wr.heap.size := Nat.lt_of_lt_of_le l1 HI.out.g.size
              have HE1 := hide he
              clear he
              go_wp2_with fail
              refine Reg.wp_reg [0, 1, 0, 4, 0, 28, 60, 124, 252, 508, 0, 1024, 0, 7168, 15360, 31744, 65532, 131068, 262140, 524287, 1048575, 2097151] [(0, .W), (1, .H), (2, .W), (3, .H), (4, .W), (5, .W), (6, .W), (7, .W), (8, .H), (9, .E true), (10, .W), (11, .H), (12, .W), (13, .W), (14, .W), (15, .H), (16, .E true), (17, .W), (18, .E true), (19, .E false), (20, .W), (21, .E false)] (Reg.Old _) (by kernel_rfl) (by kernel_rfl) (fun _ => Reg.Old.drew (Reg.Old.refl _)) ?_
              repeat (first | (refine Reg.wpC_W rfl (fun K hK => ?_); go_simp; refine hK _ ?_; clear hK K) | (refine Reg.wpC_H2 rfl rfl (fun K hK => ?_); apply Exists.intro; refine ⟨fun w' hS => ?_, ?_⟩; (have hS2 := hS.2; clear hS; go_simp; first | done | rfl); go_simp; refine hK _ ?_; clear hK K) | (refine Reg.wpC_N rfl rfl (fun K hK => ?_); go_simp; refine hK _ ?_; clear hK K))
              refine Reg.wpC_E rfl (fun K hK => ?_)
              go_simp
              refine (of_c15 e.ino _ j1 j2).mono ?_
              rintro ee w5 ⟨rfl, hg5⟩
              have HO5 := hide ((Reg.Old.refl wr).drew.grown hg5)
              have HI5 := hide (HI.out.grown (gb_trans (gb_drew (gb_refl _ none)) hg5))
              clear hg5
              refine hK _ _ (fun _ => HO5.out) ?_
              clear hK K
              repeat (first | (refine Reg.wpC_W rfl (fun K hK => ?_); go_simp; refine hK _ ?_; clear hK K) | (refine Reg.wpC_H2 rfl rfl (fun K hK => ?_); apply Exists.intro; refine ⟨fun w' hS => ?_, ?_⟩; (have hS2 := hS.2; clear hS; go_simp; first | done | rfl); go_simp; refine hK _ ?_; clear hK K) | (refine Reg.wpC_N rfl rfl (fun K hK => ?_); go_simp; refine hK _ ?_; clear hK K))
              refine Reg.wpC_E rfl (fun K hK => ?_)
              go_simp
              refine (low_c15 e.ino e.gen _ j1 j2 j3 j4).mono ?_
              rintro ee w6 ⟨rfl, hg6⟩
              have HO6 := hide (HO5.out.grown hg6)
              have HI6 := hide (HI5.out.grown hg6)
              clear hg6 HO5 HI5
              refine hK _ _ (fun _ => HO6.out) ?_
              clear hK K
              repeat (first | (refine Reg.wpC_W rfl (fun K hK => ?_); go_simp; refine hK _ ?_; clear hK K) | (refine Reg.wpC_H2 rfl rfl (fun K hK => ?_); apply Exists.intro; refine ⟨fun w' hS => ?_, ?_⟩; (have hS2 := hS.2; clear hS; go_simp; first | done | rfl); go_simp; refine hK _ ?_; clear hK K) | (refine Reg.wpC_N rfl rfl (fun K hK => ?_); go_simp; refine hK _ ?_; clear hK K))
              refine Reg.wpC_E rfl (fun K hK => ?_)
              go_simp
              refine hK _ _ (fun _ => HO6.out.alloc _) ?_
              clear hK K
              repeat (first | (refine Reg.wpC_W rfl (fun K hK => ?_); go_simp; refine hK _ ?_; clear hK K) | (refine Reg.wpC_H2 rfl rfl (fun K hK => ?_); apply Exists.intro; refine ⟨fun w' hS => ?_, ?_⟩; (have hS2 := hS.2; clear hS; go_simp; first | done | rfl); go_simp; refine hK _ ?_; clear hK K) | (refine Reg.wpC_N rfl rfl (fun K hK => ?_); go_simp; refine hK _ ?_; clear hK K))
              have hO' := HI6.out.oe.grown (gb_alloc (gb_refl w6 none) (.cells #[.string (ofN e.ino), .int .i64 (lowN e.ino), .int .i64 (lowN e.gen)] tEnt))
              have hbn := Blk.new w6 tEnt #[.string (ofN e.ino), .int .i64 (lowN e.ino), .int .i64 (lowN e.gen)]
              have hgw := HI6.out.g.size
              refine Reg.wpC_E rfl (fun K hK => ?_)
              refine if_wanted rfl ?_
              refine app_wpE _ _ rfl w.heap.size _ ls (goodEnt e) w6.heap.size 1 1 rfl rfl rfl hO' ⟨hbn.cell 0, hbn.cell 1, hbn.cell 2⟩ (by omega) (by simp; omega) ?_
              intro A7 n7 c7 w7 ho7 hn7 hg7
              subst hn7
              have h7 := (HI6.out.grown (gb_alloc (gb_refl w6 none) (.cells #[.string (ofN e.ino), .int .i64 (lowN e.ino), .int .i64 (lowN e.gen)] tEnt))).own hO' (fun k hk => by cases hk; exact l1) hg7 (.inl rfl)
              have H7 := hide h7
              have HO7 := hide ho7
              have lX7 := h7.2.2.2.1.lt
              have x97 : w7.cell? ⟨X, 9, none⟩ = some (.slice Al ls.length cl) := h7.2.2.2.1.cell 9
              have fX7 := h7.2.2.2.1.frozen
              clear hO' hbn ho7 hg7 h7 x0 x1 x2 x3 x4 x5 x6 x7 x8 x9 r0 r1 r2 r3 r4 r5 r6 r7 r8 r9 fX y0 y1 y2
              refine hK _ _ (fun h => by cases h) ?_
              clear hK K
              repeat (first | (refine Reg.wpC_W rfl (fun K hK => ?_); go_simp; refine hK _ ?_; clear hK K) | (refine Reg.wpC_H2 rfl rfl (fun K hK => ?_); apply Exists.intro; refine ⟨fun w' hS => ?_, ?_⟩; (have hS2 := hS.2; clear hS; go_simp; first | done | rfl); go_simp; refine hK _ ?_; clear hK K) | (refine Reg.wpC_N rfl rfl (fun K hK => ?_); go_simp; refine hK _ ?_; clear hK K))
              refine Reg.wpC_E rfl (fun K hK => ?_)
              go_simp
              refine hK _ _ (fun h => by cases h) ?_
              clear hK K
              refine Reg.wpC_nil ?_
              go_wp2_with fail
              go_roundw
              case rel =>
                refine ⟨k + 1, by omega, by omega, by go_num, .slice A7 (ls.length + 1) c7, ?_⟩
                rw [List.take_add_one, HE1.out, List.map_append, HLS.out]
                exact GdI.app (x := ({ zeroR 0 with el := ls } : RR)) H7.out HO7.out HI6.out.le HI6.out.ne
              case measure => simp [intOf]; omega
end Go.Tr
