/- answers.May: which answers may be. No condition. Printed by gen_amay.py. -/
import Derived.Test.YtdbacbhopkdhgaaDoorMayE
namespace Go.Tr
open Go.RowKit Go.Proofs
set_option linter.unusedVariables false
def zAtt : Att := ⟨0, 0, 0, 0, 0⟩
def kindN (p : Int) : Nat := if p ∈ procN then (if p = 6 then 2 else if p = 7 then 3 else if p = 12 ∨ p = 13 ∨ p = 14 then 4 else if p = 16 then 5 else 1) else 0
def mayKB (k : Nat) (r : RR) : Bool :=
  match k with
  | 0 => false
  | 1 => mayAttB r.att && sameR { r with att := zAtt } (zeroR 0)
  | 2 => (decide (r.dl.length ≤ 2048) && decide (r.count = (r.dl.length : Int))) && sameR { r with dl := [], count := 0, eof := false } (zeroR 0)
  | 3 => (wordB r.count && mayAttB r.att) && sameR { r with count := 0, att := zAtt } (zeroR 0)
  | 5 => mayEntsB r.el && sameR { r with el := [], eof := false } (zeroR 0)
  | _ => sameR r (zeroR 0)
def mayR (p : Int) (r : RR) : Bool := decide (p ∈ procN) && (decide (r.errno ∈ errL) && (if r.errno = 0 then mayKB (kindN p) r else sameR r (zeroR r.errno)))
theorem zero_ok (e : Int) (w : World) : (zeroR e).ok w (.slice none 0 0) (.slice none 0 0) := ⟨BS.nil w, ES.nil w⟩
theorem RR.ok.set {w : World} {r : RR} {u v : Value} {X i : Nat} {z : Value} {t : TypeId} {cs : Array Value} (h : r.ok w u v) (hb : Blk w X t cs) (h1 : t ≠ tU8) (h2 : t ≠ tEnt) : r.ok (w.setCell ⟨X, i, none⟩ z) u v :=
  ⟨BS.set h.d hb h1 i z, OwnE.kept h.e (gb_set (gb_refl _ _) i z) (fun k hk => by cases hk; exact ⟨t, cs, hb, h2⟩)⟩
theorem Blk.res {w : World} {g : Nat} {r : RR} {u v : Value} (h : Blk w g tRes (r.cells u v).toArray) : w.cell? ⟨g, 0, none⟩ = some (.int .i64 r.errno) ∧ w.cell? ⟨g, 1, none⟩ = some (.int .i64 r.att.ino) ∧ w.cell? ⟨g, 2, none⟩ = some (.int .i64 r.att.gen) ∧ w.cell? ⟨g, 3, none⟩ = some (.int .i64 r.att.kind) ∧ w.cell? ⟨g, 4, none⟩ = some (.int .i64 r.att.mode) ∧ w.cell? ⟨g, 5, none⟩ = some (.int .i64 r.att.size) ∧ w.cell? ⟨g, 6, none⟩ = some u ∧ w.cell? ⟨g, 7, none⟩ = some (.int .i64 r.count) ∧ w.cell? ⟨g, 8, none⟩ = some (.bool r.eof) ∧ w.cell? ⟨g, 9, none⟩ = some v :=
  ⟨h.cell 0, h.cell 1, h.cell 2, h.cell 3, h.cell 4, h.cell 5, h.cell 6, h.cell 7, h.cell 8, h.cell 9⟩
structure MayI (w : World) (R X : Nat) (r : RR) (u v : Value) (wr : World) : Prop where
  g : w.grownBy wr none
  bR : Blk wr R tRes (r.cells u v).toArray
  bX : Blk wr X tRes (r.cells u v).toArray
  ok : r.ok wr u v
  le : w.heap.size ≤ X
  ne : R < X
theorem MayI.grown {w : World} {R X : Nat} {r : RR} {u v : Value} {wr w' : World} (h : MayI w R X r u v wr) (hg : wr.grownBy w' none) : MayI w R X r u v w' :=
  ⟨gb_trans h.g hg, h.bR.grown hg (by simp), h.bX.grown hg (by simp), h.ok.grown hg, h.le, h.ne⟩
theorem RR.ok.keptX {w w' : World} {r r' : RR} {u v : Value} {X : Nat} {cs : Array Value} (h : r.ok w u v) (hg : w.grownBy w' (some X)) (hb : Blk w X tRes cs) (h1 : r'.dl = r.dl := by rfl) (h2 : r'.el = r.el := by rfl) : r'.ok w' u v :=
  ⟨by rw [h1]; exact h.d.kept hg (fun k hk => by cases hk; exact ⟨tRes, cs, hb, by decide⟩), by rw [h2]; exact OwnE.kept h.e hg (fun k hk => by cases hk; exact ⟨tRes, cs, hb, by decide⟩)⟩
theorem RR.ok.noD {w : World} {r r' : RR} {u v : Value} (h : r.ok w u v) (h1 : r'.dl = [] := by rfl) (h2 : r'.el = r.el := by rfl) : r'.ok w (.slice none 0 0) v := ⟨by rw [h1]; exact BS.nil w, by rw [h2]; exact h.e⟩
theorem RR.ok.noE {w : World} {r r' : RR} {u v : Value} (h : r.ok w u v) (h1 : r'.dl = r.dl := by rfl) (h2 : r'.el = [] := by rfl) : r'.ok w u (.slice none 0 0) := ⟨by rw [h1]; exact h.d, by rw [h2]; exact ES.nil w⟩
/-- sizes of an answer -/
structure RR.small (r : RR) : Prop where
  d : r.dl.length ≤ 1000000
  e : r.el.length ≤ 1000000
  n : ∀ e ∈ r.el, e.name.size ≤ 1000000
set_option maxRecDepth 20000 in
set_option maxHeartbeats 4000000 in
theorem amay_c (p : Int) (r : RR) (u v : Value) (w : World) (ha : r.ok w u v) (hs : r.small) (ht : Tab w) : Calls Tryd.prog 15 #[.int .i64 p, r.val u v] w fun e w' => e = .returned (.bool (mayR p r)) ∧ w.grownBy w' none := by
  obtain ⟨b, hb⟩ : ∃ b, mayR p r = b := ⟨_, rfl⟩
  have HB := hide hb
  rw [hb]
  clear hb
  obtain ⟨Au, cu, rfl, _⟩ := id ha.d
  obtain ⟨Av, cv, rfl, _⟩ := OwnE.shape ha.e
  have HA := hide ha
  have HT := hide ht
  have HS := hide hs
  clear ha ht hs
  have bR : Blk (w.alloc (.cells (r.cells (.slice Au r.dl.length cu) (.slice Av r.el.length cv)).toArray tRes)) w.heap.size tRes (r.cells (.slice Au r.dl.length cu) (.slice Av r.el.length cv)).toArray := Blk.new _ _ _
  have HR := hide bR
  have hg0 := gb_alloc (gb_refl w none) (.cells (r.cells (.slice Au r.dl.length cu) (.slice Av r.el.length cv)).toArray tRes)
  have HG0 := hide hg0
  clear bR hg0
  unfold RR.val RR.cells
  go_enter Tryd.func15, Tryd.ntmps15
  go_wp2_with fail
  refine Reg.wp_reg [0, 1, 3, 7, 15, 15, 47, 127, 255, 511] [(0, .W), (1, .E true), (2, .W), (3, .W), (4, .E true), (5, .W), (6, .H), (7, .E false), (8, .W), (9, .W)] (Reg.Old _) (by kernel_rfl) (by kernel_rfl) (fun _ => Reg.Old.drew (Reg.Old.refl _)) ?_
  repeat (first | (refine Reg.wpC_W rfl (fun K hK => ?_); go_simp; refine hK _ ?_; clear hK K) | (refine Reg.wpC_H2 rfl rfl (fun K hK => ?_); apply Exists.intro; refine ⟨fun w' hS => ?_, ?_⟩; (have hS2 := hS.2; clear hS; go_simp; first | done | rfl); go_simp; refine hK _ ?_; clear hK K) | (refine Reg.wpC_N rfl rfl (fun K hK => ?_); go_simp; refine hK _ ?_; clear hK K))
  refine Reg.wpC_E rfl (fun K hK => ?_)
  go_simp
  refine (known_c p _).mono ?_
  rintro e w1 ⟨rfl, hg1⟩
  obtain ⟨bp, hbp⟩ : ∃ bp, decide (p ∈ procN) = bp := ⟨_, rfl⟩
  have HBP := hide hbp
  rw [hbp]
  clear hbp
  have g1 := gb_trans (gb_drew HG0.out) hg1
  have o1 := (Reg.Old.drew (Reg.Old.refl _)).grown hg1
  have HG1 := hide (And.intro g1 (And.intro (HR.out.drew.grown hg1 (by simp)) (And.intro (HA.out.grown g1) o1)))
  clear hg1 g1 HG0 HR o1
  cases bp
  · have hfin : mayR p r = false := by unfold mayR; rw [HBP.out]; rfl
    have HF := hide hfin
    clear hfin
    refine hK _ _ (fun _ => HG1.out.2.2.2) ?_
    clear hK K
    repeat (first | (refine Reg.wpC_W rfl (fun K hK => ?_); go_simp; refine hK _ ?_; clear hK K) | (refine Reg.wpC_H2 rfl rfl (fun K hK => ?_); apply Exists.intro; refine ⟨fun w' hS => ?_, ?_⟩; (have hS2 := hS.2; clear hS; go_simp; first | done | rfl); go_simp; refine hK _ ?_; clear hK K) | (refine Reg.wpC_N rfl rfl (fun K hK => ?_); go_simp; refine hK _ ?_; clear hK K))
    refine Reg.wpC_E rfl (fun K hK => ?_)
    go_simp
    refine hK _ _ (fun _ => HG1.out.2.2.2) ?_
    clear hK K
    repeat (first | (refine Reg.wpC_W rfl (fun K hK => ?_); go_simp; refine hK _ ?_; clear hK K) | (refine Reg.wpC_H2 rfl rfl (fun K hK => ?_); apply Exists.intro; refine ⟨fun w' hS => ?_, ?_⟩; (have hS2 := hS.2; clear hS; go_simp; first | done | rfl); go_simp; refine hK _ ?_; clear hK K) | (refine Reg.wpC_N rfl rfl (fun K hK => ?_); go_simp; refine hK _ ?_; clear hK K))
    refine Reg.wpC_E rfl (fun K hK => ?_)
    go_simp
    refine hK _ _ (fun h => by cases h) ?_
    clear hK K
    repeat (first | (refine Reg.wpC_W rfl (fun K hK => ?_); go_simp; refine hK _ ?_; clear hK K) | (refine Reg.wpC_H2 rfl rfl (fun K hK => ?_); apply Exists.intro; refine ⟨fun w' hS => ?_, ?_⟩; (have hS2 := hS.2; clear hS; go_simp; first | done | rfl); go_simp; refine hK _ ?_; clear hK K) | (refine Reg.wpC_N rfl rfl (fun K hK => ?_); go_simp; refine hK _ ?_; clear hK K))
    refine Reg.wpC_nil ?_
    go_wp2_with fail
    go_ret
    exact ⟨ret_b (by rw [← HB.out, HF.out]), HG1.out.1⟩
  refine hK _ _ (fun _ => HG1.out.2.2.2) ?_
  clear hK K
  repeat (first | (refine Reg.wpC_W rfl (fun K hK => ?_); go_simp; refine hK _ ?_; clear hK K) | (refine Reg.wpC_H2 rfl rfl (fun K hK => ?_); apply Exists.intro; refine ⟨fun w' hS => ?_, ?_⟩; (have hS2 := hS.2; clear hS; go_simp; first | done | rfl); go_simp; refine hK _ ?_; clear hK K) | (refine Reg.wpC_N rfl rfl (fun K hK => ?_); go_simp; refine hK _ ?_; clear hK K))
  refine Reg.wpC_E rfl (fun K hK => ?_)
  go_simp
  refine (all_c _ (HT.out.grown HG1.out.1)).mono ?_
  rintro e w2 ⟨va, rfl, hva, hg2⟩
  rw [errV_eq] at hva
  have HVA := hide (hva.lower (Nat.zero_le _))
  have HG2 := hide (And.intro (gb_trans HG1.out.1 hg2) (And.intro (HG1.out.2.1.grown hg2 (by simp)) (And.intro (HG1.out.2.2.1.grown hg2) (HG1.out.2.2.2.grown hg2))))
  clear hva hg2 HG1
  refine hK _ _ (fun _ => HG2.out.2.2.2) ?_
  clear hK K
  repeat (first | (refine Reg.wpC_W rfl (fun K hK => ?_); go_simp; refine hK _ ?_; clear hK K) | (refine Reg.wpC_H2 rfl rfl (fun K hK => ?_); apply Exists.intro; refine ⟨fun w' hS => ?_, ?_⟩; (have hS2 := hS.2; clear hS; go_simp; first | done | rfl); go_simp; refine hK _ ?_; clear hK K) | (refine Reg.wpC_N rfl rfl (fun K hK => ?_); go_simp; refine hK _ ?_; clear hK K))
  refine Reg.wpC_E rfl (fun K hK => ?_)
  go_simp
  refine (errHas_c _ errL r.errno _ HVA.out (by decide)).mono ?_
  rintro e w3 ⟨rfl, rfl⟩
  obtain ⟨be, hbe⟩ : ∃ be, decide (r.errno ∈ errL) = be := ⟨_, rfl⟩
  have HBE := hide hbe
  rw [hbe]
  clear hbe
  refine hK _ _ (fun h => by cases h) ?_
  clear hK K
  cases be
  · have hfin : mayR p r = false := by unfold mayR; rw [HBP.out, HBE.out]; rfl
    have HF := hide hfin
    clear hfin
    repeat (first | (refine Reg.wpC_W rfl (fun K hK => ?_); go_simp; refine hK _ ?_; clear hK K) | (refine Reg.wpC_H2 rfl rfl (fun K hK => ?_); apply Exists.intro; refine ⟨fun w' hS => ?_, ?_⟩; (have hS2 := hS.2; clear hS; go_simp; first | done | rfl); go_simp; refine hK _ ?_; clear hK K) | (refine Reg.wpC_N rfl rfl (fun K hK => ?_); go_simp; refine hK _ ?_; clear hK K))
    refine Reg.wpC_nil ?_
    go_wp2_with fail
    go_ret
    exact ⟨ret_b (by rw [← HB.out, HF.out]), HG2.out.1⟩
  repeat (first | (refine Reg.wpC_W rfl (fun K hK => ?_); go_simp; refine hK _ ?_; clear hK K) | (refine Reg.wpC_H2 rfl rfl (fun K hK => ?_); apply Exists.intro; refine ⟨fun w' hS => ?_, ?_⟩; (have hS2 := hS.2; clear hS; go_simp; first | done | rfl); go_simp; refine hK _ ?_; clear hK K) | (refine Reg.wpC_N rfl rfl (fun K hK => ?_); go_simp; refine hK _ ?_; clear hK K))
  refine Reg.wpC_nil ?_
  have lR := HG2.out.2.1.lt
  obtain ⟨r0, r1, r2, r3, r4, r5, r6, r7, r8, r9⟩ := Blk.res HG2.out.2.1
  by_cases hz : r.errno = 0
  case neg =>
    have hfin : mayR p r = sameR r (zeroR r.errno) := by unfold mayR; rw [HBP.out, HBE.out, if_neg hz]; rfl
    have HF := hide hfin
    have hzb : (r.errno != 0) = true := by simpa using hz
    clear hfin hz
    go_wp2_with fail
    refine (asame_c r (zeroR r.errno) _ _ _ _ _ HG2.out.2.2.1 (zero_ok _ _) HS.out.e).mono ?_
    rintro e w4 ⟨rfl, hg4⟩
    go_wp2_with fail
    go_ret
    exact ⟨ret_b (by rw [← HB.out, HF.out]), gb_trans HG2.out.1 hg4⟩
  case pos =>
    have hfin : mayR p r = mayKB (kindN p) r := by unfold mayR; rw [HBP.out, HBE.out, if_pos hz]; rfl
    have HF := hide hfin
    have hzb : (r.errno != 0) = false := by simp [hz]
    clear hfin hz
    go_wp2_with fail
    refine Reg.wp_reg [0, 0, 2, 7] [(0, .H), (1, .E true), (2, .W), (3, .E false)] (Reg.Old _) (by kernel_rfl) (by kernel_rfl) (fun _ => Reg.Old.drew (Reg.Old.refl _)) ?_
    repeat (first | (refine Reg.wpC_W rfl (fun K hK => ?_); go_simp; refine hK _ ?_; clear hK K) | (refine Reg.wpC_H2 rfl rfl (fun K hK => ?_); apply Exists.intro; refine ⟨fun w' hS => ?_, ?_⟩; (have hS2 := hS.2; clear hS; go_simp; first | done | rfl); go_simp; refine hK _ ?_; clear hK K) | (refine Reg.wpC_N rfl rfl (fun K hK => ?_); go_simp; refine hK _ ?_; clear hK K))
    refine Reg.wpC_E rfl (fun K hK => ?_)
    go_simp
    refine hK _ _ (fun _ => ((Reg.Old.refl _).alloc _).drew) ?_
    clear hK K
    repeat (first | (refine Reg.wpC_W rfl (fun K hK => ?_); go_simp; refine hK _ ?_; clear hK K) | (refine Reg.wpC_H2 rfl rfl (fun K hK => ?_); apply Exists.intro; refine ⟨fun w' hS => ?_, ?_⟩; (have hS2 := hS.2; clear hS; go_simp; first | done | rfl); go_simp; refine hK _ ?_; clear hK K) | (refine Reg.wpC_N rfl rfl (fun K hK => ?_); go_simp; refine hK _ ?_; clear hK K))
    refine Reg.wpC_E rfl (fun K hK => ?_)
    go_simp
    refine hK _ _ (fun h => by cases h) ?_
    clear hK K
    refine Reg.wpC_nil ?_
    have I0 : MayI w w.heap.size w3.heap.size r (.slice Au r.dl.length cu) (.slice Av r.el.length cv) (w3.alloc (.cells (r.cells (.slice Au r.dl.length cu) (.slice Av r.el.length cv)).toArray tRes)).drew :=
      ⟨gb_drew (gb_alloc HG2.out.1 _), (HG2.out.2.1.alloc _).drew, (Blk.new w3 tRes _).drew, (HG2.out.2.2.1.grown (gb_alloc (gb_refl _ none) _)).grown (gb_drew (gb_refl _ none)), HG2.out.1.size, lR⟩
    refine genW (C := fun wz => Exit.then _ _ _ _ wz) (I := fun wz => MayI w w.heap.size w3.heap.size r (.slice Au r.dl.length cu) (.slice Av r.el.length cv) wz) I0 fun wr I => ?_
    clear I0 r0 r1 r2 r3 r4 r5 r6 r7 r8 r9 HG2 lR
    generalize w3.heap.size = X at *
    have HI := hide I
    have lR := I.bR.lt
    have lX := I.bX.lt
    obtain ⟨r0, r1, r2, r3, r4, r5, r6, r7, r8, r9⟩ := Blk.res I.bR
    obtain ⟨x0, x1, x2, x3, x4, x5, x6, x7, x8, x9⟩ := Blk.res I.bX
    have fX := I.bX.frozen
    have hc : p = 1 ∨ p = 2 ∨ p = 3 ∨ p = 6 ∨ p = 7 ∨ p = 8 ∨ p = 9 ∨ p = 12 ∨ p = 13 ∨ p = 14 ∨ p = 16 := by have h := HBP.out; simp only [decide_eq_true_eq] at h; simpa [procN] using h
    clear I HVA
    rcases hc with rfl | rfl | rfl | rfl | rfl | rfl | rfl | rfl | rfl | rfl | rfl
    · have hk : mayKB (kindN 1) r = (mayAttB r.att && sameR { r with att := zAtt } (zeroR 0)) := rfl
      have HK := hide hk
      clear hk
      go_wp2_with fail
      refine (mayAtt_c r.att _).mono ?_
      rintro e w5 ⟨rfl, hg5⟩
      obtain ⟨bm, hbm⟩ : ∃ bm, mayAttB r.att = bm := ⟨_, rfl⟩
      have HBM := hide hbm
      rw [hbm]
      clear hbm
      have HI5 := hide (HI.out.grown hg5)
      clear hg5 r0 r1 r2 r3 r4 r5 r6 r7 r8 r9 x0 x1 x2 x3 x4 x5 x6 x7 x8 x9 fX lR lX
      have lR := HI5.out.bR.lt
      have lX := HI5.out.bX.lt
      obtain ⟨r0, r1, r2, r3, r4, r5, r6, r7, r8, r9⟩ := Blk.res HI5.out.bR
      obtain ⟨x0, x1, x2, x3, x4, x5, x6, x7, x8, x9⟩ := Blk.res HI5.out.bX
      have fX := HI5.out.bX.frozen
      cases bm
      · go_wp2_with fail
        go_ret
        exact ⟨ret_b (by rw [← HB.out, HF.out, HK.out, HBM.out]; rfl), gb_new HI5.out.g (gb_set (gb_set (gb_set (gb_set (gb_set (gb_refl _ _) _ _) _ _) _ _) _ _) _ _) HI5.out.le⟩
      · go_wp2_with fail
        refine (asame_c { r with att := zAtt } (zeroR 0) (.slice Au r.dl.length cu) (.slice Av r.el.length cv) _ _ _ (HI5.out.ok.keptX (gb_set (gb_set (gb_set (gb_set (gb_set (gb_refl _ _) _ _) _ _) _ _) _ _) _ _) HI5.out.bX) (zero_ok _ _) HS.out.e).mono ?_
        rintro e w6 ⟨rfl, hg6⟩
        have HG6 := hide (gb_trans (gb_new HI5.out.g (gb_set (gb_set (gb_set (gb_set (gb_set (gb_refl _ _) _ _) _ _) _ _) _ _) _ _) HI5.out.le) hg6)
        clear hg6
        go_wp2_with fail
        go_ret
        exact ⟨ret_b (by rw [← HB.out, HF.out, HK.out, HBM.out, Bool.true_and]), HG6.out⟩
    · have hk : mayKB (kindN 2) r = (mayAttB r.att && sameR { r with att := zAtt } (zeroR 0)) := rfl
      have HK := hide hk
      clear hk
      go_wp2_with fail
      refine (mayAtt_c r.att _).mono ?_
      rintro e w5 ⟨rfl, hg5⟩
      obtain ⟨bm, hbm⟩ : ∃ bm, mayAttB r.att = bm := ⟨_, rfl⟩
      have HBM := hide hbm
      rw [hbm]
      clear hbm
      have HI5 := hide (HI.out.grown hg5)
      clear hg5 r0 r1 r2 r3 r4 r5 r6 r7 r8 r9 x0 x1 x2 x3 x4 x5 x6 x7 x8 x9 fX lR lX
      have lR := HI5.out.bR.lt
      have lX := HI5.out.bX.lt
      obtain ⟨r0, r1, r2, r3, r4, r5, r6, r7, r8, r9⟩ := Blk.res HI5.out.bR
      obtain ⟨x0, x1, x2, x3, x4, x5, x6, x7, x8, x9⟩ := Blk.res HI5.out.bX
      have fX := HI5.out.bX.frozen
      cases bm
      · go_wp2_with fail
        go_ret
        exact ⟨ret_b (by rw [← HB.out, HF.out, HK.out, HBM.out]; rfl), gb_new HI5.out.g (gb_set (gb_set (gb_set (gb_set (gb_set (gb_refl _ _) _ _) _ _) _ _) _ _) _ _) HI5.out.le⟩
      · go_wp2_with fail
        refine (asame_c { r with att := zAtt } (zeroR 0) (.slice Au r.dl.length cu) (.slice Av r.el.length cv) _ _ _ (HI5.out.ok.keptX (gb_set (gb_set (gb_set (gb_set (gb_set (gb_refl _ _) _ _) _ _) _ _) _ _) _ _) HI5.out.bX) (zero_ok _ _) HS.out.e).mono ?_
        rintro e w6 ⟨rfl, hg6⟩
        have HG6 := hide (gb_trans (gb_new HI5.out.g (gb_set (gb_set (gb_set (gb_set (gb_set (gb_refl _ _) _ _) _ _) _ _) _ _) _ _) HI5.out.le) hg6)
        clear hg6
        go_wp2_with fail
        go_ret
        exact ⟨ret_b (by rw [← HB.out, HF.out, HK.out, HBM.out, Bool.true_and]), HG6.out⟩
    · have hk : mayKB (kindN 3) r = (mayAttB r.att && sameR { r with att := zAtt } (zeroR 0)) := rfl
      have HK := hide hk
      clear hk
      go_wp2_with fail
      refine (mayAtt_c r.att _).mono ?_
      rintro e w5 ⟨rfl, hg5⟩
      obtain ⟨bm, hbm⟩ : ∃ bm, mayAttB r.att = bm := ⟨_, rfl⟩
      have HBM := hide hbm
      rw [hbm]
      clear hbm
      have HI5 := hide (HI.out.grown hg5)
      clear hg5 r0 r1 r2 r3 r4 r5 r6 r7 r8 r9 x0 x1 x2 x3 x4 x5 x6 x7 x8 x9 fX lR lX
      have lR := HI5.out.bR.lt
      have lX := HI5.out.bX.lt
      obtain ⟨r0, r1, r2, r3, r4, r5, r6, r7, r8, r9⟩ := Blk.res HI5.out.bR
      obtain ⟨x0, x1, x2, x3, x4, x5, x6, x7, x8, x9⟩ := Blk.res HI5.out.bX
      have fX := HI5.out.bX.frozen
      cases bm
      · go_wp2_with fail
        go_ret
        exact ⟨ret_b (by rw [← HB.out, HF.out, HK.out, HBM.out]; rfl), gb_new HI5.out.g (gb_set (gb_set (gb_set (gb_set (gb_set (gb_refl _ _) _ _) _ _) _ _) _ _) _ _) HI5.out.le⟩
      · go_wp2_with fail
        refine (asame_c { r with att := zAtt } (zeroR 0) (.slice Au r.dl.length cu) (.slice Av r.el.length cv) _ _ _ (HI5.out.ok.keptX (gb_set (gb_set (gb_set (gb_set (gb_set (gb_refl _ _) _ _) _ _) _ _) _ _) _ _) HI5.out.bX) (zero_ok _ _) HS.out.e).mono ?_
        rintro e w6 ⟨rfl, hg6⟩
        have HG6 := hide (gb_trans (gb_new HI5.out.g (gb_set (gb_set (gb_set (gb_set (gb_set (gb_refl _ _) _ _) _ _) _ _) _ _) _ _) HI5.out.le) hg6)
        clear hg6
        go_wp2_with fail
        go_ret
        exact ⟨ret_b (by rw [← HB.out, HF.out, HK.out, HBM.out, Bool.true_and]), HG6.out⟩
    · have hk : mayKB (kindN 6) r = ((decide (r.dl.length ≤ 2048) && decide (r.count = (r.dl.length : Int))) && sameR { r with dl := [], count := 0, eof := false } (zeroR 0)) := rfl
      have HK := hide hk
      clear hk
      by_cases hd1 : r.dl.length ≤ 2048
      case neg =>
        have HD := hide hd1
        have hd2 : ¬ ((r.dl.length : Int) ≤ 2048) := by omega
        clear hd1
        go_wp2_with fail
        go_ret
        exact ⟨ret_b (by rw [← HB.out, HF.out, HK.out, decide_eq_false HD.out]; rfl), gb_new HI.out.g (gb_set (gb_set (gb_set (gb_refl _ _) _ _) _ _) _ _) HI.out.le⟩
      case pos =>
        have hd2 : (r.dl.length : Int) ≤ 2048 := by omega
        by_cases hd3 : r.count = (r.dl.length : Int)
        case neg =>
          have hd4 : (r.count == (r.dl.length : Int)) = false := by simpa using hd3
          have HD := hide hd3
          clear hd3
          go_wp2_with fail
          go_ret
          exact ⟨ret_b (by rw [← HB.out, HF.out, HK.out, decide_eq_false HD.out, Bool.and_false]; rfl), gb_new HI.out.g (gb_set (gb_set (gb_set (gb_refl _ _) _ _) _ _) _ _) HI.out.le⟩
        case pos =>
          have hd4 : (r.count == (r.dl.length : Int)) = true := by simpa using hd3
          have HD := hide hd3
          have HD1 := hide hd1
          clear hd3
          go_wp2_with fail
          refine (asame_c { r with dl := [], count := 0, eof := false } (zeroR 0) (.slice none 0 0) (.slice Av r.el.length cv) _ _ _ (RR.ok.noD (HI.out.ok.keptX (gb_set (gb_set (gb_set (gb_refl _ _) _ _) _ _) _ _) HI.out.bX)) (zero_ok _ _) HS.out.e).mono ?_
          rintro e w6 ⟨rfl, hg6⟩
          have HG6 := hide (gb_trans (gb_new HI.out.g (gb_set (gb_set (gb_set (gb_refl _ _) _ _) _ _) _ _) HI.out.le) hg6)
          clear hg6
          go_wp2_with fail
          go_ret
          exact ⟨ret_b (by rw [← HB.out, HF.out, HK.out, decide_eq_true HD.out, decide_eq_true HD1.out]; rfl), HG6.out⟩
    · have hk : mayKB (kindN 7) r = ((wordB r.count && mayAttB r.att) && sameR { r with count := 0, att := zAtt } (zeroR 0)) := rfl
      have HK := hide hk
      clear hk
      go_wp2_with fail
      refine (word_c15 r.count _).mono ?_
      rintro e w5 ⟨rfl, rfl⟩
      obtain ⟨bw, hbw⟩ : ∃ bw, wordB r.count = bw := ⟨_, rfl⟩
      have HBW := hide hbw
      rw [hbw]
      clear hbw
      cases bw
      · go_wp2_with fail
        go_ret
        exact ⟨ret_b (by rw [← HB.out, HF.out, HK.out, HBW.out]; rfl), gb_new HI.out.g (gb_set (gb_set (gb_set (gb_set (gb_set (gb_set (gb_refl _ _) _ _) _ _) _ _) _ _) _ _) _ _) HI.out.le⟩
      · go_wp2_with fail
        refine (mayAtt_c r.att _).mono ?_
        rintro e w5 ⟨rfl, hg5⟩
        obtain ⟨bm, hbm⟩ : ∃ bm, mayAttB r.att = bm := ⟨_, rfl⟩
        have HBM := hide hbm
        rw [hbm]
        clear hbm
        have HI5 := hide (HI.out.grown hg5)
        clear hg5 r0 r1 r2 r3 r4 r5 r6 r7 r8 r9 x0 x1 x2 x3 x4 x5 x6 x7 x8 x9 fX lR lX
        have lR := HI5.out.bR.lt
        have lX := HI5.out.bX.lt
        obtain ⟨r0, r1, r2, r3, r4, r5, r6, r7, r8, r9⟩ := Blk.res HI5.out.bR
        obtain ⟨x0, x1, x2, x3, x4, x5, x6, x7, x8, x9⟩ := Blk.res HI5.out.bX
        have fX := HI5.out.bX.frozen
        cases bm
        · go_wp2_with fail
          go_ret
          exact ⟨ret_b (by rw [← HB.out, HF.out, HK.out, HBW.out, HBM.out]; rfl), gb_new HI5.out.g (gb_set (gb_set (gb_set (gb_set (gb_set (gb_set (gb_refl _ _) _ _) _ _) _ _) _ _) _ _) _ _) HI5.out.le⟩
        · go_wp2_with fail
          refine (asame_c { r with count := 0, att := zAtt } (zeroR 0) (.slice Au r.dl.length cu) (.slice Av r.el.length cv) _ _ _ (HI5.out.ok.keptX (gb_set (gb_set (gb_set (gb_set (gb_set (gb_set (gb_refl _ _) _ _) _ _) _ _) _ _) _ _) _ _) HI5.out.bX) (zero_ok _ _) HS.out.e).mono ?_
          rintro e w6 ⟨rfl, hg6⟩
          have HG6 := hide (gb_trans (gb_new HI5.out.g (gb_set (gb_set (gb_set (gb_set (gb_set (gb_set (gb_refl _ _) _ _) _ _) _ _) _ _) _ _) _ _) HI5.out.le) hg6)
          clear hg6
          go_wp2_with fail
          go_ret
          exact ⟨ret_b (by rw [← HB.out, HF.out, HK.out, HBW.out, HBM.out, Bool.true_and, Bool.true_and]), HG6.out⟩
    · have hk : mayKB (kindN 8) r = (mayAttB r.att && sameR { r with att := zAtt } (zeroR 0)) := rfl
      have HK := hide hk
      clear hk
      go_wp2_with fail
      refine (mayAtt_c r.att _).mono ?_
      rintro e w5 ⟨rfl, hg5⟩
      obtain ⟨bm, hbm⟩ : ∃ bm, mayAttB r.att = bm := ⟨_, rfl⟩
      have HBM := hide hbm
      rw [hbm]
      clear hbm
      have HI5 := hide (HI.out.grown hg5)
      clear hg5 r0 r1 r2 r3 r4 r5 r6 r7 r8 r9 x0 x1 x2 x3 x4 x5 x6 x7 x8 x9 fX lR lX
      have lR := HI5.out.bR.lt
      have lX := HI5.out.bX.lt
      obtain ⟨r0, r1, r2, r3, r4, r5, r6, r7, r8, r9⟩ := Blk.res HI5.out.bR
      obtain ⟨x0, x1, x2, x3, x4, x5, x6, x7, x8, x9⟩ := Blk.res HI5.out.bX
      have fX := HI5.out.bX.frozen
      cases bm
      · go_wp2_with fail
        go_ret
        exact ⟨ret_b (by rw [← HB.out, HF.out, HK.out, HBM.out]; rfl), gb_new HI5.out.g (gb_set (gb_set (gb_set (gb_set (gb_set (gb_refl _ _) _ _) _ _) _ _) _ _) _ _) HI5.out.le⟩
      · go_wp2_with fail
        refine (asame_c { r with att := zAtt } (zeroR 0) (.slice Au r.dl.length cu) (.slice Av r.el.length cv) _ _ _ (HI5.out.ok.keptX (gb_set (gb_set (gb_set (gb_set (gb_set (gb_refl _ _) _ _) _ _) _ _) _ _) _ _) HI5.out.bX) (zero_ok _ _) HS.out.e).mono ?_
        rintro e w6 ⟨rfl, hg6⟩
        have HG6 := hide (gb_trans (gb_new HI5.out.g (gb_set (gb_set (gb_set (gb_set (gb_set (gb_refl _ _) _ _) _ _) _ _) _ _) _ _) HI5.out.le) hg6)
        clear hg6
        go_wp2_with fail
        go_ret
        exact ⟨ret_b (by rw [← HB.out, HF.out, HK.out, HBM.out, Bool.true_and]), HG6.out⟩
    · have hk : mayKB (kindN 9) r = (mayAttB r.att && sameR { r with att := zAtt } (zeroR 0)) := rfl
      have HK := hide hk
      clear hk
      go_wp2_with fail
      refine (mayAtt_c r.att _).mono ?_
      rintro e w5 ⟨rfl, hg5⟩
      obtain ⟨bm, hbm⟩ : ∃ bm, mayAttB r.att = bm := ⟨_, rfl⟩
      have HBM := hide hbm
      rw [hbm]
      clear hbm
      have HI5 := hide (HI.out.grown hg5)
      clear hg5 r0 r1 r2 r3 r4 r5 r6 r7 r8 r9 x0 x1 x2 x3 x4 x5 x6 x7 x8 x9 fX lR lX
      have lR := HI5.out.bR.lt
      have lX := HI5.out.bX.lt
      obtain ⟨r0, r1, r2, r3, r4, r5, r6, r7, r8, r9⟩ := Blk.res HI5.out.bR
      obtain ⟨x0, x1, x2, x3, x4, x5, x6, x7, x8, x9⟩ := Blk.res HI5.out.bX
      have fX := HI5.out.bX.frozen
      cases bm
      · go_wp2_with fail
        go_ret
        exact ⟨ret_b (by rw [← HB.out, HF.out, HK.out, HBM.out]; rfl), gb_new HI5.out.g (gb_set (gb_set (gb_set (gb_set (gb_set (gb_refl _ _) _ _) _ _) _ _) _ _) _ _) HI5.out.le⟩
      · go_wp2_with fail
        refine (asame_c { r with att := zAtt } (zeroR 0) (.slice Au r.dl.length cu) (.slice Av r.el.length cv) _ _ _ (HI5.out.ok.keptX (gb_set (gb_set (gb_set (gb_set (gb_set (gb_refl _ _) _ _) _ _) _ _) _ _) _ _) HI5.out.bX) (zero_ok _ _) HS.out.e).mono ?_
        rintro e w6 ⟨rfl, hg6⟩
        have HG6 := hide (gb_trans (gb_new HI5.out.g (gb_set (gb_set (gb_set (gb_set (gb_set (gb_refl _ _) _ _) _ _) _ _) _ _) _ _) HI5.out.le) hg6)
        clear hg6
        go_wp2_with fail
        go_ret
        exact ⟨ret_b (by rw [← HB.out, HF.out, HK.out, HBM.out, Bool.true_and]), HG6.out⟩
    · have hk : mayKB (kindN 12) r = sameR r (zeroR 0) := rfl
      have HK := hide hk
      clear hk
      go_wp2_with fail
      refine (asame_c r (zeroR 0) _ _ _ _ _ HI.out.ok (zero_ok _ _) HS.out.e).mono ?_
      rintro e w6 ⟨rfl, hg6⟩
      have HG6 := hide (gb_trans HI.out.g hg6)
      clear hg6
      go_wp2_with fail
      go_ret
      exact ⟨ret_b (by rw [← HB.out, HF.out, HK.out]), HG6.out⟩
    · have hk : mayKB (kindN 13) r = sameR r (zeroR 0) := rfl
      have HK := hide hk
      clear hk
      go_wp2_with fail
      refine (asame_c r (zeroR 0) _ _ _ _ _ HI.out.ok (zero_ok _ _) HS.out.e).mono ?_
      rintro e w6 ⟨rfl, hg6⟩
      have HG6 := hide (gb_trans HI.out.g hg6)
      clear hg6
      go_wp2_with fail
      go_ret
      exact ⟨ret_b (by rw [← HB.out, HF.out, HK.out]), HG6.out⟩
    · have hk : mayKB (kindN 14) r = sameR r (zeroR 0) := rfl
      have HK := hide hk
      clear hk
      go_wp2_with fail
      refine (asame_c r (zeroR 0) _ _ _ _ _ HI.out.ok (zero_ok _ _) HS.out.e).mono ?_
      rintro e w6 ⟨rfl, hg6⟩
      have HG6 := hide (gb_trans HI.out.g hg6)
      clear hg6
      go_wp2_with fail
      go_ret
      exact ⟨ret_b (by rw [← HB.out, HF.out, HK.out]), HG6.out⟩
    · have hk : mayKB (kindN 16) r = (mayEntsB r.el && sameR { r with el := [], eof := false } (zeroR 0)) := rfl
      have HK := hide hk
      clear hk
      go_wp2_with fail
      refine (mayEnts_c _ r.el _ HI.out.ok.e HS.out.n HS.out.e).mono ?_
      rintro e w5 ⟨rfl, hg5⟩
      obtain ⟨bm, hbm⟩ : ∃ bm, mayEntsB r.el = bm := ⟨_, rfl⟩
      have HBM := hide hbm
      rw [hbm]
      clear hbm
      have HI5 := hide (HI.out.grown hg5)
      clear hg5 r0 r1 r2 r3 r4 r5 r6 r7 r8 r9 x0 x1 x2 x3 x4 x5 x6 x7 x8 x9 fX lR lX
      have lR := HI5.out.bR.lt
      have lX := HI5.out.bX.lt
      obtain ⟨r0, r1, r2, r3, r4, r5, r6, r7, r8, r9⟩ := Blk.res HI5.out.bR
      obtain ⟨x0, x1, x2, x3, x4, x5, x6, x7, x8, x9⟩ := Blk.res HI5.out.bX
      have fX := HI5.out.bX.frozen
      cases bm
      · go_wp2_with fail
        go_ret
        exact ⟨ret_b (by rw [← HB.out, HF.out, HK.out, HBM.out]; rfl), gb_new HI5.out.g (gb_set (gb_set (gb_refl _ _) _ _) _ _) HI5.out.le⟩
      · go_wp2_with fail
        refine (asame_c { r with el := [], eof := false } (zeroR 0) (.slice Au r.dl.length cu) (.slice none 0 0) _ _ _ (RR.ok.noE (HI5.out.ok.keptX (gb_set (gb_set (gb_refl _ _) _ _) _ _) HI5.out.bX)) (zero_ok _ _) (by simp)).mono ?_
        rintro e w6 ⟨rfl, hg6⟩
        have HG6 := hide (gb_trans (gb_new HI5.out.g (gb_set (gb_set (gb_refl _ _) _ _) _ _) HI5.out.le) hg6)
        clear hg6
        go_wp2_with fail
        go_ret
        exact ⟨ret_b (by rw [← HB.out, HF.out, HK.out, HBM.out, Bool.true_and]), HG6.out⟩
end Go.Tr
