/- The walk of AnswersSame. No condition. Printed by gen_asame.py. -/
import Derived.Test.YtdbacbhopkdhgaaDoorAArgs
namespace Go.Tr
open Go.RowKit Go.Proofs
set_option linter.unusedVariables false
/-- answers with their slices -/
abbrev QQ := RR × Value × Value
def QQ.cells (q : QQ) : List Value := q.1.cells q.2.1 q.2.2
theorem qq_at : ∀ {qs : List QQ} {i : Nat} {q : QQ}, qs[i]? = some q → ∀ j, j < 10 → (qs.flatMap QQ.cells)[i * 10 + j]? = q.cells[j]?
  | [], i, q, h => by simp at h
  | x :: t, 0, q, h => by
    simp at h
    subst h
    intro j hj
    rw [List.flatMap_cons, Nat.zero_mul, Nat.zero_add, List.getElem?_append_left (by show j < 10; exact hj)]
  | x :: t, i + 1, q, h => by
    intro j hj
    have := qq_at (qs := t) (i := i) (q := q) (by simpa using h) j hj
    rw [List.flatMap_cons, List.getElem?_append_right (by show 10 ≤ _; omega)]
    rw [show (i + 1) * 10 + j - (QQ.cells x).length = i * 10 + j by show (i + 1) * 10 + j - 10 = _; omega]
    exact this
theorem qq_cells {w : World} {B : Nat} {qs : List QQ} {i : Nat} {r : RR} {u v : Value} (h : Blk w B tRes (qs.flatMap QQ.cells).toArray) (hi : qs[i]? = some (r, u, v)) :
    w.cell? ⟨B, i * 10, none⟩ = some (.int .i64 r.errno) ∧ w.cell? ⟨B, i * 10 + 1, none⟩ = some (.int .i64 r.att.ino) ∧ w.cell? ⟨B, i * 10 + 2, none⟩ = some (.int .i64 r.att.gen) ∧ w.cell? ⟨B, i * 10 + 3, none⟩ = some (.int .i64 r.att.kind) ∧ w.cell? ⟨B, i * 10 + 4, none⟩ = some (.int .i64 r.att.mode) ∧ w.cell? ⟨B, i * 10 + 5, none⟩ = some (.int .i64 r.att.size) ∧ w.cell? ⟨B, i * 10 + 6, none⟩ = some u ∧ w.cell? ⟨B, i * 10 + 7, none⟩ = some (.int .i64 r.count) ∧ w.cell? ⟨B, i * 10 + 8, none⟩ = some (.bool r.eof) ∧ w.cell? ⟨B, i * 10 + 9, none⟩ = some v := by
  have k := fun j hj => (h.cell (i * 10 + j)).trans ((List.getElem?_toArray).trans (qq_at hi j hj))
  exact ⟨k 0 (by omega), k 1 (by omega), k 2 (by omega), k 3 (by omega), k 4 (by omega), k 5 (by omega), k 6 (by omega), k 7 (by omega), k 8 (by omega), k 9 (by omega)⟩
structure SmI (w : World) (B : Nat) (qs : List QQ) (wr : World) : Prop where
  g : w.grownBy wr none
  b : Blk wr B tRes (qs.flatMap QQ.cells).toArray
  ok : ∀ (i : Nat) (r : RR) (u v : Value), qs[i]? = some (r, u, v) → r.ok wr u v ∧ r.small
theorem SmI.grown {w : World} {B : Nat} {qs : List QQ} {wr w' : World} (h : SmI w B qs wr) (hg : wr.grownBy w' none) : SmI w B qs w' :=
  ⟨gb_trans h.g hg, h.b.grown hg (by simp), fun i r u v hi => ⟨(h.ok i r u v hi).1.grown hg, (h.ok i r u v hi).2⟩⟩
theorem ok3 {w : World} {q1 q2 q3 : QQ} (h1 : q1.1.ok w q1.2.1 q1.2.2 ∧ q1.1.small) (h2 : q2.1.ok w q2.2.1 q2.2.2 ∧ q2.1.small) (h3 : q3.1.ok w q3.2.1 q3.2.2 ∧ q3.1.small) : ∀ (i : Nat) (r : RR) (u v : Value), [q1, q2, q3][i]? = some (r, u, v) → r.ok w u v ∧ r.small := by
  intro i r u v hi
  match i with
  | 0 => cases hi; exact h1
  | 1 => cases hi; exact h2
  | 2 => cases hi; exact h3
  | n + 3 => simp at hi
theorem ResR.okq {q : RR} {w w' : World} {u v : Value} (h1 : OwnB w.heap.size w' u q.dl) (h2 : OwnE w.heap.size w' v q.el) : q.ok w' u v := ⟨h1.bs, h2.es⟩
theorem good_small (p : Int) (r : RR) : (goodR p r).small := by
  obtain ⟨h1, h2, h3⟩ := good_tiny p r
  exact ⟨by omega, by omega, fun e he => Nat.le_trans (h3 e he) (by omega)⟩
set_option maxRecDepth 100000 in
set_option maxHeartbeats 4000000 in
theorem asamelaw_c (proc : Int) (a b : RR) (ua va ub vb : Value) (which nn : Int) (w : World) (ha : RRaw w a ua va) (hb : RRaw w b ub vb) (ht : Tab w) (hp : i64ok proc) (hw : i64ok which) (hn : i64ok nn) :
    Calls Tryd.prog 4 #[.int .i64 proc, a.val ua va, b.val ub vb, .int .i64 which, .int .i64 nn] w fun e w' => e = .returned (.bool true) ∧ w.grownBy w' none := by
  have b0 : Blk ((w.alloc (.cells (a.cells ua va).toArray tRes)).alloc (.cells (b.cells ub vb).toArray tRes)) w.heap.size tRes (a.cells ua va).toArray ∧ Blk ((w.alloc (.cells (a.cells ua va).toArray tRes)).alloc (.cells (b.cells ub vb).toArray tRes)) (w.heap.size + 1) tRes (b.cells ub vb).toArray ∧ w.grownBy ((w.alloc (.cells (a.cells ua va).toArray tRes)).alloc (.cells (b.cells ub vb).toArray tRes)) none :=
    ⟨(Blk.new _ _ _).alloc _, (by have h := Blk.new (w.alloc (.cells (a.cells ua va).toArray tRes)) tRes (b.cells ub vb).toArray; simpa using h), gb_alloc (gb_alloc (gb_refl _ _) _) _⟩
  have HB0 := hide b0
  have HA := hide ha
  have HB := hide hb
  have HT := hide ht
  clear ha hb ht b0
  unfold i64ok at hp
  unfold RR.val RR.cells
  go_enter Tryd.func4, Tryd.ntmps4
  go_wp2_with fail
  refine (proc_c proc _ hp.1 hp.2).mono ?_
  rintro e w1 ⟨rfl, hg1⟩
  have hpm := procR_mem proc
  obtain ⟨p, hpe⟩ : ∃ p, procR proc = p := ⟨_, rfl⟩
  rw [hpe] at hpm ⊢
  clear hpe
  have HG1 := hide (And.intro (gb_trans HB0.out.2.2 hg1) (And.intro (HB0.out.1.grown hg1 (by simp)) (HB0.out.2.1.grown hg1 (by simp))))
  clear hg1 HB0 hpm
  have lA := HG1.out.2.1.lt
  have lB := HG1.out.2.2.lt
  obtain ⟨a0, a1, a2, a3, a4, a5, a6, a7, a8, a9⟩ := Blk.res HG1.out.2.1
  obtain ⟨b0, b1, b2, b3, b4, b5, b6, b7, b8, b9⟩ := Blk.res HG1.out.2.2
  go_wp2_with fail
  refine Reg.wp_reg [0, 0, 2, 7, 0, 0, 47, 127, 0, 0, 767, 0, 0, 0, 9983, 32767, 65535, 131071] [(0, .W), (1, .H), (2, .E true), (3, .E true), (4, .W), (5, .H), (6, .E true), (7, .E true), (8, .W), (9, .H), (10, .E false), (11, .W), (12, .W), (13, .W), (14, .E false), (15, .E false), (16, .E false), (17, .W)] (Reg.Old _) (by kernel_rfl) (by kernel_rfl) (fun _ => Reg.Old.drew (Reg.Old.refl _)) ?_
  repeat (first | (refine Reg.wpC_W rfl (fun K hK => ?_); go_simp; refine hK _ ?_; clear hK K) | (refine Reg.wpC_H2 rfl rfl (fun K hK => ?_); apply Exists.intro; refine ⟨fun w' hS => ?_, ?_⟩; (have hS2 := hS.2; clear hS; go_simp; first | done | rfl); go_simp; refine hK _ ?_; clear hK K) | (refine Reg.wpC_N rfl rfl (fun K hK => ?_); go_simp; refine hK _ ?_; clear hK K))
  refine Reg.wpC_E rfl (fun K hK => ?_)
  go_simp
  refine (few_c15 a _ _ _ (HA.out.grown (gb_drew HG1.out.1))).mono ?_
  rintro e f1 ⟨fu1, fv1, rfl, hu1, hv1, hf1⟩
  obtain ⟨Fu1, Fc1, rfl⟩ := hu1.shape
  obtain ⟨Fv1, Fd1, rfl, _⟩ := hv1.shape
  have GG1 := hide (gb_trans (gb_drew HG1.out.1) hf1)
  have OO1 := hide (Reg.Old.grown (Reg.Old.drew (Reg.Old.refl w1)) hf1)
  have FF1 := hide (ResR.okq hu1 hv1)
  have HH1 := hide hf1
  clear hu1 hv1 hf1
  unfold RR.val RR.cells
  refine hK _ _ (fun _ => OO1.out) ?_
  clear hK K
  repeat (first | (refine Reg.wpC_W rfl (fun K hK => ?_); go_simp; refine hK _ ?_; clear hK K) | (refine Reg.wpC_H2 rfl rfl (fun K hK => ?_); apply Exists.intro; refine ⟨fun w' hS => ?_, ?_⟩; (have hS2 := hS.2; clear hS; go_simp; first | done | rfl); go_simp; refine hK _ ?_; clear hK K) | (refine Reg.wpC_N rfl rfl (fun K hK => ?_); go_simp; refine hK _ ?_; clear hK K))
  refine Reg.wpC_E rfl (fun K hK => ?_)
  go_simp
  refine (good_c15 p (fewA a) _ _ _ FF1.out (few_ranged HA.out) (few_tiny a).small).mono ?_
  rintro e f2 ⟨fu2, fv2, rfl, hu2, hv2, hf2⟩
  obtain ⟨q2, hq2⟩ : ∃ q, goodR p (fewA a) = q := ⟨_, rfl⟩
  have hs2 := good_small p (fewA a)
  rw [hq2] at hu2 hv2 hs2 ⊢
  clear hq2
  obtain ⟨Fu2, Fc2, rfl⟩ := hu2.shape
  obtain ⟨Fv2, Fd2, rfl, _⟩ := hv2.shape
  have GG2 := hide (gb_trans GG1.out hf2)
  have OO2 := hide (Reg.Old.grown OO1.out hf2)
  have FF2 := hide (And.intro (ResR.okq hu2 hv2) hs2)
  have HH2 := hide hf2
  clear hu2 hv2 hf2 hs2
  unfold RR.val RR.cells
  refine hK _ _ (fun _ => OO2.out) ?_
  clear hK K
  repeat (first | (refine Reg.wpC_W rfl (fun K hK => ?_); go_simp; refine hK _ ?_; clear hK K) | (refine Reg.wpC_H2 rfl rfl (fun K hK => ?_); apply Exists.intro; refine ⟨fun w' hS => ?_, ?_⟩; (have hS2 := hS.2; clear hS; go_simp; first | done | rfl); go_simp; refine hK _ ?_; clear hK K) | (refine Reg.wpC_N rfl rfl (fun K hK => ?_); go_simp; refine hK _ ?_; clear hK K))
  refine Reg.wpC_E rfl (fun K hK => ?_)
  go_simp
  refine (few_c15 b _ _ _ (HB.out.grown GG2.out)).mono ?_
  rintro e f3 ⟨fu3, fv3, rfl, hu3, hv3, hf3⟩
  obtain ⟨Fu3, Fc3, rfl⟩ := hu3.shape
  obtain ⟨Fv3, Fd3, rfl, _⟩ := hv3.shape
  have GG3 := hide (gb_trans GG2.out hf3)
  have OO3 := hide (Reg.Old.grown OO2.out hf3)
  have FF3 := hide (ResR.okq hu3 hv3)
  have HH3 := hide hf3
  clear hu3 hv3 hf3
  unfold RR.val RR.cells
  refine hK _ _ (fun _ => OO3.out) ?_
  clear hK K
  repeat (first | (refine Reg.wpC_W rfl (fun K hK => ?_); go_simp; refine hK _ ?_; clear hK K) | (refine Reg.wpC_H2 rfl rfl (fun K hK => ?_); apply Exists.intro; refine ⟨fun w' hS => ?_, ?_⟩; (have hS2 := hS.2; clear hS; go_simp; first | done | rfl); go_simp; refine hK _ ?_; clear hK K) | (refine Reg.wpC_N rfl rfl (fun K hK => ?_); go_simp; refine hK _ ?_; clear hK K))
  refine Reg.wpC_E rfl (fun K hK => ?_)
  go_simp
  refine (good_c15 p (fewA b) _ _ _ FF3.out (few_ranged HB.out) (few_tiny b).small).mono ?_
  rintro e f4 ⟨fu4, fv4, rfl, hu4, hv4, hf4⟩
  obtain ⟨q4, hq4⟩ : ∃ q, goodR p (fewA b) = q := ⟨_, rfl⟩
  have hs4 := good_small p (fewA b)
  rw [hq4] at hu4 hv4 hs4 ⊢
  clear hq4
  obtain ⟨Fu4, Fc4, rfl⟩ := hu4.shape
  obtain ⟨Fv4, Fd4, rfl, _⟩ := hv4.shape
  have GG4 := hide (gb_trans GG3.out hf4)
  have OO4 := hide (Reg.Old.grown OO3.out hf4)
  have FF4 := hide (And.intro (ResR.okq hu4 hv4) hs4)
  have HH4 := hide hf4
  clear hu4 hv4 hf4 hs4
  unfold RR.val RR.cells
  refine hK _ _ (fun _ => OO4.out) ?_
  clear hK K
  repeat (first | (refine Reg.wpC_W rfl (fun K hK => ?_); go_simp; refine hK _ ?_; clear hK K) | (refine Reg.wpC_H2 rfl rfl (fun K hK => ?_); apply Exists.intro; refine ⟨fun w' hS => ?_, ?_⟩; (have hS2 := hS.2; clear hS; go_simp; first | done | rfl); go_simp; refine hK _ ?_; clear hK K) | (refine Reg.wpC_N rfl rfl (fun K hK => ?_); go_simp; refine hK _ ?_; clear hK K))
  refine Reg.wpC_E rfl (fun K hK => ?_)
  go_simp
  refine (few_c15 a _ _ _ (HA.out.grown GG4.out)).mono ?_
  rintro e f5 ⟨fu5, fv5, rfl, hu5, hv5, hf5⟩
  obtain ⟨Fu5, Fc5, rfl⟩ := hu5.shape
  obtain ⟨Fv5, Fd5, rfl, _⟩ := hv5.shape
  have GG5 := hide (gb_trans GG4.out hf5)
  have OO5 := hide (Reg.Old.grown OO4.out hf5)
  have FF5 := hide (ResR.okq hu5 hv5)
  have HH5 := hide hf5
  clear hu5 hv5 hf5
  unfold RR.val RR.cells
  refine hK _ _ (fun _ => OO5.out) ?_
  clear hK K
  repeat (first | (refine Reg.wpC_W rfl (fun K hK => ?_); go_simp; refine hK _ ?_; clear hK K) | (refine Reg.wpC_H2 rfl rfl (fun K hK => ?_); apply Exists.intro; refine ⟨fun w' hS => ?_, ?_⟩; (have hS2 := hS.2; clear hS; go_simp; first | done | rfl); go_simp; refine hK _ ?_; clear hK K) | (refine Reg.wpC_N rfl rfl (fun K hK => ?_); go_simp; refine hK _ ?_; clear hK K))
  refine Reg.wpC_E rfl (fun K hK => ?_)
  go_simp
  refine (of_c15 nn _ hn.1 hn.2).mono ?_
  rintro e f6 ⟨rfl, hf6⟩
  have GG6 := hide (gb_trans GG5.out hf6)
  have OO6 := hide (Reg.Old.grown OO5.out hf6)
  have HH6 := hide hf6
  have hos : (ofN nn).size ≤ 9223372036854775807 := Nat.le_trans (nameB_size (of_name nn)) (by omega)
  obtain ⟨on, hon⟩ : ∃ on, ofN nn = on := ⟨_, rfl⟩
  rw [hon] at hos ⊢
  clear hf6 hon
  refine hK _ _ (fun _ => OO6.out) ?_
  clear hK K
  repeat (first | (refine Reg.wpC_W rfl (fun K hK => ?_); go_simp; refine hK _ ?_; clear hK K) | (refine Reg.wpC_H2 rfl rfl (fun K hK => ?_); apply Exists.intro; refine ⟨fun w' hS => ?_, ?_⟩; (have hS2 := hS.2; clear hS; go_simp; first | done | rfl); go_simp; refine hK _ ?_; clear hK K) | (refine Reg.wpC_N rfl rfl (fun K hK => ?_); go_simp; refine hK _ ?_; clear hK K))
  refine Reg.wpC_E rfl (fun K hK => ?_)
  go_simp
  refine (odd_c15 p (fewA a) _ _ which nn on _ (FF5.out.grown HH6.out) (few_ranged HA.out) (few_tiny a).small hw hos).mono ?_
  rintro e f7 ⟨q7, hs7, fu7, fv7, rfl, hu7, hv7, hf7⟩
  obtain ⟨Fu7, Fc7, rfl⟩ := hu7.shape
  obtain ⟨Fv7, Fd7, rfl, _⟩ := hv7.shape
  have GG7 := hide (gb_trans GG6.out hf7)
  have FF7 := hide (And.intro (ResR.okq hu7 hv7) hs7.small)
  have G27 := gb_trans (gb_trans (gb_trans (gb_trans (gb_trans HH3.out HH4.out) HH5.out) HH6.out) hf7) (gb_refl f7 none)
  have G47 := gb_trans (gb_trans (gb_trans HH5.out HH6.out) hf7) (gb_refl f7 none)
  have I0 : SmI w f7.heap.size [(q2, .slice Fu2 q2.dl.length Fc2, .slice Fv2 q2.el.length Fd2), (q4, .slice Fu4 q4.dl.length Fc4, .slice Fv4 q4.el.length Fd4), (q7, .slice Fu7 q7.dl.length Fc7, .slice Fv7 q7.el.length Fd7)] (f7.alloc (.cells ([(q2, .slice Fu2 q2.dl.length Fc2, .slice Fv2 q2.el.length Fd2), (q4, .slice Fu4 q4.dl.length Fc4, .slice Fv4 q4.el.length Fd4), (q7, .slice Fu7 q7.dl.length Fc7, .slice Fv7 q7.el.length Fd7)].flatMap QQ.cells).toArray tRes)) :=
    ⟨gb_alloc GG7.out _, Blk.new _ _ _, ok3 ⟨(FF2.out.1.grown G27).grown (gb_alloc (gb_refl _ none) _), FF2.out.2⟩ ⟨(FF4.out.1.grown G47).grown (gb_alloc (gb_refl _ none) _), FF4.out.2⟩ ⟨FF7.out.1.grown (gb_alloc (gb_refl _ none) _), FF7.out.2⟩⟩
  have HI0 := hide I0
  clear I0 G27 G47 hf7 hu7 hv7 hs7 FF2 FF4 FF7 FF1 FF3 FF5 HH1 HH2 HH3 HH4 HH5 HH6 GG1 GG2 GG3 GG4 GG5 GG6 OO1 OO2 OO3 OO4 OO5 OO6 a0 a1 a2 a3 a4 a5 a6 a7 a8 a9 b0 b1 b2 b3 b4 b5 b6 b7 b8 b9 lA lB HG1
  unfold RR.val RR.cells
  refine hK _ _ (fun h => by cases h) ?_
  clear hK K
  repeat (first | (refine Reg.wpC_W rfl (fun K hK => ?_); go_simp; refine hK _ ?_; clear hK K) | (refine Reg.wpC_H2 rfl rfl (fun K hK => ?_); apply Exists.intro; refine ⟨fun w' hS => ?_, ?_⟩; (have hS2 := hS.2; clear hS; go_simp; first | done | rfl); go_simp; refine hK _ ?_; clear hK K) | (refine Reg.wpC_N rfl rfl (fun K hK => ?_); go_simp; refine hK _ ?_; clear hK K))
  refine Reg.wpC_E rfl (fun K hK => ?_)
  go_simp
  refine hK _ _ (fun h => by cases h) ?_
  clear hK K
  repeat (first | (refine Reg.wpC_W rfl (fun K hK => ?_); go_simp; refine hK _ ?_; clear hK K) | (refine Reg.wpC_H2 rfl rfl (fun K hK => ?_); apply Exists.intro; refine ⟨fun w' hS => ?_, ?_⟩; (have hS2 := hS.2; clear hS; go_simp; first | done | rfl); go_simp; refine hK _ ?_; clear hK K) | (refine Reg.wpC_N rfl rfl (fun K hK => ?_); go_simp; refine hK _ ?_; clear hK K))
  refine Reg.wpC_nil ?_
  generalize hqs : [((q2, .slice Fu2 q2.dl.length Fc2, .slice Fv2 q2.el.length Fd2) : QQ), (q4, .slice Fu4 q4.dl.length Fc4, .slice Fv4 q4.el.length Fd4), (q7, .slice Fu7 q7.dl.length Fc7, .slice Fv7 q7.el.length Fd7)] = qs at HI0
  have hq3 : qs.length = 3 := by rw [← hqs]; rfl
  refine genW (C := fun wz => Exit.then _ _ _ _ wz) (I := fun wz => SmI w f7.heap.size qs wz) (by have h := HI0.out; rw [← hqs] at h ⊢; exact h) fun wr0 I => ?_
  have HI := hide I
  have HQ3 := hide hq3
  clear hqs HI0 I hq3
  generalize f7.heap.size = Ba at *
  go_wp2_with fail
  go_loopw [13] (fun i wr => ∃ n : Nat, n ≤ 3 ∧ i = .int .i64 n ∧ SmI w Ba qs wr) (fun i _ => 3 - (intOf i).toNat)
  case atStart => exact ⟨0, Nat.zero_le _, rfl, HI.out⟩
  case round =>
    obtain ⟨n, hn3, rfl, hI⟩ := hrel
    clear HI
    have HI := hide hI
    clear hI
    by_cases hlt : n < 3
    · have hnI : (n : Int) < 3 := by omega
      obtain ⟨⟨x, ux, vx⟩, hx⟩ : ∃ q, qs[n]? = some q := ⟨_, List.getElem?_eq_getElem (by rw [HQ3.out]; exact hlt)⟩
      have HX := hide hx
      clear hx
      go_wp2_with fail
      go_loopw [14] (fun i wr => ∃ m : Nat, m ≤ 3 ∧ i = .int .i64 m ∧ SmI w Ba qs wr) (fun i _ => 3 - (intOf i).toNat)
      case atStart => exact ⟨0, Nat.zero_le _, rfl, HI.out⟩
      case round =>
        obtain ⟨m, hm3, rfl, hI⟩ := hrel
        clear HI
        have HI := hide hI
        clear hI
        by_cases hlt3 : m < 3
        · have hmI : (m : Int) < 3 := by omega
          obtain ⟨⟨y, uy, vy⟩, hy⟩ : ∃ q, qs[m]? = some q := ⟨_, List.getElem?_eq_getElem (by rw [HQ3.out]; exact hlt3)⟩
          have lBa := HI.out.b.lt
          obtain ⟨x0, x1, x2, x3, x4, x5, x6, x7, x8, x9⟩ := qq_cells HI.out.b HX.out
          obtain ⟨y0, y1, y2, y3, y4, y5, y6, y7, y8, y9⟩ := qq_cells HI.out.b hy
          have OKX := hide (HI.out.ok n x ux vx HX.out)
          have OKY := hide (HI.out.ok m y uy vy hy)
          clear hy
          go_wp2_with fail
          refine Reg.wp_reg [0, 0, 3, 7, 0, 0, 48, 112, 255, 0, 0, 1536, 3584, 0, 0, 24576, 57344, 131071, 262143] [(0, .W), (1, .W), (2, .W), (3, .H), (4, .W), (5, .W), (6, .W), (7, .H), (8, .E true), (9, .W), (10, .W), (11, .W), (12, .H), (13, .W), (14, .W), (15, .W), (16, .H), (17, .E false), (18, .W)] (Reg.Old _) (by kernel_rfl) (by kernel_rfl) (fun _ => Reg.Old.drew (Reg.Old.refl _)) ?_
          repeat (first | (refine Reg.wpC_W rfl (fun K hK => ?_); go_simp; refine hK _ ?_; clear hK K) | (refine Reg.wpC_H2 rfl rfl (fun K hK => ?_); apply Exists.intro; refine ⟨fun w' hS => ?_, ?_⟩; (have hS2 := hS.2; clear hS; go_simp; first | done | rfl); go_simp; refine hK _ ?_; clear hK K) | (refine Reg.wpC_N rfl rfl (fun K hK => ?_); go_simp; refine hK _ ?_; clear hK K))
          refine Reg.wpC_E rfl (fun K hK => ?_)
          go_simp
          refine (asame_c x y ux vx uy vy _ (OKX.out.1.grown (gb_drew (gb_refl _ none))) (OKY.out.1.grown (gb_drew (gb_refl _ none))) OKX.out.2.e).mono ?_
          rintro e w5 ⟨rfl, hg5⟩
          have g5 := gb_trans (gb_drew (gb_refl wr none)) hg5
          have o5 := (Reg.Old.refl wr).drew.grown hg5
          have HO5 := hide o5
          have HG5 := hide g5
          obtain ⟨bq, hbq⟩ : ∃ bq, sameR x y = bq := ⟨_, rfl⟩
          have HBQ := hide hbq
          rw [hbq]
          clear hbq hg5 g5 o5
          refine hK _ _ (fun _ => HO5.out) ?_
          clear hK K
          repeat (first | (refine Reg.wpC_W rfl (fun K hK => ?_); go_simp; refine hK _ ?_; clear hK K) | (refine Reg.wpC_H2 rfl rfl (fun K hK => ?_); apply Exists.intro; refine ⟨fun w' hS => ?_, ?_⟩; (have hS2 := hS.2; clear hS; go_simp; first | done | rfl); go_simp; refine hK _ ?_; clear hK K) | (refine Reg.wpC_N rfl rfl (fun K hK => ?_); go_simp; refine hK _ ?_; clear hK K))
          refine Reg.wpC_E rfl (fun K hK => ?_)
          go_simp
          refine (rsame_c x y ux vx uy vy _ (OKX.out.1.grown HG5.out) (OKY.out.1.grown HG5.out) OKX.out.2.e).mono ?_
          rintro e w6 ⟨rfl, hg6⟩
          have HG6 := hide (gb_trans HG5.out hg6)
          rw [HBQ.out]
          clear hg6
          refine hK _ _ (fun h => by cases h) ?_
          clear hK K
          clear x0 x1 x2 x3 x4 x5 x6 x7 x8 x9 y0 y1 y2 y3 y4 y5 y6 y7 y8 y9
          cases bq
          all_goals
            repeat (first | (refine Reg.wpC_W rfl (fun K hK => ?_); go_simp; refine hK _ ?_; clear hK K) | (refine Reg.wpC_H2 rfl rfl (fun K hK => ?_); apply Exists.intro; refine ⟨fun w' hS => ?_, ?_⟩; (have hS2 := hS.2; clear hS; go_simp; first | done | rfl); go_simp; refine hK _ ?_; clear hK K) | (refine Reg.wpC_N rfl rfl (fun K hK => ?_); go_simp; refine hK _ ?_; clear hK K))
            refine Reg.wpC_nil ?_
            go_wp2_with fail
            go_roundw
            case rel => exact ⟨m + 1, by omega, by go_num, HI.out.grown HG6.out⟩
            case measure => simp [intOf]; omega
        · obtain rfl : m = 3 := by omega
          go_wp2_with fail
          go_roundw
          case rel => exact ⟨n + 1, by omega, by go_num, HI.out⟩
          case measure => simp [intOf]; omega
    · obtain rfl : n = 3 := by omega
      go_wp2_with fail
      refine (lives15_c _ (HT.out.grown HI.out.g)).mono ?_
      rintro e w6 ⟨rfl, hg6⟩
      go_wp2_with fail
      go_ret
      exact ⟨rfl, gb_trans HI.out.g hg6⟩
end Go.Tr
