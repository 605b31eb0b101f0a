/- Made: what may be, made of any. No condition. Printed by gen_made.py. -/
import Derived.Test.YtblbihodpjfcbaaOwn
import Derived.Test.YtblbihodpjfcbaaBR
namespace Go.Tr
open Go.RowKit Go.Proofs
set_option linter.unusedVariables false
structure Raw (w : World) (a : AA) (u : Value) : Prop where
  ints : ∀ x ∈ [a.off, a.count, a.size, a.mode, a.hi, a.hg, a.ji, a.jg, a.proc], -9223372036854775808 ≤ x ∧ x ≤ 9223372036854775807
  n1 : a.name.size ≤ 9223372036854775807
  n2 : a.name2.size ≤ 9223372036854775807
  d : ∃ B, B ≤ w.heap.size ∧ BR B w u a.dl
  dn : a.dl.length ≤ 9223372036854775807
def lowN (x : Int) : Int := aroundN x 4294967296
def madeX (p : Int) (a : AA) : AA := { proc := p, off := aroundN a.off 4611686018427387905, count := lowN a.count, size := lowN a.size, mode := lowN a.mode, hi := lowN a.hi, hg := lowN a.hg, ji := lowN a.ji, jg := lowN a.jg, name := shortS a.name 40, name2 := shortS a.name2 40, data := .slice none 0 0, dl := a.dl.take 30 }
def made1 (p : Int) (a : AA) : AA := { zeroA p with off := aroundN a.off 4611686018427387905, count := lowN a.count, size := lowN a.size, mode := lowN a.mode }
def MadeR (p : Int) (a : AA) (w : World) (e : Ending) (w' : World) : Prop := ∃ u', e = .returned ((ownA (madeX p a)).at u').val ∧ BS w' u' (ownA (madeX p a)).dl ∧ w.grownBy w' none
structure OwnJ (a : AA) (u : Value) (B0 B : Nat) (x : AA) (ux : Value) (w wr : World) : Prop where
  b1 : Blk wr B tArgs (a.at u).cells.toArray
  b2 : Blk wr (B + 1) tArgs (zeroA 0).cells.toArray
  b3 : Blk wr (B + 2) tArgs (x.at ux).cells.toArray
  bs : BR B0 wr u a.dl
  bx : BS wr ux x.dl
  g : w.grownBy wr none
  le : B0 ≤ w.heap.size
theorem OwnJ.grown {a x : AA} {u ux : Value} {B0 B : Nat} {w wr w' : World} (h : OwnJ a u B0 B x ux w wr) (hg : wr.grownBy w' none) : OwnJ a u B0 B x ux w w' :=
  ⟨h.b1.grown hg (by simp), h.b2.grown hg (by simp), h.b3.grown hg (by simp), h.bs.kept (Nat.le_trans h.le h.g.size) hg (fun _ h => by cases h), h.bx.grown hg, gb_trans h.g hg, h.le⟩
theorem OwnJ.setB {a x : AA} {u ux : Value} {B0 B : Nat} {w wr : World} (h : OwnJ a u B0 B x ux w wr) (hB : w.heap.size = B) (j : Nat) (v : Value) : BR B0 (wr.setCell ⟨B + 2, j, none⟩ v) u a.dl :=
  h.bs.kept (Nat.le_trans h.le h.g.size) (gb_set (gb_refl wr (some (B + 2))) _ _) (fun k hk => by have := h.le; cases hk; omega)
theorem OwnJ.store {a x : AA} {u ux : Value} {B0 B : Nat} {w wr : World} (h : OwnJ a u B0 B x ux w wr) (hB : w.heap.size = B) (j : Nat) (v : Value) (x' : AA) (he : (x.at ux).cells.toArray.setIfInBounds j v = (x'.at ux).cells.toArray) (hd : x'.dl = x.dl) : OwnJ a u B0 B x' ux w (wr.setCell ⟨B + 2, j, none⟩ v) :=
  ⟨h.b1.far (by show B ≠ B + 2; omega) _, h.b2.far (by show B + 1 ≠ B + 2; omega) _, by rw [← he]; exact h.b3.set j v, h.setB hB j v, by rw [hd]; exact BS.set h.bx h.b3 (by decide) _ _, gb_set_new h.g (by omega) _ _, h.le⟩
theorem OwnJ.storeV {a x : AA} {u ux v : Value} {B0 B : Nat} {l : List UInt8} {w wr : World} (h : OwnJ a u B0 B x ux w wr) (hB : w.heap.size = B) (hv : BS wr v l) : OwnJ a u B0 B { x with dl := l } v w (wr.setCell ⟨B + 2, 11, none⟩ v) :=
  ⟨h.b1.far (by show B ≠ B + 2; omega) _, h.b2.far (by show B + 1 ≠ B + 2; omega) _, h.b3.set 11 v, h.setB hB 11 v, BS.set hv h.b3 (by decide) _ _, gb_set_new h.g (by omega) _ _, h.le⟩
theorem genW {C I : World → Prop} {w0 : World} (h : I w0) (k : ∀ wr, I wr → C wr) : C w0 := k w0 h
set_option maxHeartbeats 4000000 in
theorem made_c (p : Int) (hp : p ∈ procN) (a : AA) (u : Value) (w : World) (ha : Raw w a u) : Calls Try.prog 21 #[.int .i64 p, (a.at u).val] w (MadeR p a w) := by
  have hi1 := ha.ints a.off (by simp)
  have hi2 := ha.ints a.count (by simp)
  have hi3 := ha.ints a.size (by simp)
  have hi4 := ha.ints a.mode (by simp)
  have hi5 := ha.ints a.hi (by simp)
  have hi6 := ha.ints a.hg (by simp)
  have hi7 := ha.ints a.ji (by simp)
  have hi8 := ha.ints a.jg (by simp)
  have hn1 := ha.n1
  have hn2 := ha.n2
  have hdn := ha.dn
  obtain ⟨B0, hB0, hu⟩ := ha.d
  obtain ⟨Au, cu, hue, _⟩ := id hu
  obtain ⟨b1, b2, b3⟩ := alloc3 w (a.at u).cells.toArray (zeroA 0).cells.toArray ((made1 p a).at (.slice none 0 0)).cells.toArray
  have I : OwnJ a u B0 w.heap.size (made1 p a) (.slice none 0 0) w _ := ⟨b1, b2, b3, hu.kept hB0 (gb_alloc (gb_alloc (gb_alloc (gb_refl w none) _) _) _) (fun _ h => by cases h), BS.nil _, gb_alloc (gb_alloc (gb_alloc (gb_refl _ _) _) _) _, hB0⟩
  clear b1 b2 b3
  have HI := hide I
  have HP := hide hp
  subst hue
  clear hu I ha hp
  simp only [AA.at, AA.val, AA.cells]
  go_enter Try.func21, Try.ntmps21
  go_wp2_with fail
  refine Reg.wp_reg [0, 0, 2, 6, 0, 16, 62, 0, 128, 510, 0, 1024, 4094, 8191, 0, 32767] [(0, .W), (1, .W), (2, .H), (3, .Q), (4, .W), (5, .H), (6, .Q), (7, .W), (8, .H), (9, .Q), (10, .W), (11, .H), (12, .Q), (13, .W), (14, .E true), (15, .E false)] (Reg.Old _) (by kernel_rfl) (by kernel_rfl) (fun _ => Reg.Old.drew (Reg.Old.refl _)) ?_
  repeat (first | (refine Reg.wpC_W rfl (fun K hK => ?_); go_simp; refine hK _ ?_; clear hK K) | (refine Reg.wpC_H2 rfl rfl (fun K hK => ?_); apply Exists.intro; refine ⟨fun w' hS => ?_, ?_⟩; (have hS2 := hS.2; clear hS; go_simp; first | done | rfl); go_simp; refine hK _ ?_; clear hK K) | (refine Reg.wpC_N rfl rfl (fun K hK => ?_); go_simp; refine hK _ ?_; clear hK K))
  refine Reg.wpC_Q2 rfl rfl (fun K hK => ?_)
  refine ⟨.int .i64 (lowN a.size), fun w' hS => ?qt, ?_⟩
  case qt => (unfold Oper.quietAt; go_simp; exact ⟨rfl, (low_c a.size w' hi3.1 hi3.2).mono fun e w'' h => h⟩)
  go_simp
  refine hK _ ?_
  clear hK K
  repeat (first | (refine Reg.wpC_W rfl (fun K hK => ?_); go_simp; refine hK _ ?_; clear hK K) | (refine Reg.wpC_H2 rfl rfl (fun K hK => ?_); apply Exists.intro; refine ⟨fun w' hS => ?_, ?_⟩; (have hS2 := hS.2; clear hS; go_simp; first | done | rfl); go_simp; refine hK _ ?_; clear hK K) | (refine Reg.wpC_N rfl rfl (fun K hK => ?_); go_simp; refine hK _ ?_; clear hK K))
  refine Reg.wpC_Q2 rfl rfl (fun K hK => ?_)
  refine ⟨.int .i64 (lowN a.count), fun w' hS => ?qt, ?_⟩
  case qt => (unfold Oper.quietAt; go_simp; exact ⟨rfl, (low_c a.count w' hi2.1 hi2.2).mono fun e w'' h => h⟩)
  go_simp
  refine hK _ ?_
  clear hK K
  repeat (first | (refine Reg.wpC_W rfl (fun K hK => ?_); go_simp; refine hK _ ?_; clear hK K) | (refine Reg.wpC_H2 rfl rfl (fun K hK => ?_); apply Exists.intro; refine ⟨fun w' hS => ?_, ?_⟩; (have hS2 := hS.2; clear hS; go_simp; first | done | rfl); go_simp; refine hK _ ?_; clear hK K) | (refine Reg.wpC_N rfl rfl (fun K hK => ?_); go_simp; refine hK _ ?_; clear hK K))
  refine Reg.wpC_Q2 rfl rfl (fun K hK => ?_)
  refine ⟨.int .i64 (lowN a.mode), fun w' hS => ?qt, ?_⟩
  case qt => (unfold Oper.quietAt; go_simp; exact ⟨rfl, (low_c a.mode w' hi4.1 hi4.2).mono fun e w'' h => h⟩)
  go_simp
  refine hK _ ?_
  clear hK K
  repeat (first | (refine Reg.wpC_W rfl (fun K hK => ?_); go_simp; refine hK _ ?_; clear hK K) | (refine Reg.wpC_H2 rfl rfl (fun K hK => ?_); apply Exists.intro; refine ⟨fun w' hS => ?_, ?_⟩; (have hS2 := hS.2; clear hS; go_simp; first | done | rfl); go_simp; refine hK _ ?_; clear hK K) | (refine Reg.wpC_N rfl rfl (fun K hK => ?_); go_simp; refine hK _ ?_; clear hK K))
  refine Reg.wpC_Q2 rfl rfl (fun K hK => ?_)
  refine ⟨.int .i64 (aroundN a.off 4611686018427387905), fun w' hS => ?qt, ?_⟩
  case qt => (unfold Oper.quietAt; go_simp; exact ⟨rfl, (around_c a.off 4611686018427387905 w' hi1.1 hi1.2 (by omega) (by omega)).mono fun e w'' h => h⟩)
  go_simp
  refine hK _ ?_
  clear hK K
  repeat (first | (refine Reg.wpC_W rfl (fun K hK => ?_); go_simp; refine hK _ ?_; clear hK K) | (refine Reg.wpC_H2 rfl rfl (fun K hK => ?_); apply Exists.intro; refine ⟨fun w' hS => ?_, ?_⟩; (have hS2 := hS.2; clear hS; go_simp; first | done | rfl); go_simp; refine hK _ ?_; clear hK K) | (refine Reg.wpC_N rfl rfl (fun K hK => ?_); go_simp; refine hK _ ?_; clear hK K))
  refine Reg.wpC_E rfl (fun K hK => ?_)
  go_simp
  refine hK _ _ (fun _ => ?so) ?_
  case so => exact (Reg.Old.drew (Reg.Old.refl _)).alloc _
  clear hK K
  repeat (first | (refine Reg.wpC_W rfl (fun K hK => ?_); go_simp; refine hK _ ?_; clear hK K) | (refine Reg.wpC_H2 rfl rfl (fun K hK => ?_); apply Exists.intro; refine ⟨fun w' hS => ?_, ?_⟩; (have hS2 := hS.2; clear hS; go_simp; first | done | rfl); go_simp; refine hK _ ?_; clear hK K) | (refine Reg.wpC_N rfl rfl (fun K hK => ?_); go_simp; refine hK _ ?_; clear hK K))
  refine Reg.wpC_E rfl (fun K hK => ?_)
  go_simp
  refine hK _ _ (fun h => by cases h) ?_
  clear hK K
  refine Reg.wpC_nil ?_
  replace HI := hide (HI.out.grown (gb_drew (gb_refl _ _)))
  refine genW (C := fun wz => Exit.then _ _ _ _ wz) (I := fun wz => OwnJ a (.slice Au a.dl.length cu) B0 w.heap.size (made1 p a) (.slice none 0 0) w wz) HI.out fun wr I => ?_
  clear HI
  have HI := hide I
  have l1 := I.b1.lt
  have l3 := I.b3.lt
  obtain ⟨c0, c1, c2, c3, c4, c5, c6, c7, c8, c9, c10, c11⟩ := Blk.args I.b1
  obtain ⟨x0, x1, x2, x3, x4, x5, x6, x7, x8, x9, x10, x11⟩ := Blk.args I.b3
  have f3 := I.b3.frozen
  clear I
  go_wp2_with fail
  refine Reg.wp_reg [0, 1, 3, 7, 0, 16, 48, 127, 255, 511, 1023] [(0, .W), (1, .W), (2, .H), (3, .Q), (4, .W), (5, .W), (6, .H), (7, .Q), (8, .W), (9, .W), (10, .E false)] (Reg.Old _) (by kernel_rfl) (by kernel_rfl) (fun _ => Reg.Old.drew (Reg.Old.refl _)) ?_
  repeat (first | (refine Reg.wpC_W rfl (fun K hK => ?_); go_simp; refine hK _ ?_; clear hK K) | (refine Reg.wpC_H2 rfl rfl (fun K hK => ?_); apply Exists.intro; refine ⟨fun w' hS => ?_, ?_⟩; (have hS2 := hS.2; clear hS; go_simp; first | done | rfl); go_simp; refine hK _ ?_; clear hK K) | (refine Reg.wpC_N rfl rfl (fun K hK => ?_); go_simp; refine hK _ ?_; clear hK K))
  refine Reg.wpC_Q2 rfl rfl (fun K hK => ?_)
  refine ⟨.int .i64 (lowN a.hi), fun w' hS => ?qt, ?_⟩
  case qt => (unfold Oper.quietAt; go_simp; exact ⟨rfl, (low_c a.hi w' hi5.1 hi5.2).mono fun e w'' h => h⟩)
  go_simp
  refine hK _ ?_
  clear hK K
  repeat (first | (refine Reg.wpC_W rfl (fun K hK => ?_); go_simp; refine hK _ ?_; clear hK K) | (refine Reg.wpC_H2 rfl rfl (fun K hK => ?_); apply Exists.intro; refine ⟨fun w' hS => ?_, ?_⟩; (have hS2 := hS.2; clear hS; go_simp; first | done | rfl); go_simp; refine hK _ ?_; clear hK K) | (refine Reg.wpC_N rfl rfl (fun K hK => ?_); go_simp; refine hK _ ?_; clear hK K))
  refine Reg.wpC_Q2 rfl rfl (fun K hK => ?_)
  refine ⟨.int .i64 (lowN a.hg), fun w' hS => ?qt, ?_⟩
  case qt => (unfold Oper.quietAt; go_simp; exact ⟨rfl, (low_c a.hg w' hi6.1 hi6.2).mono fun e w'' h => h⟩)
  go_simp
  refine hK _ ?_
  clear hK K
  repeat (first | (refine Reg.wpC_W rfl (fun K hK => ?_); go_simp; refine hK _ ?_; clear hK K) | (refine Reg.wpC_H2 rfl rfl (fun K hK => ?_); apply Exists.intro; refine ⟨fun w' hS => ?_, ?_⟩; (have hS2 := hS.2; clear hS; go_simp; first | done | rfl); go_simp; refine hK _ ?_; clear hK K) | (refine Reg.wpC_N rfl rfl (fun K hK => ?_); go_simp; refine hK _ ?_; clear hK K))
  refine Reg.wpC_E rfl (fun K hK => ?_)
  go_simp
  refine hK _ _ (fun h => by cases h) ?_
  clear hK K
  refine Reg.wpC_nil ?_
  replace HI := hide (((HI.out.store rfl 5 _ ({ (made1 p a) with hi := lowN a.hi } : AA) rfl rfl).store rfl 6 _ ({ ({ (made1 p a) with hi := lowN a.hi } : AA) with hg := lowN a.hg } : AA) rfl rfl).grown (gb_drew (gb_refl _ _)))
  clear l1 l3 c0 c1 c2 c3 c4 c5 c6 c7 c8 c9 c10 c11 x0 x1 x2 x3 x4 x5 x6 x7 x8 x9 x10 x11 f3
  refine genW (C := fun wz => Exit.then _ _ _ _ wz) (I := fun wz => OwnJ a (.slice Au a.dl.length cu) B0 w.heap.size ({ ({ (made1 p a) with hi := lowN a.hi } : AA) with hg := lowN a.hg } : AA) (.slice none 0 0) w wz) HI.out fun wr I => ?_
  clear HI
  have HI := hide I
  have l1 := I.b1.lt
  have l3 := I.b3.lt
  obtain ⟨c0, c1, c2, c3, c4, c5, c6, c7, c8, c9, c10, c11⟩ := Blk.args I.b1
  obtain ⟨x0, x1, x2, x3, x4, x5, x6, x7, x8, x9, x10, x11⟩ := Blk.args I.b3
  have f3 := I.b3.frozen
  clear I
  go_wp2_with fail
  refine Reg.wp_reg [0, 1, 3, 7, 0, 16, 48, 127, 255, 511, 1023] [(0, .W), (1, .W), (2, .H), (3, .Q), (4, .W), (5, .W), (6, .H), (7, .Q), (8, .W), (9, .W), (10, .E false)] (Reg.Old _) (by kernel_rfl) (by kernel_rfl) (fun _ => Reg.Old.drew (Reg.Old.refl _)) ?_
  repeat (first | (refine Reg.wpC_W rfl (fun K hK => ?_); go_simp; refine hK _ ?_; clear hK K) | (refine Reg.wpC_H2 rfl rfl (fun K hK => ?_); apply Exists.intro; refine ⟨fun w' hS => ?_, ?_⟩; (have hS2 := hS.2; clear hS; go_simp; first | done | rfl); go_simp; refine hK _ ?_; clear hK K) | (refine Reg.wpC_N rfl rfl (fun K hK => ?_); go_simp; refine hK _ ?_; clear hK K))
  refine Reg.wpC_Q2 rfl rfl (fun K hK => ?_)
  refine ⟨.int .i64 (lowN a.ji), fun w' hS => ?qt, ?_⟩
  case qt => (unfold Oper.quietAt; go_simp; exact ⟨rfl, (low_c a.ji w' hi7.1 hi7.2).mono fun e w'' h => h⟩)
  go_simp
  refine hK _ ?_
  clear hK K
  repeat (first | (refine Reg.wpC_W rfl (fun K hK => ?_); go_simp; refine hK _ ?_; clear hK K) | (refine Reg.wpC_H2 rfl rfl (fun K hK => ?_); apply Exists.intro; refine ⟨fun w' hS => ?_, ?_⟩; (have hS2 := hS.2; clear hS; go_simp; first | done | rfl); go_simp; refine hK _ ?_; clear hK K) | (refine Reg.wpC_N rfl rfl (fun K hK => ?_); go_simp; refine hK _ ?_; clear hK K))
  refine Reg.wpC_Q2 rfl rfl (fun K hK => ?_)
  refine ⟨.int .i64 (lowN a.jg), fun w' hS => ?qt, ?_⟩
  case qt => (unfold Oper.quietAt; go_simp; exact ⟨rfl, (low_c a.jg w' hi8.1 hi8.2).mono fun e w'' h => h⟩)
  go_simp
  refine hK _ ?_
  clear hK K
  repeat (first | (refine Reg.wpC_W rfl (fun K hK => ?_); go_simp; refine hK _ ?_; clear hK K) | (refine Reg.wpC_H2 rfl rfl (fun K hK => ?_); apply Exists.intro; refine ⟨fun w' hS => ?_, ?_⟩; (have hS2 := hS.2; clear hS; go_simp; first | done | rfl); go_simp; refine hK _ ?_; clear hK K) | (refine Reg.wpC_N rfl rfl (fun K hK => ?_); go_simp; refine hK _ ?_; clear hK K))
  refine Reg.wpC_E rfl (fun K hK => ?_)
  go_simp
  refine hK _ _ (fun h => by cases h) ?_
  clear hK K
  refine Reg.wpC_nil ?_
  replace HI := hide (((HI.out.store rfl 7 _ ({ ({ ({ (made1 p a) with hi := lowN a.hi } : AA) with hg := lowN a.hg } : AA) with ji := lowN a.ji } : AA) rfl rfl).store rfl 8 _ ({ ({ ({ ({ (made1 p a) with hi := lowN a.hi } : AA) with hg := lowN a.hg } : AA) with ji := lowN a.ji } : AA) with jg := lowN a.jg } : AA) rfl rfl).grown (gb_drew (gb_refl _ _)))
  clear l1 l3 c0 c1 c2 c3 c4 c5 c6 c7 c8 c9 c10 c11 x0 x1 x2 x3 x4 x5 x6 x7 x8 x9 x10 x11 f3
  refine genW (C := fun wz => Exit.then _ _ _ _ wz) (I := fun wz => OwnJ a (.slice Au a.dl.length cu) B0 w.heap.size ({ ({ ({ ({ (made1 p a) with hi := lowN a.hi } : AA) with hg := lowN a.hg } : AA) with ji := lowN a.ji } : AA) with jg := lowN a.jg } : AA) (.slice none 0 0) w wz) HI.out fun wr I => ?_
  clear HI
  have HI := hide I
  have l1 := I.b1.lt
  have l3 := I.b3.lt
  obtain ⟨c0, c1, c2, c3, c4, c5, c6, c7, c8, c9, c10, c11⟩ := Blk.args I.b1
  obtain ⟨x0, x1, x2, x3, x4, x5, x6, x7, x8, x9, x10, x11⟩ := Blk.args I.b3
  have f3 := I.b3.frozen
  clear I
  go_wp2_with fail
  refine (short_str_c a.name 40 (by omega) _ hn1).mono ?_
  rintro e wa ⟨rfl, rfl⟩
  go_wp2_with fail
  replace HI := hide (HI.out.store rfl 9 _ ({ ({ ({ ({ ({ (made1 p a) with hi := lowN a.hi } : AA) with hg := lowN a.hg } : AA) with ji := lowN a.ji } : AA) with jg := lowN a.jg } : AA) with name := shortS a.name 40 } : AA) rfl rfl)
  refine (short_str_c a.name2 40 (by omega) _ hn2).mono ?_
  rintro e wa ⟨rfl, rfl⟩
  go_wp2_with fail
  replace HI := hide (HI.out.store rfl 10 _ ({ ({ ({ ({ ({ ({ (made1 p a) with hi := lowN a.hi } : AA) with hg := lowN a.hg } : AA) with ji := lowN a.ji } : AA) with jg := lowN a.jg } : AA) with name := shortS a.name 40 } : AA) with name2 := shortS a.name2 40 } : AA) rfl rfl)
  refine (few_r B0 _ a.dl 30 (by omega) _ HI.out.bs hdn).mono ?_
  rintro e wf ⟨Af, nf, cf, rfl, hof, hgf⟩
  replace HI := hide (HI.out.grown hgf)
  have HOF := hide hof.bs
  clear hof hgf l1 l3 c0 c1 c2 c3 c4 c5 c6 c7 c8 c9 c10 c11 x0 x1 x2 x3 x4 x5 x6 x7 x8 x9 x10 x11 f3
  have I := HI.out
  have l1 := I.b1.lt
  have l3 := I.b3.lt
  obtain ⟨c0, c1, c2, c3, c4, c5, c6, c7, c8, c9, c10, c11⟩ := Blk.args I.b1
  obtain ⟨x0, x1, x2, x3, x4, x5, x6, x7, x8, x9, x10, x11⟩ := Blk.args I.b3
  have f3 := I.b3.frozen
  clear I
  go_wp2_with fail
  replace HI := hide (HI.out.storeV rfl HOF.out)
  refine (own_c (madeX p a) HP.out (.slice Af nf cf) _ HI.out.bx).mono ?_
  rintro e wo ⟨uo, rfl, hbo, hgo⟩
  obtain ⟨Ao, co, hue, _⟩ := id hbo
  subst hue
  replace HI := hide (HI.out.grown hgo)
  have HBO := hide hbo
  have l2 := HI.out.b2.lt
  obtain ⟨e0, e1, e2, e3, e4, e5, e6, e7, e8, e9, e10, e11⟩ := Blk.args (a := zeroA 0) (u := .slice none 0 0) HI.out.b2
  have f2 := HI.out.b2.frozen
  clear hbo hgo l1 l3 c0 c1 c2 c3 c4 c5 c6 c7 c8 c9 c10 c11 x0 x1 x2 x3 x4 x5 x6 x7 x8 x9 x10 x11 f3
  have MK : ∀ w', BS w' (.slice Ao (ownA (madeX p a)).dl.length co) (ownA (madeX p a)).dl → w.grownBy w' none → MadeR p a w (.returned ((ownA (madeX p a)).at (.slice Ao (ownA (madeX p a)).dl.length co)).val) w' := fun w' h1 h2 => ⟨_, rfl, h1, h2⟩
  generalize ownA (madeX p a) = g at *
  have HMK := hide MK
  clear MK
  simp only [AA.at, AA.val, AA.cells]
  go_wp2_with fail
  refine post_put12 HI.out.b2 rfl fun wz hb2 hgz => ?_
  have d0 := hb2.cell 0
  have d1 := hb2.cell 1
  have d2 := hb2.cell 2
  have d3 := hb2.cell 3
  have d4 := hb2.cell 4
  have d5 := hb2.cell 5
  have d6 := hb2.cell 6
  have d7 := hb2.cell 7
  have d8 := hb2.cell 8
  have d9 := hb2.cell 9
  have d10 := hb2.cell 10
  have d11 := hb2.cell 11
  simp only [List.getElem?_toArray, List.getElem?_cons_zero, List.getElem?_cons_succ] at d0 d1 d2 d3 d4 d5 d6 d7 d8 d9 d10 d11
  refine bodyPost_ret (v := (g.at (.slice Ao g.dl.length co)).val) (by simp [results, Try.results21, go_sem, d0, d1, d2, d3, d4, d5, d6, d7, d8, d9, d10, d11]; rfl) rfl ?_
  exact HMK.out wz (HBO.out.kept hgz (fun k hk => by cases hk; exact ⟨_, _, HI.out.b2, by decide⟩)) (gb_new HI.out.g hgz (by omega))
end Go.Tr
