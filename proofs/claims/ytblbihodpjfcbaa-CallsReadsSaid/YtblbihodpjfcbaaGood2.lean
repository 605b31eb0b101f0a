/- Good: what may be, made of any. No condition. -/
import Derived.Test.YtblbihodpjfcbaaMade
namespace Go.Tr
open Go.RowKit Go.Proofs
set_option linter.unusedVariables false
theorem Raw.grown {w w' : World} {a : AA} {u : Value} (h : Raw w a u) (hg : w.grownBy w' none) : Raw w' a u := ⟨h.ints, h.n1, h.n2, (by obtain ⟨B, h1, h2⟩ := h.d; exact ⟨B, Nat.le_trans h1 hg.size, h2.kept h1 hg (fun _ h => by cases h)⟩), h.dn⟩
def goodP (a : AA) : Int := procN.getD (aroundN a.proc 11).toNat 1
def goodA (a : AA) : AA := ownA (madeX (goodP a) a)
def GoodR (a : AA) (w : World) (e : Ending) (w' : World) : Prop := ∃ u', e = .returned ((goodA a).at u').val ∧ BS w' u' (goodA a).dl ∧ w.grownBy w' none
set_option maxHeartbeats 4000000 in
theorem good_c (a : AA) (u : Value) (w : World) (ha : Raw w a u) : Calls Try.prog 12 #[(a.at u).val] w (GoodR a w) := by
  have hip := ha.ints a.proc (by simp)
  obtain ⟨B0, hB0, hu⟩ := ha.d
  obtain ⟨Au, cu, hue, _⟩ := id hu
  have g3 : w.grownBy (((w.alloc (.cells (a.at u).cells.toArray tArgs)).alloc (.cells (zeroA 0).cells.toArray tArgs)).alloc (.cells procV tInt)) none := gb_alloc (gb_alloc (gb_alloc (gb_refl _ _) _) _) _
  have b1 : Blk (((w.alloc (.cells (a.at u).cells.toArray tArgs)).alloc (.cells (zeroA 0).cells.toArray tArgs)).alloc (.cells procV tInt)) w.heap.size tArgs (a.at u).cells.toArray := ((Blk.new w tArgs _).alloc _).alloc _
  have b2 : Blk (((w.alloc (.cells (a.at u).cells.toArray tArgs)).alloc (.cells (zeroA 0).cells.toArray tArgs)).alloc (.cells procV tInt)) (w.heap.size + 1) tArgs (zeroA 0).cells.toArray := by
    have h := (Blk.new (w.alloc (.cells (a.at u).cells.toArray tArgs)) tArgs (zeroA 0).cells.toArray).alloc (.cells procV tInt)
    simpa using h
  have b3 : Blk (((w.alloc (.cells (a.at u).cells.toArray tArgs)).alloc (.cells (zeroA 0).cells.toArray tArgs)).alloc (.cells procV tInt)) (w.heap.size + 2) tInt procV := by
    have h := Blk.new ((w.alloc (.cells (a.at u).cells.toArray tArgs)).alloc (.cells (zeroA 0).cells.toArray tArgs)) tInt procV
    simpa using h
  have HX := hide (And.intro g3 (And.intro b1 (And.intro b2 b3)))
  clear g3 b1 b2 b3
  subst hue
  have HA := hide ha
  clear hu ha
  simp only [AA.at, AA.val, AA.cells]
  go_enter Try.func12, Try.ntmps12
  go_wp2_with fail
  refine genW (C := fun wz => Code.wp _ _ _ _ wz) (I := fun wz => w.grownBy wz none ∧ Blk wz w.heap.size tArgs (a.at (.slice Au a.dl.length cu)).cells.toArray ∧ Blk wz (w.heap.size + 1) tArgs (zeroA 0).cells.toArray ∧ Blk wz (w.heap.size + 2) tInt procV) HX.out fun wr I => ?_
  clear HX
  obtain ⟨g3, b1, b2, b3⟩ := I
  have hA3 := HA.out.grown g3
  have h0 := aroundN_nonneg a.proc 11 (by omega)
  have h1 := aroundN_lt a.proc 11 (by omega)
  obtain ⟨k, hk⟩ : ∃ k : Nat, aroundN a.proc 11 = k := ⟨(aroundN a.proc 11).toNat, by omega⟩
  have hk11 : k < 11 := by omega
  have hgp : goodP a = procN[k]'hk11 := by
    unfold goodP
    rw [hk, Int.toNat_natCast]
    rw [List.getD_eq_getElem?_getD, List.getElem?_eq_getElem hk11]
    rfl
  have hmem : procN[k]'hk11 ∈ procN := List.getElem_mem hk11
  have ck := (b3.cell k).trans (procV_at k hk11)
  have MK : ∀ w' u', BS w' u' (goodA a).dl → w.grownBy w' none → GoodR a w (.returned ((goodA a).at u').val) w' := fun w' u' h1 h2 => ⟨_, rfl, h1, h2⟩
  unfold goodA at MK
  rw [hgp] at MK
  generalize procN[k]'hk11 = pp at *
  have l1 := b1.lt
  have l2 := b2.lt
  have l3 := b3.lt
  have l3' : w.heap.size + 1 + 1 < wr.heap.size := l3
  have ck' : wr.cell? ⟨w.heap.size + 1 + 1, k, none⟩ = some (.int .i64 pp) := ck
  have hkI : (k : Int) < 11 := by omega
  obtain ⟨c0, c1, c2, c3, c4, c5, c6, c7, c8, c9, c10, c11⟩ := Blk.args b1
  obtain ⟨e0, e1, e2, e3, e4, e5, e6, e7, e8, e9, e10, e11⟩ := Blk.args (a := zeroA 0) (u := .slice none 0 0) b2
  have f2 := b2.frozen
  have har := around_c a.proc 11
  rw [hk] at har
  have Har := hide har
  have HMK := hide MK
  have HA3 := hide hA3
  have HB2 := hide b2
  have Hm := hide hmem
  clear hgp h0 h1 MK hA3 b1 b2 b3 hmem har hk
  refine Reg.wp_reg [0, 0, 2, 6, 15, 31, 0, 127, 255] [(0, .W), (1, .W), (2, .H), (3, .Q), (4, .W), (5, .H), (6, .H), (7, .E false), (8, .E false)] (Reg.Old _) (by kernel_rfl) (by kernel_rfl) (fun _ => Reg.Old.drew (Reg.Old.refl _)) ?_
  repeat (first | (refine Reg.wpC_W rfl (fun K hK => ?_); go_simp; refine hK _ ?_; clear hK K) | (refine Reg.wpC_H2 rfl rfl (fun K hK => ?_); apply Exists.intro; refine ⟨fun w' hS => ?_, ?_⟩; (have hS2 := hS.2; clear hS; go_simp; first | done | rfl); go_simp; refine hK _ ?_; clear hK K) | (refine Reg.wpC_N rfl rfl (fun K hK => ?_); go_simp; refine hK _ ?_; clear hK K))
  refine Reg.wpC_Q2 rfl rfl (fun K hK => ?_)
  refine ⟨.int .i64 (k : Int), fun w' hS => ?qt, ?_⟩
  case qt => (unfold Oper.quietAt; go_simp; exact ⟨rfl, (Har.out w' hip.1 hip.2 (by omega) (by omega)).mono fun e w'' h => h⟩)
  go_simp
  refine hK _ ?_
  clear hK K
  repeat (first | (refine Reg.wpC_W rfl (fun K hK => ?_); go_simp; refine hK _ ?_; clear hK K) | (refine Reg.wpC_H2 rfl rfl (fun K hK => ?_); apply Exists.intro; refine ⟨fun w' hS => ?_, ?_⟩; (have hS2 := hS.2; clear hS; go_simp; first | done | rfl); go_simp; refine hK _ ?_; clear hK K) | (refine Reg.wpC_N rfl rfl (fun K hK => ?_); go_simp; refine hK _ ?_; clear hK K))
  refine Reg.wpC_E rfl (fun K hK => ?_)
  go_simp
  refine (made_c pp Hm.out a (.slice Au a.dl.length cu) _ (HA3.out.grown (gb_drew (gb_refl _ _)))).mono ?_
  rintro e w4 ⟨u4, rfl, hb4, hg4⟩
  obtain ⟨Ao, co, hue, _⟩ := id hb4
  subst hue
  have HB4 := hide hb4
  have hB24 := Blk.grown (w := World.drew _) HB2.out hg4 (by simp)
  have HB24 := hide hB24
  have l24 := hB24.lt
  clear e0 e1 e2 e3 e4 e5 e6 e7 e8 e9 e10 e11 f2
  obtain ⟨e0, e1, e2, e3, e4, e5, e6, e7, e8, e9, e10, e11⟩ := Blk.args (a := zeroA 0) (u := .slice none 0 0) hB24
  have f2 := hB24.frozen
  clear hb4 hB24
  generalize ownA (madeX pp a) = g at *
  simp only [AA.at, AA.val, AA.cells]
  refine hK _ _ (fun h => by cases h) ?_
  clear hK K
  refine Reg.wpC_E rfl (fun K hK => ?_)
  go_simp
  refine hK _ _ (fun h => by cases h) ?_
  clear hK K
  refine Reg.wpC_nil ?_
  go_wp2_with fail
  refine post_put12 HB24.out rfl fun wz hb2 hgz => ?_
  have d0 := hb2.cell 0
  have d1 := hb2.cell 1
  have d2 := hb2.cell 2
  have d3 := hb2.cell 3
  have d4 := hb2.cell 4
  have d5 := hb2.cell 5
  have d6 := hb2.cell 6
  have d7 := hb2.cell 7
  have d8 := hb2.cell 8
  have d9 := hb2.cell 9
  have d10 := hb2.cell 10
  have d11 := hb2.cell 11
  simp only [List.getElem?_toArray, List.getElem?_cons_zero, List.getElem?_cons_succ] at d0 d1 d2 d3 d4 d5 d6 d7 d8 d9 d10 d11
  refine bodyPost_ret (v := (g.at (.slice Ao g.dl.length co)).val) (by simp [results, Try.results12, go_sem, d0, d1, d2, d3, d4, d5, d6, d7, d8, d9, d10, d11]; rfl) rfl ?_
  exact HMK.out wz _ (HB4.out.kept hgz (fun k hk => by cases hk; exact ⟨_, _, HB24.out, by decide⟩)) (gb_new (gb_trans (gb_drew g3) hg4) hgz (by omega))
end Go.Tr
