/- Answers as bytes: the program's. No condition. -/
import Derived.Test.YtdbacbhopkdhgaaDoorAMay
namespace Go.Tr
open Go.RowKit Go.Proofs
set_option linter.unusedVariables false
def num32 (x : Int) : List UInt8 := be32 (x % 4294967296).toNat
theorem num32_length (x : Int) : (num32 x).length = 4 := rfl
def hdB (i g : Int) : List UInt8 := num32 i ++ num32 g
def attBytes (a : Att) : List UInt8 := hdB a.ino a.gen ++ (num32 a.kind ++ (num32 a.mode ++ num32 a.size))
def boolBy (b : Bool) : List UInt8 := be32 (if b then 1 else 0)
def entBytes (e : Ent) : List UInt8 := textB (sb e.name) ++ hdB e.ino e.gen
theorem wrapU (x : Int) : IntKind.wrap .u32 x = x % 4294967296 := by rw [IntKind.wrap_u32]
set_option maxHeartbeats 2000000 in
theorem layHandle_c (v : Value) (l : List UInt8) (i g : Int) (w : World) (hv : BS w v l) (hl : l.length ≤ 700000000) : Calls Tryd.prog 40 #[v, .agg #[.int .i64 i, .int .i64 g]] w (RetB w (l ++ hdB i g)) := by
  obtain ⟨A, c, rfl, _⟩ := id hv
  have HV := hide hv
  clear hv
  have hi1 : 0 ≤ i % 4294967296 := by omega
  have hi2 : i % 4294967296 < 4294967296 := by omega
  have hg1 : 0 ≤ g % 4294967296 := by omega
  have hg2 : g % 4294967296 < 4294967296 := by omega
  have wi := wrapU i
  have wg := wrapU g
  go_enter Tryd.func40, Tryd.ntmps40
  go_wp2_with fail
  refine Reg.wp_reg [0, 0, 2, 6, 15, 0, 32, 96, 255, 511] [(0, .W), (1, .W), (2, .H), (3, .W), (4, .E true), (5, .W), (6, .H), (7, .W), (8, .E false), (9, .W)] (Reg.Old _) (by kernel_rfl) (by kernel_rfl) (fun _ => Reg.Old.drew (Reg.Old.refl _)) ?_
  repeat (first | (refine Reg.wpC_W rfl (fun K hK => ?_); go_simp; refine hK _ ?_; clear hK K) | (refine Reg.wpC_H2 rfl rfl (fun K hK => ?_); apply Exists.intro; refine ⟨fun w' hS => ?_, ?_⟩; (have hS2 := hS.2; clear hS; go_simp; first | done | rfl); go_simp; refine hK _ ?_; clear hK K) | (refine Reg.wpC_N rfl rfl (fun K hK => ?_); go_simp; refine hK _ ?_; clear hK K))
  refine Reg.wpC_E rfl (fun K hK => ?_)
  go_simp
  refine (U32_c _ l (i % 4294967296) _ (HV.out.grown (gb_drew (gb_alloc (gb_refl _ none) _))) (by omega) hi1 hi2).mono ?_
  rintro e w1 ⟨A1, n1, c1, rfl, ho1, hgr1⟩
  have o1 := (Reg.Old.drew (Reg.Old.refl _)).grown hgr1
  have HO1 := hide ho1
  have HG1 := hide (gb_trans (gb_drew (gb_alloc (gb_refl w none) _)) hgr1)
  clear ho1 hgr1
  simp only []
  refine hK _ _ (fun _ => o1) ?_
  clear hK K
  repeat (first | (refine Reg.wpC_W rfl (fun K hK => ?_); go_simp; refine hK _ ?_; clear hK K) | (refine Reg.wpC_H2 rfl rfl (fun K hK => ?_); apply Exists.intro; refine ⟨fun w' hS => ?_, ?_⟩; (have hS2 := hS.2; clear hS; go_simp; first | done | rfl); go_simp; refine hK _ ?_; clear hK K) | (refine Reg.wpC_N rfl rfl (fun K hK => ?_); go_simp; refine hK _ ?_; clear hK K))
  refine Reg.wpC_E rfl (fun K hK => ?_)
  go_simp
  refine (U32_c _ _ (g % 4294967296) _ HO1.out.bs (by simp [be32_length]; omega) hg1 hg2).mono ?_
  rintro e w2 ⟨A2, n2, c2, rfl, ho2, hgr2⟩
  have HO2 := hide ho2
  have HG2 := hide (gb_trans HG1.out hgr2)
  have hsz := HG1.out.size
  clear ho2 hgr2
  simp only []
  refine hK _ _ (fun h => by cases h) ?_
  clear hK K
  repeat (first | (refine Reg.wpC_W rfl (fun K hK => ?_); go_simp; refine hK _ ?_; clear hK K) | (refine Reg.wpC_H2 rfl rfl (fun K hK => ?_); apply Exists.intro; refine ⟨fun w' hS => ?_, ?_⟩; (have hS2 := hS.2; clear hS; go_simp; first | done | rfl); go_simp; refine hK _ ?_; clear hK K) | (refine Reg.wpC_N rfl rfl (fun K hK => ?_); go_simp; refine hK _ ?_; clear hK K))
  refine Reg.wpC_nil ?_
  go_wp2_with fail
  go_ret
  refine RetB.mk ?_ hsz HG2.out
  unfold hdB num32
  rw [← List.append_assoc]
  exact HO2.out
def Att.cells (a : Att) : Array Value := #[.int .i64 a.ino, .int .i64 a.gen, .int .i64 a.kind, .int .i64 a.mode, .int .i64 a.size]
theorem Blk.att {w : World} {g : Nat} {a : Att} (h : Blk w g tAttr a.cells) : w.cell? ⟨g, 0, none⟩ = some (.int .i64 a.ino) ∧ w.cell? ⟨g, 1, none⟩ = some (.int .i64 a.gen) ∧ w.cell? ⟨g, 2, none⟩ = some (.int .i64 a.kind) ∧ w.cell? ⟨g, 3, none⟩ = some (.int .i64 a.mode) ∧ w.cell? ⟨g, 4, none⟩ = some (.int .i64 a.size) :=
  ⟨h.cell 0, h.cell 1, h.cell 2, h.cell 3, h.cell 4⟩
set_option maxHeartbeats 2000000 in
theorem layAttr_c (v : Value) (l : List UInt8) (a : Att) (w : World) (hv : BS w v l) (hl : l.length ≤ 600000000) : Calls Tryd.prog 37 #[v, a.val] w (RetB w (l ++ attBytes a)) := by
  obtain ⟨A, c, rfl, _⟩ := id hv
  have HV := hide hv
  clear hv
  have hk1 : 0 ≤ a.kind % 4294967296 := by omega
  have hk2 : a.kind % 4294967296 < 4294967296 := by omega
  have hm1 : 0 ≤ a.mode % 4294967296 := by omega
  have hm2 : a.mode % 4294967296 < 4294967296 := by omega
  have hs1 : 0 ≤ a.size % 4294967296 := by omega
  have hs2 : a.size % 4294967296 < 4294967296 := by omega
  have wk := wrapU a.kind
  have wm := wrapU a.mode
  have ws := wrapU a.size
  have HB0 := hide (Blk.new w tAttr a.cells)
  unfold Att.val
  go_enter Tryd.func37, Tryd.ntmps37
  go_wp2_with fail
  refine (layHandle_c _ l a.ino a.gen _ (HV.out.alloc _) (by omega)).mono ?_
  rintro e w1 ⟨A1, n1, c1, rfl, ho1, hgr1⟩
  have HO1 := hide ho1
  have HG1 := hide (gb_trans (gb_alloc (gb_refl w none) _) hgr1)
  have HB1 := hide (HB0.out.grown hgr1 (by simp))
  clear ho1 hgr1 HB0
  have l1 := HB1.out.lt
  obtain ⟨x0, x1, x2, x3, x4⟩ := Blk.att HB1.out
  go_wp2_with fail
  refine (U32_c _ _ (a.kind % 4294967296) _ HO1.out.bs (by simp [hdB, num32_length]; omega) hk1 hk2).mono ?_
  rintro e w2 ⟨A2, n2, c2, rfl, ho2, hgr2⟩
  have HO2 := hide ho2
  have HG2 := hide (gb_trans HG1.out hgr2)
  have HB2 := hide (HB1.out.grown hgr2 (by simp))
  clear ho2 hgr2 l1 x0 x1 x2 x3 x4
  have l1 := HB2.out.lt
  obtain ⟨x0, x1, x2, x3, x4⟩ := Blk.att HB2.out
  go_wp2_with fail
  refine (U32_c _ _ (a.mode % 4294967296) _ HO2.out.bs (by simp [hdB, num32_length, be32_length]; omega) hm1 hm2).mono ?_
  rintro e w3 ⟨A3, n3, c3, rfl, ho3, hgr3⟩
  have HO3 := hide ho3
  have HG3 := hide (gb_trans HG2.out hgr3)
  have HB3 := hide (HB2.out.grown hgr3 (by simp))
  clear ho3 hgr3 l1 x0 x1 x2 x3 x4
  have l1 := HB3.out.lt
  obtain ⟨x0, x1, x2, x3, x4⟩ := Blk.att HB3.out
  go_wp2_with fail
  refine (U32_c _ _ (a.size % 4294967296) _ HO3.out.bs (by simp [hdB, num32_length, be32_length]; omega) hs1 hs2).mono ?_
  rintro e w4 ⟨A4, n4, c4, rfl, ho4, hgr4⟩
  have hsz := HG3.out.size
  have HO4 := hide ho4
  have HG4 := hide (gb_trans HG3.out hgr4)
  clear ho4 hgr4
  go_wp2_with fail
  go_ret
  refine RetB.mk ?_ hsz HG4.out
  unfold attBytes
  have h := HO4.out
  simp only [List.append_assoc] at h ⊢
  exact h
theorem xbool_c (v : Value) (l : List UInt8) (b : Bool) (w : World) (hv : BS w v l) (hl : l.length ≤ 700000000) : Calls Tryd.prog 39 #[v, .bool b] w (RetB w (l ++ boolBy b)) := by
  obtain ⟨A, c, rfl, _⟩ := id hv
  have HV := hide hv
  clear hv
  cases b
  · go_enter Tryd.func39, Tryd.ntmps39
    go_wp2_with fail
    refine (U32_c _ l 0 _ HV.out (by omega) (by omega) (by omega)).mono ?_
    rintro e w1 ⟨A1, n1, c1, rfl, ho1, hgr1⟩
    have HO := hide ho1
    clear ho1
    go_wp2_with fail
    go_ret
    exact RetB.mk HO.out (Nat.le_refl _) hgr1
  · go_enter Tryd.func39, Tryd.ntmps39
    go_wp2_with fail
    refine (U32_c _ l 1 _ HV.out (by omega) (by omega) (by omega)).mono ?_
    rintro e w1 ⟨A1, n1, c1, rfl, ho1, hgr1⟩
    have HO := hide ho1
    clear ho1
    go_wp2_with fail
    go_ret
    exact RetB.mk HO.out (Nat.le_refl _) hgr1
def bodyB (k : Nat) (r : RR) : List UInt8 :=
  match k with
  | 1 => attBytes r.att
  | 2 => textB r.dl ++ boolBy r.eof
  | 3 => num32 r.count ++ attBytes r.att
  | 5 => num32 (r.el.length : Int) ++ (r.el.flatMap entBytes ++ boolBy r.eof)
  | _ => []
def resB (p : Int) (r : RR) : List UInt8 := be32 (statOf r.errno).toNat ++ (if r.errno = 0 then bodyB (kindN p) r else [])
def AWriteR (p : Int) (r : RR) (w : World) (e : Ending) (w' : World) : Prop :=
  ∃ v, e = .returned (.tuple #[v, .int .i64 (if mayR p r = true then 0 else 1)]) ∧ OwnB w.heap.size w' v (if mayR p r = true then resB p r else []) ∧ w.grownBy w' none
theorem AWriteR.no {p : Int} {r : RR} {w w' : World} (h : mayR p r = false) (hg : w.grownBy w' none) : AWriteR p r w (.returned (.tuple #[.slice none 0 0, .int .i64 1])) w' :=
  ⟨_, by rw [h]; rfl, by rw [h]; exact OwnB.nil _ _, hg⟩
theorem AWriteR.yes {p : Int} {r : RR} {w w' : World} {v : Value} {base : Nat} {l : List UInt8} (h : mayR p r = true) (ho : OwnB base w' v l) (hl : l = resB p r) (hb : w.heap.size ≤ base) (hg : w.grownBy w' none) : AWriteR p r w (.returned (.tuple #[v, .int .i64 0])) w' :=
  ⟨v, by rw [h]; rfl, by rw [h, if_pos rfl, ← hl]; exact ho.lower hb, hg⟩
theorem statOf_bd (x : Int) : 0 ≤ statOf x ∧ statOf x < 4294967296 := by
  have h := statOf_eq x
  have hm := List.mem_of_getElem? h
  have : ∀ y ∈ statL, 0 ≤ y ∧ y < 4294967296 := by decide
  exact this _ hm
end Go.Tr
