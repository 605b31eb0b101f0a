/- The walk of CallsReads. No condition. -/
import Derived.Test.YtblbihodpjfcbaaC4
namespace Go.Tr
open Go.RowKit Go.Proofs
set_option linter.unusedVariables false
theorem BS.keptB {w w' : World} {B : Nat} {v : Value} {l : List UInt8} {r : Option Nat} (h : BS w v l) (hv : ∀ A n c, v = .slice (some A) n c → A.block < B) (hg : w.grownBy w' r) (hr : ∀ k, r = some k → B ≤ k) : BS w' v l := by
  obtain ⟨A, c, rfl, hc, hn, hcell⟩ := h
  refine ⟨A, c, rfl, hc, hn, fun h0 => ?_⟩
  obtain ⟨g, o, cur, fr, hA, hb, hj⟩ := hcell h0
  refine ⟨g, o, cur, fr, hA, ?_, hj⟩
  rw [hg.block g (Array.getElem?_eq_some_iff.1 hb).1]
  · exact hb
  · intro hh
    have h1 := hr _ hh.symm
    have h2 := hv _ _ _ (by rw [hA])
    simp at h2
    omega
/-- bytes that lie below block B -/
structure BL (B : Nat) (w : World) (v : Value) (l : List UInt8) : Prop where
  bs : BS w v l
  lt : ∀ A n c, v = .slice (some A) n c → A.block < B
theorem BL.kept {w w' : World} {B : Nat} {v : Value} {l : List UInt8} {r : Option Nat} (h : BL B w v l) (hg : w.grownBy w' r) (hr : ∀ k, r = some k → B ≤ k) : BL B w' v l := ⟨h.bs.keptB h.lt hg hr, h.lt⟩
theorem BL.grown {w w' : World} {B : Nat} {v : Value} {l : List UInt8} (h : BL B w v l) (hg : w.grownBy w' none) : BL B w' v l := h.kept hg (fun _ h => by cases h)
theorem BL.up {w : World} {B B' : Nat} {v : Value} {l : List UInt8} (h : BL B w v l) (hB : B ≤ B') : BL B' w v l := ⟨h.bs, fun A n c hv => Nat.lt_of_lt_of_le (h.lt A n c hv) hB⟩
theorem BL.take {w : World} {B : Nat} {A : Option Addr} {n c k : Nat} {l : List UInt8} (h : BL B w (.slice A n c) l) (hk : k ≤ l.length) : BL B w (.slice A k c) (l.take k) :=
  ⟨h.bs.take hk, fun A' n' c' hv => by injection hv with h1 _ _; exact h.lt A' n c (by rw [h1])⟩
theorem OwnB.bl {w : World} {base : Nat} {v : Value} {l : List UInt8} (h : OwnB base w v l) : BL w.heap.size w v l :=
  ⟨h.bs, fun A n c hv => (World.ownsRow.lt h A.block (by rw [hv]; rfl)).2⟩
theorem OwnB.at {w : World} {base : Nat} {A : Option Addr} {n c : Nat} {l : List UInt8} (h : OwnB base w (.slice A n c) l) (h0 : 0 < l.length) : ∃ g, A = some ⟨g, 0, none⟩ ∧ n = l.length ∧ base ≤ g ∧ g < w.heap.size := by
  have hl := World.ownsRow.lt h
  rcases h.2 with ⟨_, hz⟩ | ⟨g, cap, cur, hv, hb, hg, _⟩
  · omega
  · injection hv with h1 h2 h3
    subst h1
    exact ⟨g, rfl, h2, hb, (hl g rfl).2⟩
theorem OwnB.set {w : World} {base g c : Nat} {l : List UInt8} (h : OwnB base w (.slice (some ⟨g, 0, none⟩) l.length c) l) (k : Nat) (x : UInt8) :
    OwnB base (w.setCell ⟨g, k, none⟩ (.int .u8 (x.toNat : Int))) (.slice (some ⟨g, 0, none⟩) l.length c) (l.set k x) ∧ w.grownBy (w.setCell ⟨g, k, none⟩ (.int .u8 (x.toNat : Int))) (some g) := by
  have h1 := World.ownsRow.stored h k (.int .u8 (x.toNat : Int))
  refine ⟨?_, h1.2⟩
  unfold OwnB
  have h2 : bv (l.set k x) = (bv l).set k (.int .u8 (x.toNat : Int)) := by simp [bv, List.map_set]
  rw [h2, List.length_set]
  exact h1.1
def outA (p : Int) (l : List UInt8) : AA := match readP p l with | .ok a => a | .error _ => zeroA 0
def outE (p : Int) (l : List UInt8) : Int := match readP p l with | .ok _ => 0 | .error e => e
def RdOut (p : Int) (l : List UInt8) (w : World) (e : Ending) (w' : World) : Prop := ∃ u, e = .returned (.tuple #[((outA p l).at u).val, .int .i64 (outE p l)]) ∧ BS w' u (outA p l).dl ∧ w.grownBy w' none
theorem RdOut.of {p : Int} {l : List UInt8} {w w' : World} {e : Ending} (h : ReadAllR p l w e w') : RdOut p l w e w' := by
  obtain ⟨hg, h⟩ := h
  unfold RdOut outA outE
  cases hr : readP p l with
  | ok a =>
    rw [hr] at h
    obtain ⟨u, h1, h2⟩ := h
    exact ⟨u, h1, h2, hg⟩
  | error er =>
    rw [hr] at h
    exact ⟨.slice none 0 0, h.2, BS.nil _, hg⟩
structure RdsI (w : World) (Ba Bp : Nat) (vs : List Value) (ls : List (List UInt8)) (ps : List Int) (wr : World) : Prop where
  g : w.grownBy wr none
  bA : Blk wr Ba tBs vs.toArray
  bP : Blk wr Bp tInt (ps.map (Value.int .i64)).toArray
  bs : ∀ (i : Nat) v l, vs[i]? = some v → ls[i]? = some l → BS wr v l
theorem RdsI.grown {w : World} {Ba Bp : Nat} {vs : List Value} {ls : List (List UInt8)} {ps : List Int} {wr w' : World} (h : RdsI w Ba Bp vs ls ps wr) (hg : wr.grownBy w' none) : RdsI w Ba Bp vs ls ps w' :=
  ⟨gb_trans h.g hg, h.bA.grown hg (by simp), h.bP.grown hg (by simp), fun i v l h1 h2 => (h.bs i v l h1 h2).grown hg⟩
theorem RdsI.setX {w : World} {Ba Bp X : Nat} {vs : List Value} {ls : List (List UInt8)} {ps : List Int} {cx : Array Value} {wr w' : World} (h : RdsI w Ba Bp vs ls ps wr) (hx : Blk wr X tArgs cx) (hX : w.heap.size ≤ X) (hg : wr.grownBy w' (some X)) : RdsI w Ba Bp vs ls ps w' :=
  ⟨gb_new h.g hg hX, h.bA.grown hg (by have := Blk.ne h.bA hx (by decide); simpa using this), h.bP.grown hg (by have := Blk.ne h.bP hx (by decide); simpa using this), fun i v l h1 h2 => (h.bs i v l h1 h2).kept hg (fun k hk => by cases hk; exact ⟨_, _, hx, by decide⟩)⟩
theorem bs5 {w : World} {v0 v1 v2 v3 v4 : Value} {l0 l1 l2 l3 l4 : List UInt8} (h0 : BS w v0 l0) (h1 : BS w v1 l1) (h2 : BS w v2 l2) (h3 : BS w v3 l3) (h4 : BS w v4 l4) : ∀ (i : Nat) v l, [v0, v1, v2, v3, v4][i]? = some v → [l0, l1, l2, l3, l4][i]? = some l → BS w v l := by
  intro i v l hv hl
  match i with
  | 0 => cases hv; cases hl; exact h0
  | 1 => cases hv; cases hl; exact h1
  | 2 => cases hv; cases hl; exact h2
  | 3 => cases hv; cases hl; exact h3
  | 4 => cases hv; cases hl; exact h4
  | n + 5 => simp at hv
/-- what stays where memory is made, and where a new block of arguments is written -/
structure Keeps (B : Nat) (I : World → Prop) : Prop where
  le : ∀ wr, I wr → B ≤ wr.heap.size
  grown : ∀ wr w', I wr → wr.grownBy w' none → I w'
  setX : ∀ wr w' X cx, I wr → Blk wr X tArgs cx → B ≤ X → wr.grownBy w' (some X) → I w'
theorem RdsI.keeps {w : World} {Ba Bp : Nat} {vs : List Value} {ls : List (List UInt8)} {ps : List Int} : Keeps w.heap.size (RdsI w Ba Bp vs ls ps) :=
  ⟨fun wr h => h.g.size, fun wr w' h hg => h.grown hg, fun wr w' X cx h hx hB hg => h.setX hx hB hg⟩
/-- .. and a block of arguments with its bytes -/
structure RdsX (I : World → Prop) (X1 : Nat) (x : AA) (u1 : Value) (wr : World) : Prop where
  i : I wr
  b : Blk wr X1 tArgs (x.at u1).cells.toArray
  s : BS wr u1 x.dl
structure RdsY (I : World → Prop) (B X1 : Nat) (x : AA) (u1 : Value) (wr : World) : Prop where
  r : RdsX I X1 x u1 wr
  le : B ≤ wr.heap.size
theorem RdsY.keeps {I : World → Prop} {B0 B X1 : Nat} {x : AA} {u1 : Value} (h : Keeps B0 I) (hB : B0 ≤ B) (hX : X1 < B) : Keeps B (RdsY I B X1 x u1) :=
  ⟨fun wr h => h.le, fun wr w' k hg => ⟨⟨h.grown _ _ k.r.i hg, k.r.b.grown hg (by simp), k.r.s.grown hg⟩, Nat.le_trans k.le hg.size⟩,
   fun wr w' X cx k hx hBX hg => ⟨⟨h.setX _ _ _ _ k.r.i hx (Nat.le_trans hB hBX) hg, k.r.b.grown hg (by simp; omega), k.r.s.kept hg (fun k hk => by cases hk; exact ⟨_, _, hx, by decide⟩)⟩, Nat.le_trans k.le hg.size⟩⟩
def RdsJ (I : World → Prop) (p : Int) (l : List UInt8) (x e : Value) (wx : World) : Prop := ∃ X u, x = .pointer (some ⟨X, 0, none⟩) ∧ e = .int .i64 (outE p l) ∧ Blk wx X tArgs ((outA p l).at u).cells.toArray ∧ BS wx u (outA p l).dl ∧ I wx
set_option maxRecDepth 100000 in
set_option maxHeartbeats 8000000 in
theorem reads_c (v0 : Value) (l0 : List UInt8) (a : AA) (u : Value) (at0 : Int) (cb : UInt8) (proc : Int) (w : World) (hb0 : BR w.heap.size w v0 l0) (hl0 : l0.length ≤ 9223372036854775807) (ha : Raw w a u)
    (hat : -9223372036854775808 ≤ at0 ∧ at0 ≤ 9223372036854775807) (hpr : -9223372036854775808 ≤ proc ∧ proc ≤ 9223372036854775807) :
    Calls Try.prog 5 #[v0, (a.at u).val, .int .i64 at0, .int .u8 (cb.toNat : Int), .int .i64 proc] w fun e w' => e = .returned (.bool true) ∧ w.grownBy w' none := by
  have ha1 := ha.grown (gb_alloc (gb_refl w none) (.cells (a.at u).cells.toArray tArgs))
  obtain ⟨B0, hB0, hu⟩ := ha.d
  obtain ⟨Au, cu, hue, _⟩ := id hu
  subst hue
  obtain ⟨A0, c0, rfl, _⟩ := id hb0
  have HB0 := hide hb0
  have HA := hide ha1
  have F := good_facts a
  obtain ⟨g, hgd⟩ : ∃ g, goodA a = g := ⟨_, rfl⟩
  clear ha ha1 hu hb0
  simp only [AA.at, AA.val, AA.cells]
  go_enter Try.func5, Try.ntmps5
  go_wp2_with fail
  refine (good_c a (.slice Au a.dl.length cu) _ HA.out).mono ?_
  rintro e w1 ⟨u1, rfl, hb1, hg1⟩
  have F1 := F u1
  have f3 := F1.pos
  have f5 := F1.le
  have f6 := F1.n1
  have f7 := F1.n2
  have f8 := F1.dl
  rw [hgd] at f3 f5 f6 f7 f8 hb1 ⊢
  clear F F1 HA
  obtain ⟨A1, c1, hue, _⟩ := id hb1
  subst hue
  have g1 := gb_trans (gb_alloc (gb_refl w none) _) hg1
  have hok : (g.at (.slice A1 g.dl.length c1)).ok (w1.alloc (.cells (g.at (.slice A1 g.dl.length c1)).cells.toArray tArgs)) := ⟨by show g.name.size ≤ _; omega, by show g.name2.size ≤ _; omega, hb1.alloc _, by show g.dl.length ≤ _; omega⟩
  have Hok := hide hok
  have bT : Blk (w1.alloc (.cells (g.at (.slice A1 g.dl.length c1)).cells.toArray tArgs)) w1.heap.size tArgs (g.at (.slice A1 g.dl.length c1)).cells.toArray := Blk.new _ _ _
  have g2 := gb_alloc g1 (.cells (g.at (.slice A1 g.dl.length c1)).cells.toArray tArgs)
  have HT := hide (And.intro g2 bT)
  clear hb1 hok hg1 bT g2 g1
  simp only [AA.at, AA.val, AA.cells]
  go_wp2_with fail
  refine (Bytes_c (g.at (.slice A1 g.dl.length c1)) _ Hok.out).mono ?_
  rintro e w2 ⟨A2, n2, c2, rfl, ho2, hg2⟩
  obtain ⟨b, hb⟩ : ∃ b, b = (g.at (.slice A1 g.dl.length c1)).refB := ⟨_, rfl⟩
  rw [← hb] at ho2 f5 f3
  obtain rfl := ho2.len
  have hcap : b.length ≤ c2 := ho2.bs.cells.2.1
  have T2 := hide (And.intro (gb_trans HT.out.1 hg2) (HT.out.2.grown hg2 (by simp)))
  have hT2 := T2.out.2.lt
  have HO2 := hide ho2.bl
  clear hb Hok HT ho2 hg2
  generalize w1.heap.size = T at *
  go_wp2_with fail
  refine (around_c at0 b.length _ (by omega) (by omega) (by omega) (by omega)).mono ?_
  rintro e w3 ⟨rfl, rfl⟩
  have h0 := aroundN_nonneg at0 b.length (by omega)
  have h1 := aroundN_lt at0 b.length (by omega)
  obtain ⟨k, hk⟩ : ∃ k : Nat, aroundN at0 b.length = k := ⟨(aroundN at0 b.length).toNat, by omega⟩
  rw [hk] at h0 h1 ⊢
  have hkb : k < b.length := by omega
  have hkc : k ≤ c2 := by omega
  clear hk h0 h1
  go_wp2_with fail
  refine (few_c _ b 400 (by omega) _ HO2.out.bs (by omega)).mono ?_
  rintro e w4 ⟨A3, n3, c3, rfl, ho3, hg3⟩
  rw [List.take_of_length_le (by omega)] at ho3
  obtain ⟨g3, rfl, rfl, hb3, hl3⟩ := ho3.at f3
  have T3 := hide (And.intro (gb_trans T2.out.1 hg3) (T2.out.2.grown hg3 (by simp)))
  have hO3 := HO2.out.grown hg3
  have hs3 := ho3.set k cb
  have hcell : w4.cell? ⟨g3, k, none⟩ = some (.int .u8 ((b[k]'hkb).toNat : Int)) := (World.ownsRow.cellAt ho3 k (by omega)).trans (bv_get hkb)
  have hfr : w4.frozen? ⟨g3, k, none⟩ = false := World.ownsRow.frozenAt ho3 k
  have T4 := hide (And.intro (gb_new T3.out.1 hs3.2 (Nat.le_trans T2.out.1.size hb3)) (T3.out.2.grown hs3.2 (by simp; omega)))
  have O4 := hide (And.intro (hO3.kept hs3.2 (fun k hk => by cases hk; exact hb3)) hs3.1)
  clear T2 HO2 hO3 hs3 T3 ho3
  go_wp2_with fail
  refine (few_c _ b 400 (by omega) _ O4.out.1.bs (by omega)).mono ?_
  rintro e w5 ⟨A4, n4, c4, rfl, ho4, hg4⟩
  rw [List.take_of_length_le (by omega)] at ho4
  obtain rfl := ho4.len
  clear hcell hfr hl3
  have hz4 : w3.heap.size ≤ (w4.setCell ⟨g3, k, none⟩ (.int .u8 (cb.toNat : Int))).heap.size := by simp; exact hg3.size
  have g5 := gb_trans T4.out.1 hg4
  have hwB := T4.out.1.size
  have hB5 := hg4.size
  have o5 := (O4.out.1.up hz4).grown hg4
  have q5 := O4.out.2.bl.grown hg4
  generalize (w4.setCell ⟨g3, k, none⟩ (.int .u8 (cb.toNat : Int))).heap.size = B5 at *
  have T5 := hide (And.intro g5 (T4.out.2.grown hg4 (by simp)))
  have hT5 : T < B5 := Nat.lt_of_lt_of_le hT2 hz4
  have O5 := hide (And.intro o5 q5)
  have HO4 := hide ho4
  clear g5 o5 q5 T4 O4 hg4 ho4 hg3 hb3
  go_wp2_with (at_builtin; refine wp_app rfl _ _ rfl B5 _ _ b [cb] rfl rfl (HO4.out.grown (gb_alloc (gb_refl _ _) _)) (BS.lit _ [cb] 1 rfl (by simp)) (by simp; omega) (by simp; omega) ?_)
  intro A5 n5 c5 w6 ho5 hg5
  have hrow : ∀ k, Value.ownBlock (.slice A4 b.length c4) = some k → B5 ≤ k := fun k hk => (World.ownsRow.lt HO4.out k hk).1
  have g6 := gb_new' (HO4.out.grown (gb_alloc (gb_refl _ none) _)) hwB (gb_alloc T5.out.1 _) hg5
  have T6 := hide (And.intro g6 ((T5.out.2.alloc _).grown hg5 (fun h => by have := hrow _ h.symm; omega)))
  have O6 := hide (And.intro ((O5.out.1.grown (gb_alloc (gb_refl _ none) _)).kept hg5 hrow).bs (And.intro ((O5.out.2.grown (gb_alloc (gb_refl _ none) _)).kept hg5 hrow).bs ho5.bs))
  have hn5 := ho5.len
  have hm5 : (b ++ [cb]).length ≤ 1000 := by simp; omega
  have hod : (b.set k cb).length ≤ 1000 := by simp; omega
  generalize b ++ [cb] = lm at *
  subst hn5
  clear ho5 hg5 hrow g6 T5 O5 HO4 hB5
  have lT := T6.out.2.lt
  have ct0 := T6.out.2.cell 0
  simp only [AA.at, AA.cells, List.getElem?_toArray, List.getElem?_cons_zero] at ct0
  go_wp2_with fail
  refine Reg.wp_reg [0, 1, 0, 0, 0, 0, 48, 0, 255, 511] [(0, .W), (1, .E false), (2, .W), (3, .W), (4, .W), (5, .W), (6, .W), (7, .W), (8, .E false), (9, .W)] (Reg.Old _) (by kernel_rfl) (by kernel_rfl) (fun _ => Reg.Old.drew (Reg.Old.refl _)) ?_
  repeat (first | (refine Reg.wpC_W rfl (fun K hK => ?_); go_simp; refine hK _ ?_; clear hK K) | (refine Reg.wpC_H2 rfl rfl (fun K hK => ?_); apply Exists.intro; refine ⟨fun w' hS => ?_, ?_⟩; (have hS2 := hS.2; clear hS; go_simp; first | done | rfl); go_simp; refine hK _ ?_; clear hK K) | (refine Reg.wpC_N rfl rfl (fun K hK => ?_); go_simp; refine hK _ ?_; clear hK K))
  refine Reg.wpC_E rfl (fun K hK => ?_)
  go_simp
  refine (few_r w.heap.size _ l0 80 (by omega) _ (HB0.out.kept (Nat.le_refl _) (gb_drew T6.out.1) (fun _ h => by cases h)) hl0).mono ?_
  rintro e w7 ⟨A7, n7, c7, rfl, ho7, hg7⟩
  have hl7 : (l0.take 80).length ≤ 80 := List.length_take_le _ _
  have hn7 := ho7.len
  generalize l0.take 80 = lz at *
  subst hn7
  have g7 := gb_trans (gb_drew T6.out.1) hg7
  have T7 := hide (And.intro g7 (T6.out.2.drew.grown hg7 (by simp)))
  have O7 := hide (And.intro (O6.out.1.drew.grown hg7) (And.intro (O6.out.2.1.drew.grown hg7) (And.intro (O6.out.2.2.drew.grown hg7) ho7.bs)))
  clear T6 O6 ho7 hg7 g7 HB0 ct0 lT
  refine hK _ _ (fun h => by cases h) ?_
  clear hK K
  repeat (first | (refine Reg.wpC_W rfl (fun K hK => ?_); go_simp; refine hK _ ?_; clear hK K) | (refine Reg.wpC_H2 rfl rfl (fun K hK => ?_); apply Exists.intro; refine ⟨fun w' hS => ?_, ?_⟩; (have hS2 := hS.2; clear hS; go_simp; first | done | rfl); go_simp; refine hK _ ?_; clear hK K) | (refine Reg.wpC_N rfl rfl (fun K hK => ?_); go_simp; refine hK _ ?_; clear hK K))
  refine Reg.wpC_E rfl (fun K hK => ?_)
  go_simp
  refine hK _ _ (fun h => by cases h) ?_
  clear hK K
  repeat (first | (refine Reg.wpC_W rfl (fun K hK => ?_); go_simp; refine hK _ ?_; clear hK K) | (refine Reg.wpC_H2 rfl rfl (fun K hK => ?_); apply Exists.intro; refine ⟨fun w' hS => ?_, ?_⟩; (have hS2 := hS.2; clear hS; go_simp; first | done | rfl); go_simp; refine hK _ ?_; clear hK K) | (refine Reg.wpC_N rfl rfl (fun K hK => ?_); go_simp; refine hK _ ?_; clear hK K))
  refine Reg.wpC_nil ?_
  obtain ⟨Ba, hBa⟩ : ∃ Ba, w7.heap.size = Ba := ⟨_, rfl⟩
  obtain ⟨wa, hwa⟩ : ∃ wa, w7.alloc (.cells #[.slice A7 lz.length c7, .slice A2 b.length c2, .slice (some ⟨g3, 0, none⟩) b.length c3, .slice A2 k c2, .slice A5 lm.length c5] tBs) = wa := ⟨_, rfl⟩
  have ga : w7.grownBy wa none := by rw [← hwa]; exact gb_alloc (gb_refl _ _) _
  have bA : Blk wa Ba tBs [.slice A7 lz.length c7, .slice A2 b.length c2, .slice (some ⟨g3, 0, none⟩) b.length c3, .slice A2 k c2, .slice A5 lm.length c5].toArray := by rw [← hwa, ← hBa]; exact Blk.new w7 tBs _
  have bs := bs5 (O7.out.2.2.2.grown ga) (O7.out.1.grown ga) (O7.out.2.1.grown ga) ((O7.out.1.take (k := k) (by omega)).grown ga) (O7.out.2.2.1.grown ga)
  have hlen : ∀ (i : Nat) l, [lz, b, b.set k cb, b.take k, lm][i]? = some l → l.length ≤ 1000 := by
    intro i l hl
    match i with
    | 0 => cases hl; omega
    | 1 => cases hl; omega
    | 2 => cases hl; exact hod
    | 3 => cases hl; rw [List.length_take]; omega
    | 4 => cases hl; exact hm5
    | n + 5 => simp at hl
  have X7 := hide (And.intro (gb_trans T7.out.1 ga) (And.intro (T7.out.2.grown ga (by simp)) (And.intro bA bs)))
  have Hlen := hide hlen
  clear T7 O7 bA bs ga hlen
  rw [hBa]
  simp only [tBs] at hwa
  rw [hwa]
  clear hwa hBa
  have lT := X7.out.2.1.lt
  have ct0 := X7.out.2.1.cell 0
  simp only [AA.at, AA.cells, List.getElem?_toArray, List.getElem?_cons_zero] at ct0
  go_wp2_with fail
  refine Reg.wp_reg [0, 0, 2, 0, 8, 31, 63] [(0, .W), (1, .W), (2, .H), (3, .W), (4, .Q), (5, .E false), (6, .W)] (Reg.Old _) (by kernel_rfl) (by kernel_rfl) (fun _ => Reg.Old.drew (Reg.Old.refl _)) ?_
  repeat (first | (refine Reg.wpC_W rfl (fun K hK => ?_); go_simp; refine hK _ ?_; clear hK K) | (refine Reg.wpC_H2 rfl rfl (fun K hK => ?_); apply Exists.intro; refine ⟨fun w' hS => ?_, ?_⟩; (have hS2 := hS.2; clear hS; go_simp; first | done | rfl); go_simp; refine hK _ ?_; clear hK K) | (refine Reg.wpC_N rfl rfl (fun K hK => ?_); go_simp; refine hK _ ?_; clear hK K))
  refine Reg.wpC_Q2 rfl rfl (fun K hK => ?_)
  refine ⟨.int .i64 (aroundN proc 18), fun w' hS => ?qt, ?_⟩
  case qt => (unfold Oper.quietAt; go_simp; exact ⟨rfl, (around_c proc 18 w' hpr.1 hpr.2 (by omega) (by omega)).mono fun e w'' h => h⟩)
  go_simp
  refine hK _ ?_
  clear hK K
  repeat (first | (refine Reg.wpC_W rfl (fun K hK => ?_); go_simp; refine hK _ ?_; clear hK K) | (refine Reg.wpC_H2 rfl rfl (fun K hK => ?_); apply Exists.intro; refine ⟨fun w' hS => ?_, ?_⟩; (have hS2 := hS.2; clear hS; go_simp; first | done | rfl); go_simp; refine hK _ ?_; clear hK K) | (refine Reg.wpC_N rfl rfl (fun K hK => ?_); go_simp; refine hK _ ?_; clear hK K))
  refine Reg.wpC_E rfl (fun K hK => ?_)
  go_simp
  refine hK _ _ (fun h => by cases h) ?_
  clear hK K
  repeat (first | (refine Reg.wpC_W rfl (fun K hK => ?_); go_simp; refine hK _ ?_; clear hK K) | (refine Reg.wpC_H2 rfl rfl (fun K hK => ?_); apply Exists.intro; refine ⟨fun w' hS => ?_, ?_⟩; (have hS2 := hS.2; clear hS; go_simp; first | done | rfl); go_simp; refine hK _ ?_; clear hK K) | (refine Reg.wpC_N rfl rfl (fun K hK => ?_); go_simp; refine hK _ ?_; clear hK K))
  refine Reg.wpC_nil ?_
  have I8 : RdsI w Ba wa.heap.size [.slice A7 lz.length c7, .slice A2 b.length c2, .slice (some ⟨g3, 0, none⟩) b.length c3, .slice A2 k c2, .slice A5 lm.length c5] [lz, b, b.set k cb, b.take k, lm] [proc, g.proc, aroundN proc 18] (wa.alloc (.cells #[.int .i64 proc, .int .i64 g.proc, .int .i64 (aroundN proc 18)] tInt)).drew :=
    ⟨gb_drew (gb_alloc X7.out.1 _), (X7.out.2.2.1.alloc _).drew, (Blk.new wa tInt _).drew, fun i v l h1 h2 => ((X7.out.2.2.2 i v l h1 h2).alloc _).drew⟩
  generalize hvs : [Value.slice A7 lz.length c7, .slice A2 b.length c2, .slice (some ⟨g3, 0, none⟩) b.length c3, .slice A2 k c2, .slice A5 lm.length c5] = vs at I8
  generalize hls : [lz, b, b.set k cb, b.take k, lm] = ls at I8 Hlen
  generalize hps : [proc, g.proc, aroundN proc 18] = ps at I8
  have hv5 : vs.length = 5 := by rw [← hvs]; rfl
  have hl5 : ls.length = 5 := by rw [← hls]; rfl
  have hp3 : ps.length = 3 := by rw [← hps]; rfl
  clear hvs hls hps X7 lT ct0
  refine genW (C := fun wz => Exit.then _ _ _ _ wz) (I := fun wz => RdsI w Ba wa.heap.size vs ls ps wz) I8 fun wr0 I0 => ?_
  clear I8
  generalize wa.heap.size = Bp at *
  have HI0 := hide I0
  have HV5 := hide hv5
  have HL5 := hide hl5
  have HP3 := hide hp3
  clear I0 hv5 hl5 hp3 hm5 hod hl7 hcap hkc hkb f3 f5 hT5 hwB hT2
  go_wp2_with fail
  go_loopw [18] (fun i wr => ∃ n : Nat, n ≤ 5 ∧ i = .int .i64 n ∧ RdsI w Ba Bp vs ls ps wr) (fun i _ => 5 - (intOf i).toNat)
  case atStart => exact ⟨0, Nat.zero_le _, rfl, HI0.out⟩
  case round =>
    obtain ⟨n, hn, rfl, I⟩ := hrel
    have HI := hide I
    clear I HI0
    by_cases hlt : n < 5
    · have hnI : (n : Int) < 5 := by omega
      obtain ⟨v, hv⟩ : ∃ v, vs[n]? = some v := ⟨_, List.getElem?_eq_getElem (by rw [HV5.out]; exact hlt)⟩
      obtain ⟨l, hl⟩ : ∃ l, ls[n]? = some l := ⟨_, List.getElem?_eq_getElem (by rw [HL5.out]; exact hlt)⟩
      have hll := Hlen.out n l hl
      have HV := hide hv
      have HL := hide hl
      clear hv hl
      go_wp2_with fail
      go_loopw [19] (fun q wr => ∃ m : Nat, m ≤ 3 ∧ q = .int .i64 m ∧ RdsI w Ba Bp vs ls ps wr) (fun q _ => 3 - (intOf q).toNat)
      case atStart => exact ⟨0, Nat.zero_le _, rfl, HI.out⟩
      case round =>
        obtain ⟨m, hm, rfl, I⟩ := hrel
        have HI := hide I
        clear I
        by_cases hlt3 : m < 3
        · have hmI : (m : Int) < 3 := by omega
          obtain ⟨p, hp⟩ : ∃ p, ps[m]? = some p := ⟨_, List.getElem?_eq_getElem (by rw [HP3.out]; exact hlt3)⟩
          have cA := HI.out.bA.cell n
          rw [List.getElem?_toArray, HV.out] at cA
          have cP := HI.out.bP.cell m
          rw [List.getElem?_toArray, List.getElem?_map, hp, Option.map_some] at cP
          have hbs := hide (HI.out.bs n v l HV.out HL.out)
          have HR := hide (fun wz (hz : BS wz v l) => (cReadAll_c p v l wz hz (by omega)).mono fun e w' h => RdOut.of h)
          have HR2 := hide (fun wz (hz : BS wz v l) => (rReadAll_c p v l wz hz (by omega)).mono fun e w' h => RdOut.of h)
          have HK := hide (RdsI.keeps (w := w) (Ba := Ba) (Bp := Bp) (vs := vs) (ls := ls) (ps := ps))
          have Hp := hide hp
          clear hp
          have lA := HI.out.bA.lt
          have lP := HI.out.bP.lt
          go_upto_region 15 with fail
          go_cut [20, 21] from 62 to 98 (fun x e wx => RdsJ (RdsI w Ba Bp vs ls ps) p l x e wx)
          case first =>
            refine Reg.wp_reg2 [0, 0, 3, 7, 0, 0, 48, 112, 255, 511, 1023, 1023, 0, 6143, 16383] [(0, .W), (1, .W), (2, .W), (3, .H), (4, .W), (5, .W), (6, .W), (7, .H), (8, .E false), (9, .W), (10, .W), (11, .W), (12, .E true), (13, .E false), (14, .W)] [[(12, .E true), (0, .W), (1, .W), (2, .W), (3, .H), (4, .W), (5, .W), (6, .W), (7, .H), (8, .E false), (9, .W), (10, .W), (11, .W), (13, .E false), (14, .W)]] (Reg.Old _) (by kernel_rfl) (by kernel_rfl) (Reg.Old.drew (Reg.Old.refl _)) (two ?_ ?_)
            · repeat (first | (refine Reg.wpC_W rfl (fun K hK => ?_); go_simp; refine hK _ ?_; clear hK K) | (refine Reg.wpC_H2 rfl rfl (fun K hK => ?_); apply Exists.intro; refine ⟨fun w' hS => ?_, ?_⟩; (have hS2 := hS.2; clear hS; go_simp; first | done | rfl); go_simp; refine hK _ ?_; clear hK K) | (refine Reg.wpC_N rfl rfl (fun K hK => ?_); go_simp; refine hK _ ?_; clear hK K))
              refine Reg.wpC_E rfl (fun K hK => ?_)
              go_simp
              refine (HR.out _ (BS.drew hbs.out)).mono ?_
              rintro e w4 ⟨u4, rfl, hb4, hg4⟩
              obtain ⟨Au4, cu4, hue, _⟩ := id hb4
              subst hue
              have hO := (Reg.Old.refl _).drew.grown hg4
              have I4 := HK.out.grown _ _ (HK.out.grown _ _ (HK.out.grown _ _ HI.out (gb_drew (gb_refl _ _))) hg4) (gb_alloc (gb_refl _ none) (.cells ((outA p l).at (.slice Au4 (outA p l).dl.length cu4)).cells.toArray tArgs))
              have HI4 := hide I4
              have HO := hide hO
              have HB4 := hide hb4
              clear hO I4 hb4
              simp only [AA.at, AA.val, AA.cells]
              refine hK _ _ (fun h => by cases h) ?_
              clear hK K
              repeat (first | (refine Reg.wpC_W rfl (fun K hK => ?_); go_simp; refine hK _ ?_; clear hK K) | (refine Reg.wpC_H2 rfl rfl (fun K hK => ?_); apply Exists.intro; refine ⟨fun w' hS => ?_, ?_⟩; (have hS2 := hS.2; clear hS; go_simp; first | done | rfl); go_simp; refine hK _ ?_; clear hK K) | (refine Reg.wpC_N rfl rfl (fun K hK => ?_); go_simp; refine hK _ ?_; clear hK K))
              refine Reg.wpC_E rfl (fun K hK => ?_)
              go_simp
              refine hK _ _ (fun _ => ?so) ?_
              case so => exact HO.out.alloc _
              clear hK K
              repeat (first | (refine Reg.wpC_W rfl (fun K hK => ?_); go_simp; refine hK _ ?_; clear hK K) | (refine Reg.wpC_H2 rfl rfl (fun K hK => ?_); apply Exists.intro; refine ⟨fun w' hS => ?_, ?_⟩; (have hS2 := hS.2; clear hS; go_simp; first | done | rfl); go_simp; refine hK _ ?_; clear hK K) | (refine Reg.wpC_N rfl rfl (fun K hK => ?_); go_simp; refine hK _ ?_; clear hK K))
              refine Reg.wpC_E rfl (fun K hK => ?_)
              go_simp
              refine hK _ _ (fun h => by cases h) ?_
              clear hK K
              repeat (first | (refine Reg.wpC_W rfl (fun K hK => ?_); go_simp; refine hK _ ?_; clear hK K) | (refine Reg.wpC_H2 rfl rfl (fun K hK => ?_); apply Exists.intro; refine ⟨fun w' hS => ?_, ?_⟩; (have hS2 := hS.2; clear hS; go_simp; first | done | rfl); go_simp; refine hK _ ?_; clear hK K) | (refine Reg.wpC_N rfl rfl (fun K hK => ?_); go_simp; refine hK _ ?_; clear hK K))
              refine Reg.wpC_nil ?_
              go_wp2_with fail
              go_meet
              exact ⟨_, _, rfl, rfl, Blk.new w4 tArgs ((outA p l).at (.slice Au4 (outA p l).dl.length cu4)).cells.toArray, HB4.out.alloc _, HI4.out⟩
            · refine Reg.wpC_E rfl (fun K hK => ?_)
              go_simp
              have bX := Blk.new wr tArgs (zeroA 0).cells.toArray
              have HX := hide bX
              have HI4 := hide (HK.out.grown _ _ HI.out (gb_alloc (gb_refl _ none) (.cells (zeroA 0).cells.toArray tArgs)))
              have HBS4 := hide (BS.alloc hbs.out (.cells (zeroA 0).cells.toArray tArgs))
              have hwX := HK.out.le _ HI.out
              clear bX
              refine hK _ _ (fun _ => ?so) ?_
              case so => exact ((Reg.Old.refl _).alloc _).drew
              clear hK K
              repeat (first | (refine Reg.wpC_W rfl (fun K hK => ?_); go_simp; refine hK _ ?_; clear hK K) | (refine Reg.wpC_H2 rfl rfl (fun K hK => ?_); apply Exists.intro; refine ⟨fun w' hS => ?_, ?_⟩; (have hS2 := hS.2; clear hS; go_simp; first | done | rfl); go_simp; refine hK _ ?_; clear hK K) | (refine Reg.wpC_N rfl rfl (fun K hK => ?_); go_simp; refine hK _ ?_; clear hK K))
              refine Reg.wpC_E rfl (fun K hK => ?_)
              go_simp
              refine (HR.out _ HBS4.out.drew).mono ?_
              rintro e w4 ⟨u4, rfl, hb4, hg4⟩
              obtain ⟨Au4, cu4, hue, _⟩ := id hb4
              subst hue
              have HI5 := hide (HK.out.grown _ _ (HK.out.grown _ _ HI4.out (gb_drew (gb_refl _ _))) hg4)
              have bX5 := HX.out.drew.grown hg4 (by simp)
              have HX5 := hide bX5
              have HB4 := hide hb4
              have lX := bX5.lt
              obtain ⟨x0, x1, x2, x3, x4, x5, x6, x7, x8, x9, x10, x11⟩ := Blk.args (a := zeroA 0) (u := .slice none 0 0) bX5
              have fX := bX5.frozen
              clear bX5 hg4 hb4 HBS4 HI4 HX cA cP lA lP
              generalize wr.heap.size = X at *
              simp only [AA.at, AA.val, AA.cells]
              refine hK _ _ (fun h => by cases h) ?_
              clear hK K
              repeat (first | (refine Reg.wpC_W rfl (fun K hK => ?_); go_simp; refine hK _ ?_; clear hK K) | (refine Reg.wpC_H2 rfl rfl (fun K hK => ?_); apply Exists.intro; refine ⟨fun w' hS => ?_, ?_⟩; (have hS2 := hS.2; clear hS; go_simp; first | done | rfl); go_simp; refine hK _ ?_; clear hK K) | (refine Reg.wpC_N rfl rfl (fun K hK => ?_); go_simp; refine hK _ ?_; clear hK K))
              refine Reg.wpC_E rfl (fun K hK => ?_)
              go_simp
              refine hK _ _ (fun h => by cases h) ?_
              clear hK K
              repeat (first | (refine Reg.wpC_W rfl (fun K hK => ?_); go_simp; refine hK _ ?_; clear hK K) | (refine Reg.wpC_H2 rfl rfl (fun K hK => ?_); apply Exists.intro; refine ⟨fun w' hS => ?_, ?_⟩; (have hS2 := hS.2; clear hS; go_simp; first | done | rfl); go_simp; refine hK _ ?_; clear hK K) | (refine Reg.wpC_N rfl rfl (fun K hK => ?_); go_simp; refine hK _ ?_; clear hK K))
              refine Reg.wpC_nil ?_
              go_wp2_with fail
              go_meet
              exact ⟨_, _, rfl, rfl, (put12 _ _ _ _ _ _ _ _ _ _ _ _ HX5.out rfl).1, HB4.out.kept (put12 _ _ _ _ _ _ _ _ _ _ _ _ HX5.out rfl).2 (fun k hk => by cases hk; exact ⟨_, _, HX5.out, by decide⟩), HK.out.setX _ _ _ _ HI5.out HX5.out hwX (put12 _ _ _ _ _ _ _ _ _ _ _ _ HX5.out rfl).2⟩
          case rest =>
            obtain ⟨X1, u1, rfl, rfl, bX1, bs1, I1⟩ := hcut
            have hbs2 := hide (I1.bs n v l HV.out HL.out)
            have lX1 := bX1.lt
            have hB1 := I1.g.size
            have HI1 := hide (RdsY.mk (RdsX.mk I1 bX1 bs1) (Nat.le_refl wc.heap.size))
            have HK1 := hide (RdsY.keeps (x := outA p l) (u1 := u1) HK.out hB1 lX1)
            have cA := I1.bA.cell n
            rw [List.getElem?_toArray, HV.out] at cA
            have cP := I1.bP.cell m
            rw [List.getElem?_toArray, List.getElem?_map, Hp.out, Option.map_some] at cP
            have lA := I1.bA.lt
            have lP := I1.bP.lt
            clear I1 bX1 bs1
            go_upto_region 16 with fail
            go_cut [22, 23] from 62 to 98 (fun x e wx => RdsJ (RdsY (RdsI w Ba Bp vs ls ps) wc.heap.size X1 (outA p l) u1) p l x e wx)
            case first =>
              refine Reg.wp_reg2 [0, 0, 3, 7, 0, 0, 48, 112, 255, 511, 1023, 1023, 0, 6143, 16383] [(0, .W), (1, .W), (2, .W), (3, .H), (4, .W), (5, .W), (6, .W), (7, .H), (8, .E false), (9, .W), (10, .W), (11, .W), (12, .E true), (13, .E false), (14, .W)] [[(12, .E true), (0, .W), (1, .W), (2, .W), (3, .H), (4, .W), (5, .W), (6, .W), (7, .H), (8, .E false), (9, .W), (10, .W), (11, .W), (13, .E false), (14, .W)]] (Reg.Old _) (by kernel_rfl) (by kernel_rfl) (Reg.Old.drew (Reg.Old.refl _)) (two ?_ ?_)
              · repeat (first | (refine Reg.wpC_W rfl (fun K hK => ?_); go_simp; refine hK _ ?_; clear hK K) | (refine Reg.wpC_H2 rfl rfl (fun K hK => ?_); apply Exists.intro; refine ⟨fun w' hS => ?_, ?_⟩; (have hS2 := hS.2; clear hS; go_simp; first | done | rfl); go_simp; refine hK _ ?_; clear hK K) | (refine Reg.wpC_N rfl rfl (fun K hK => ?_); go_simp; refine hK _ ?_; clear hK K))
                refine Reg.wpC_E rfl (fun K hK => ?_)
                go_simp
                refine (HR2.out _ (BS.drew hbs2.out)).mono ?_
                rintro e w4 ⟨u4, rfl, hb4, hg4⟩
                obtain ⟨Au4, cu4, hue, _⟩ := id hb4
                subst hue
                have hO := (Reg.Old.refl _).drew.grown hg4
                have I4 := HK1.out.grown _ _ (HK1.out.grown _ _ (HK1.out.grown _ _ HI1.out (gb_drew (gb_refl _ _))) hg4) (gb_alloc (gb_refl _ none) (.cells ((outA p l).at (.slice Au4 (outA p l).dl.length cu4)).cells.toArray tArgs))
                have HI4 := hide I4
                have HO := hide hO
                have HB4 := hide hb4
                clear hO I4 hb4
                simp only [AA.at, AA.val, AA.cells]
                refine hK _ _ (fun h => by cases h) ?_
                clear hK K
                repeat (first | (refine Reg.wpC_W rfl (fun K hK => ?_); go_simp; refine hK _ ?_; clear hK K) | (refine Reg.wpC_H2 rfl rfl (fun K hK => ?_); apply Exists.intro; refine ⟨fun w' hS => ?_, ?_⟩; (have hS2 := hS.2; clear hS; go_simp; first | done | rfl); go_simp; refine hK _ ?_; clear hK K) | (refine Reg.wpC_N rfl rfl (fun K hK => ?_); go_simp; refine hK _ ?_; clear hK K))
                refine Reg.wpC_E rfl (fun K hK => ?_)
                go_simp
                refine hK _ _ (fun _ => ?so) ?_
                case so => exact HO.out.alloc _
                clear hK K
                repeat (first | (refine Reg.wpC_W rfl (fun K hK => ?_); go_simp; refine hK _ ?_; clear hK K) | (refine Reg.wpC_H2 rfl rfl (fun K hK => ?_); apply Exists.intro; refine ⟨fun w' hS => ?_, ?_⟩; (have hS2 := hS.2; clear hS; go_simp; first | done | rfl); go_simp; refine hK _ ?_; clear hK K) | (refine Reg.wpC_N rfl rfl (fun K hK => ?_); go_simp; refine hK _ ?_; clear hK K))
                refine Reg.wpC_E rfl (fun K hK => ?_)
                go_simp
                refine hK _ _ (fun h => by cases h) ?_
                clear hK K
                repeat (first | (refine Reg.wpC_W rfl (fun K hK => ?_); go_simp; refine hK _ ?_; clear hK K) | (refine Reg.wpC_H2 rfl rfl (fun K hK => ?_); apply Exists.intro; refine ⟨fun w' hS => ?_, ?_⟩; (have hS2 := hS.2; clear hS; go_simp; first | done | rfl); go_simp; refine hK _ ?_; clear hK K) | (refine Reg.wpC_N rfl rfl (fun K hK => ?_); go_simp; refine hK _ ?_; clear hK K))
                refine Reg.wpC_nil ?_
                go_wp2_with fail
                go_meet
                exact ⟨_, _, rfl, rfl, Blk.new w4 tArgs ((outA p l).at (.slice Au4 (outA p l).dl.length cu4)).cells.toArray, HB4.out.alloc _, HI4.out⟩
              · refine Reg.wpC_E rfl (fun K hK => ?_)
                go_simp
                have bX := Blk.new wc tArgs (zeroA 0).cells.toArray
                have HX := hide bX
                have HI4 := hide (HK1.out.grown _ _ HI1.out (gb_alloc (gb_refl _ none) (.cells (zeroA 0).cells.toArray tArgs)))
                have HBS4 := hide (BS.alloc hbs2.out (.cells (zeroA 0).cells.toArray tArgs))
                have hwX := HK1.out.le _ HI1.out
                clear bX
                refine hK _ _ (fun _ => ?so) ?_
                case so => exact ((Reg.Old.refl _).alloc _).drew
                clear hK K
                repeat (first | (refine Reg.wpC_W rfl (fun K hK => ?_); go_simp; refine hK _ ?_; clear hK K) | (refine Reg.wpC_H2 rfl rfl (fun K hK => ?_); apply Exists.intro; refine ⟨fun w' hS => ?_, ?_⟩; (have hS2 := hS.2; clear hS; go_simp; first | done | rfl); go_simp; refine hK _ ?_; clear hK K) | (refine Reg.wpC_N rfl rfl (fun K hK => ?_); go_simp; refine hK _ ?_; clear hK K))
                refine Reg.wpC_E rfl (fun K hK => ?_)
                go_simp
                refine (HR2.out _ HBS4.out.drew).mono ?_
                rintro e w4 ⟨u4, rfl, hb4, hg4⟩
                obtain ⟨Au4, cu4, hue, _⟩ := id hb4
                subst hue
                have HI5 := hide (HK1.out.grown _ _ (HK1.out.grown _ _ HI4.out (gb_drew (gb_refl _ _))) hg4)
                have bX5 := HX.out.drew.grown hg4 (by simp)
                have HX5 := hide bX5
                have HB4 := hide hb4
                have lX := bX5.lt
                obtain ⟨x0, x1, x2, x3, x4, x5, x6, x7, x8, x9, x10, x11⟩ := Blk.args (a := zeroA 0) (u := .slice none 0 0) bX5
                have fX := bX5.frozen
                clear bX5 hg4 hb4 HBS4 HI4 HX cA cP lA lP
                generalize wc.heap.size = X at *
                simp only [AA.at, AA.val, AA.cells]
                refine hK _ _ (fun h => by cases h) ?_
                clear hK K
                repeat (first | (refine Reg.wpC_W rfl (fun K hK => ?_); go_simp; refine hK _ ?_; clear hK K) | (refine Reg.wpC_H2 rfl rfl (fun K hK => ?_); apply Exists.intro; refine ⟨fun w' hS => ?_, ?_⟩; (have hS2 := hS.2; clear hS; go_simp; first | done | rfl); go_simp; refine hK _ ?_; clear hK K) | (refine Reg.wpC_N rfl rfl (fun K hK => ?_); go_simp; refine hK _ ?_; clear hK K))
                refine Reg.wpC_E rfl (fun K hK => ?_)
                go_simp
                refine hK _ _ (fun h => by cases h) ?_
                clear hK K
                repeat (first | (refine Reg.wpC_W rfl (fun K hK => ?_); go_simp; refine hK _ ?_; clear hK K) | (refine Reg.wpC_H2 rfl rfl (fun K hK => ?_); apply Exists.intro; refine ⟨fun w' hS => ?_, ?_⟩; (have hS2 := hS.2; clear hS; go_simp; first | done | rfl); go_simp; refine hK _ ?_; clear hK K) | (refine Reg.wpC_N rfl rfl (fun K hK => ?_); go_simp; refine hK _ ?_; clear hK K))
                refine Reg.wpC_nil ?_
                go_wp2_with fail
                go_meet
                exact ⟨_, _, rfl, rfl, (put12 _ _ _ _ _ _ _ _ _ _ _ _ HX5.out rfl).1, HB4.out.kept (put12 _ _ _ _ _ _ _ _ _ _ _ _ HX5.out rfl).2 (fun k hk => by cases hk; exact ⟨_, _, HX5.out, by decide⟩), HK1.out.setX _ _ _ _ HI5.out HX5.out hwX (put12 _ _ _ _ _ _ _ _ _ _ _ _ HX5.out rfl).2⟩
            case rest =>
              clear cA cP lA lP lX1 hB1 hbs2 HI1 HK1
              obtain ⟨X2, u2, rfl, rfl, bX2, bs2, ⟨⟨I2, bX1, bs1⟩, _⟩⟩ := hcut
              obtain ⟨Au1, cu1, hue, _⟩ := id bs1
              subst hue
              obtain ⟨Au2, cu2, hue, _⟩ := id bs2
              subst hue
              have l1 := bX1.lt
              have l2 := bX2.lt
              obtain ⟨x0, x1, x2, x3, x4, x5, x6, x7, x8, x9, x10, x11⟩ := Blk.args bX1
              obtain ⟨y0, y1, y2, y3, y4, y5, y6, y7, y8, y9, y10, y11⟩ := Blk.args bX2
              have HB1 := hide bs1
              have HB2 := hide bs2
              have HI2 := hide I2
              clear I2 bX1 bX2 bs1 bs2
              go_wp2_with fail
              refine (rsame_c (outA p l) (.slice Au1 (outA p l).dl.length cu1) (.slice Au2 (outA p l).dl.length cu2) _ HB1.out HB2.out).mono ?_
              rintro e w6 ⟨rfl, hg6⟩
              go_wp2_with fail
              go_roundw
              case rel => exact ⟨m + 1, by omega, by go_num, HI2.out.grown hg6⟩
              case measure => simp [intOf]; omega
        · obtain rfl : m = 3 := by omega
          go_wp2_with fail
          go_roundw
          case rel => exact ⟨n + 1, by omega, by go_num, HI.out⟩
          case measure => simp [intOf]; omega
    · obtain rfl : n = 5 := by omega
      go_wp2_with fail
      refine (lives14_c _).mono ?_
      rintro e w6 ⟨rfl, hg6⟩
      go_wp2_with fail
      go_ret
      exact ⟨rfl, gb_trans HI.out.g hg6⟩
end Go.Tr
