/- The walk of CallsRound. No condition. -/
import Derived.Test.YtblbihodpjfcbaaPure3
import Derived.Test.YtblbihodpjfcbaaRsame
import Derived.Test.YtblbihodpjfcbaaRread
import Derived.Test.YtblbihodpjfcbaaLaw
namespace Go.Tr
open Go.RowKit Go.Proofs
set_option linter.unusedVariables false
theorem sameA_at (g : AA) (u u' : Value) : sameA (g.at u) (g.at u') = true := by
  have h : ∀ s : ByteArray, (s == s) = true := fun s => by rw [beq_toListBytes]; simp
  simp [sameA, AA.at, AA.ints, h]
set_option maxHeartbeats 4000000 in
theorem round_c (a : AA) (u : Value) (w : World) (ha : Raw w a u) : Calls Try.prog 6 #[(a.at u).val] w fun e w' => e = .returned (.bool true) ∧ w.grownBy w' none := by
  have ha1 := ha.grown (gb_alloc (gb_refl w none) (.cells (a.at u).cells.toArray tArgs))
  obtain ⟨B0, hB0, hu⟩ := ha.d
  obtain ⟨Au, cu, hue, _⟩ := id hu
  subst hue
  have HA := hide ha1
  have F := good_facts a
  obtain ⟨g, hgd⟩ : ∃ g, goodA a = g := ⟨_, rfl⟩
  clear ha ha1 hu
  simp only [AA.at, AA.val, AA.cells]
  go_enter Try.func6, Try.ntmps6
  go_wp2_with fail
  refine (good_c a (.slice Au a.dl.length cu) _ HA.out).mono ?_
  rintro e w1 ⟨u1, rfl, hb1, hg1⟩
  have F1 := F u1
  have f1 := F1.may
  have f2 := F1.bytes
  have f3 := F1.read
  have f4 := F1.mod
  have f5 := F1.le
  have f6 := F1.n1
  have f7 := F1.n2
  have f8 := F1.dl
  rw [hgd] at f1 f2 f3 f4 f5 f6 f7 f8 hb1 ⊢
  clear F F1 HA
  obtain ⟨A1, c1, hue, _⟩ := id hb1
  subst hue
  have g1 := gb_trans (gb_alloc (gb_refl w none) _) hg1
  have HB1 := hide hb1
  have hok : ∀ w', BS w' (.slice A1 g.dl.length c1) g.dl → (g.at (.slice A1 g.dl.length c1)).ok w' := fun w' h => ⟨by show g.name.size ≤ _; omega, by show g.name2.size ≤ _; omega, h, by show g.dl.length ≤ _; omega⟩
  have Hok := hide hok
  have Hf := hide (And.intro f1 (And.intro f2 (And.intro f3 (And.intro f4 f5))))
  have bT : Blk (w1.alloc (.cells (g.at (.slice A1 g.dl.length c1)).cells.toArray tArgs)) w1.heap.size tArgs (g.at (.slice A1 g.dl.length c1)).cells.toArray := Blk.new _ _ _
  have HT := hide bT
  clear hb1 hok f1 f2 f3 f4 f5 f6 f7 f8 hg1 bT
  simp only [AA.at, AA.val, AA.cells]
  go_wp2_with fail
  refine (write_c (g.at (.slice A1 g.dl.length c1)) _ (Hok.out _ (HB1.out.alloc _))).mono ?_
  rintro e w2 ⟨v2, rfl, ho2, hg2⟩
  have he : (g.at (.slice A1 g.dl.length c1)).errno = 0 := by unfold AA.errno; rw [Hf.out.1]; rfl
  have hwr : (g.at (.slice A1 g.dl.length c1)).wrote = (g.at (.slice A1 g.dl.length c1)).refB := by unfold AA.wrote; rw [Hf.out.1, if_pos rfl, Hf.out.2.1]
  rw [hwr] at ho2
  rw [he]
  obtain ⟨b, hb⟩ : ∃ b, b = (g.at (.slice A1 g.dl.length c1)).refB := ⟨_, rfl⟩
  rw [← hb] at ho2
  obtain ⟨A2, c2, rfl⟩ := ho2.shape
  have hread : readP g.proc b = .ok g := by rw [hb]; exact Hf.out.2.2.1
  have hmod : b.length % 4 = 0 := by rw [hb]; exact Hf.out.2.2.2.1
  have hble : b.length ≤ 192 := by rw [hb]; exact Hf.out.2.2.2.2
  have hmodI : ((b.length : Int)) % 4 = 0 := by omega
  have bT2 := HT.out.grown hg2 (by simp)
  have g2 := gb_trans (gb_alloc g1 _) hg2
  have hB2 := (HB1.out.alloc _).grown hg2
  have HB2 := hide hB2
  have lT := bT2.lt
  obtain ⟨t0, t1, t2, t3, t4, t5, t6, t7, t8, t9, t10, t11⟩ := Blk.args bT2
  have HT2 := hide bT2
  have HO2 := hide ho2
  have HR := hide hread
  clear he hwr hb hread bT2 hB2 ho2 Hf HT HB1 hg2 hmod
  generalize w1.heap.size = T at *
  go_wp2_with fail
  refine (cReadAll_c g.proc _ b _ HO2.out.bs (by omega)).mono ?_
  rintro e w3 ⟨hg3, h3⟩
  rw [HR.out] at h3
  obtain ⟨u3, rfl, hb3⟩ := h3
  obtain ⟨A3, c3, hue, _⟩ := id hb3
  subst hue
  have bT3 := (HT2.out.grown hg3 (by simp)).alloc (.cells (g.at (.slice A3 g.dl.length c3)).cells.toArray tArgs)
  have b6 : Blk (w3.alloc (.cells (g.at (.slice A3 g.dl.length c3)).cells.toArray tArgs)) w3.heap.size tArgs (g.at (.slice A3 g.dl.length c3)).cells.toArray := Blk.new _ _ _
  have hB3 := (HB2.out.grown hg3).alloc (.cells (g.at (.slice A3 g.dl.length c3)).cells.toArray tArgs)
  have hB6 := hb3.alloc (.cells (g.at (.slice A3 g.dl.length c3)).cells.toArray tArgs)
  have g3 := gb_alloc (gb_trans g2 hg3) (.cells (g.at (.slice A3 g.dl.length c3)).cells.toArray tArgs)
  have X3 := hide (And.intro g3 (And.intro bT3 (And.intro b6 (And.intro hB3 hB6))))
  clear g3 bT3 b6 hB3 hB6 hb3 hg3 lT t0 t1 t2 t3 t4 t5 t6 t7 t8 t9 t10 t11 HT2 HB2 HO2 HR g1 g2
  simp only [AA.at, AA.val, AA.cells]
  go_upto_region 4 with fail
  refine genW (C := fun wz => Code.wp _ _ _ _ wz) (I := fun wz => w.grownBy wz none ∧ Blk wz T tArgs (g.at (.slice A1 g.dl.length c1)).cells.toArray ∧ Blk wz w3.heap.size tArgs (g.at (.slice A3 g.dl.length c3)).cells.toArray ∧ BS wz (.slice A1 g.dl.length c1) g.dl ∧ BS wz (.slice A3 g.dl.length c3) g.dl) X3.out fun wr I => ?_
  clear X3
  generalize w3.heap.size = B6 at *
  obtain ⟨g3, bT3, b6, hB3, hB6⟩ := I
  have lT := bT3.lt
  have l6 := b6.lt
  obtain ⟨t0, t1, t2, t3, t4, t5, t6, t7, t8, t9, t10, t11⟩ := Blk.args bT3
  obtain ⟨s0, s1, s2, s3, s4, s5, s6, s7, s8, s9, s10, s11⟩ := Blk.args b6
  have X3 := hide (And.intro g3 (And.intro bT3 (And.intro b6 (And.intro hB3 hB6))))
  clear bT3 b6 hB3 hB6 g3
  go_wp2_with fail
  refine (rsame_c g (.slice A3 g.dl.length c3) (.slice A1 g.dl.length c1) wr X3.out.2.2.2.2 X3.out.2.2.2.1).mono ?_
  rintro e w4 ⟨rfl, hg4⟩
  obtain ⟨k1, k2⟩ := gb_cells hg4
  go_wp2_with fail
  refine (same_c (g.at (.slice A3 g.dl.length c3)) (g.at (.slice A1 g.dl.length c1)) _ (X3.out.2.2.2.2.grown hg4) (X3.out.2.2.2.1.grown hg4)).mono ?_
  rintro e w5 ⟨rfl, hg5⟩
  rw [sameA_at]
  clear k1 k2
  go_wp2_with fail
  refine (lives14_c _).mono ?_
  rintro e w6 ⟨rfl, hg6⟩
  go_wp2_with fail
  go_ret
  exact ⟨rfl, gb_trans (gb_trans (gb_trans X3.out.1 hg4) hg5) hg6⟩
end Go.Tr
