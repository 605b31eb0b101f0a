/- Whether two answers are the same, whole. No condition. Printed by gen_same.py. -/
import Derived.Test.YtdbacbhopkdhgaaDoorSame
namespace Go.Tr
open Go.RowKit Go.Proofs
set_option linter.unusedVariables false
theorem sameR_iff (a b : RR) : sameR a b = true ↔ a = b := by
  obtain ⟨a0, a1, a2, a3, a4, a5⟩ := a
  obtain ⟨b0, b1, b2, b3, b4, b5⟩ := b
  simp [sameR, and_assoc, sameAtt_iff]
theorem sameR_no {a b : RR} (h : a ≠ b) : sameR a b = false := by
  cases hs : sameR a b
  · rfl
  · exact absurd ((sameR_iff a b).1 hs) h
theorem fin2 {w w1 : World} {o1 o2 : Obj} (h : ((w.alloc o1).alloc o2).grownBy w1 none) : w.grownBy w1 none := gb_trans (gb_alloc (gb_alloc (gb_refl w none) _) _) h
set_option maxHeartbeats 2000000 in
theorem asame_errno (errno1 : Int) (ino1 : Int) (gen1 : Int) (kind1 : Int) (mode1 : Int) (size1 : Int) (dl1 : List UInt8) (count1 : Int) (eof1 : Bool) (el1 : List Ent) (errno2 : Int) (ino2 : Int) (gen2 : Int) (kind2 : Int) (mode2 : Int) (size2 : Int) (dl2 : List UInt8) (count2 : Int) (eof2 : Bool) (el2 : List Ent) (hne : ¬ errno1 = errno2) (Au Av Au' Av' : Option Addr) (cu cv cu' cv' : Nat) (w : World) (ha : (RR.mk errno1 ⟨ino1, gen1, kind1, mode1, size1⟩ dl1 count1 eof1 el1).ok w (.slice Au dl1.length cu) (.slice Av el1.length cv)) (hb : (RR.mk errno2 ⟨ino2, gen2, kind2, mode2, size2⟩ dl2 count2 eof2 el2).ok w (.slice Au' dl2.length cu') (.slice Av' el2.length cv')) (hm : el1.length ≤ 1000000) :
    Calls Tryd.prog 19 #[(RR.mk errno1 ⟨ino1, gen1, kind1, mode1, size1⟩ dl1 count1 eof1 el1).val (.slice Au dl1.length cu) (.slice Av el1.length cv), (RR.mk errno2 ⟨ino2, gen2, kind2, mode2, size2⟩ dl2 count2 eof2 el2).val (.slice Au' dl2.length cu') (.slice Av' el2.length cv')] w fun e w' => e = .returned (.bool false) ∧ w.grownBy w' none := by
  have HA := hide ha
  have HB := hide hb
  have HM := hide hm
  clear ha hb hm
  unfold RR.val RR.cells
  go_enter Tryd.func19, Tryd.ntmps19
  go_wp2_with fail
  go_ret
  exact ⟨rfl, fin2 (gb_refl _ _)⟩
set_option maxHeartbeats 2000000 in
theorem asame_ino (errno1 : Int) (ino1 : Int) (gen1 : Int) (kind1 : Int) (mode1 : Int) (size1 : Int) (dl1 : List UInt8) (count1 : Int) (eof1 : Bool) (el1 : List Ent) (ino2 : Int) (gen2 : Int) (kind2 : Int) (mode2 : Int) (size2 : Int) (dl2 : List UInt8) (count2 : Int) (eof2 : Bool) (el2 : List Ent) (hne : ¬ ino1 = ino2) (Au Av Au' Av' : Option Addr) (cu cv cu' cv' : Nat) (w : World) (ha : (RR.mk errno1 ⟨ino1, gen1, kind1, mode1, size1⟩ dl1 count1 eof1 el1).ok w (.slice Au dl1.length cu) (.slice Av el1.length cv)) (hb : (RR.mk errno1 ⟨ino2, gen2, kind2, mode2, size2⟩ dl2 count2 eof2 el2).ok w (.slice Au' dl2.length cu') (.slice Av' el2.length cv')) (hm : el1.length ≤ 1000000) :
    Calls Tryd.prog 19 #[(RR.mk errno1 ⟨ino1, gen1, kind1, mode1, size1⟩ dl1 count1 eof1 el1).val (.slice Au dl1.length cu) (.slice Av el1.length cv), (RR.mk errno1 ⟨ino2, gen2, kind2, mode2, size2⟩ dl2 count2 eof2 el2).val (.slice Au' dl2.length cu') (.slice Av' el2.length cv')] w fun e w' => e = .returned (.bool false) ∧ w.grownBy w' none := by
  have HA := hide ha
  have HB := hide hb
  have HM := hide hm
  clear ha hb hm
  unfold RR.val RR.cells
  go_enter Tryd.func19, Tryd.ntmps19
  go_wp2_with fail
  go_ret
  exact ⟨rfl, fin2 (gb_refl _ _)⟩
set_option maxHeartbeats 2000000 in
theorem asame_gen (errno1 : Int) (ino1 : Int) (gen1 : Int) (kind1 : Int) (mode1 : Int) (size1 : Int) (dl1 : List UInt8) (count1 : Int) (eof1 : Bool) (el1 : List Ent) (gen2 : Int) (kind2 : Int) (mode2 : Int) (size2 : Int) (dl2 : List UInt8) (count2 : Int) (eof2 : Bool) (el2 : List Ent) (hne : ¬ gen1 = gen2) (Au Av Au' Av' : Option Addr) (cu cv cu' cv' : Nat) (w : World) (ha : (RR.mk errno1 ⟨ino1, gen1, kind1, mode1, size1⟩ dl1 count1 eof1 el1).ok w (.slice Au dl1.length cu) (.slice Av el1.length cv)) (hb : (RR.mk errno1 ⟨ino1, gen2, kind2, mode2, size2⟩ dl2 count2 eof2 el2).ok w (.slice Au' dl2.length cu') (.slice Av' el2.length cv')) (hm : el1.length ≤ 1000000) :
    Calls Tryd.prog 19 #[(RR.mk errno1 ⟨ino1, gen1, kind1, mode1, size1⟩ dl1 count1 eof1 el1).val (.slice Au dl1.length cu) (.slice Av el1.length cv), (RR.mk errno1 ⟨ino1, gen2, kind2, mode2, size2⟩ dl2 count2 eof2 el2).val (.slice Au' dl2.length cu') (.slice Av' el2.length cv')] w fun e w' => e = .returned (.bool false) ∧ w.grownBy w' none := by
  have HA := hide ha
  have HB := hide hb
  have HM := hide hm
  clear ha hb hm
  unfold RR.val RR.cells
  go_enter Tryd.func19, Tryd.ntmps19
  go_wp2_with fail
  go_ret
  exact ⟨rfl, fin2 (gb_refl _ _)⟩
set_option maxHeartbeats 2000000 in
theorem asame_kind (errno1 : Int) (ino1 : Int) (gen1 : Int) (kind1 : Int) (mode1 : Int) (size1 : Int) (dl1 : List UInt8) (count1 : Int) (eof1 : Bool) (el1 : List Ent) (kind2 : Int) (mode2 : Int) (size2 : Int) (dl2 : List UInt8) (count2 : Int) (eof2 : Bool) (el2 : List Ent) (hne : ¬ kind1 = kind2) (Au Av Au' Av' : Option Addr) (cu cv cu' cv' : Nat) (w : World) (ha : (RR.mk errno1 ⟨ino1, gen1, kind1, mode1, size1⟩ dl1 count1 eof1 el1).ok w (.slice Au dl1.length cu) (.slice Av el1.length cv)) (hb : (RR.mk errno1 ⟨ino1, gen1, kind2, mode2, size2⟩ dl2 count2 eof2 el2).ok w (.slice Au' dl2.length cu') (.slice Av' el2.length cv')) (hm : el1.length ≤ 1000000) :
    Calls Tryd.prog 19 #[(RR.mk errno1 ⟨ino1, gen1, kind1, mode1, size1⟩ dl1 count1 eof1 el1).val (.slice Au dl1.length cu) (.slice Av el1.length cv), (RR.mk errno1 ⟨ino1, gen1, kind2, mode2, size2⟩ dl2 count2 eof2 el2).val (.slice Au' dl2.length cu') (.slice Av' el2.length cv')] w fun e w' => e = .returned (.bool false) ∧ w.grownBy w' none := by
  have HA := hide ha
  have HB := hide hb
  have HM := hide hm
  clear ha hb hm
  unfold RR.val RR.cells
  go_enter Tryd.func19, Tryd.ntmps19
  go_wp2_with fail
  go_ret
  exact ⟨rfl, fin2 (gb_refl _ _)⟩
set_option maxHeartbeats 2000000 in
theorem asame_mode (errno1 : Int) (ino1 : Int) (gen1 : Int) (kind1 : Int) (mode1 : Int) (size1 : Int) (dl1 : List UInt8) (count1 : Int) (eof1 : Bool) (el1 : List Ent) (mode2 : Int) (size2 : Int) (dl2 : List UInt8) (count2 : Int) (eof2 : Bool) (el2 : List Ent) (hne : ¬ mode1 = mode2) (Au Av Au' Av' : Option Addr) (cu cv cu' cv' : Nat) (w : World) (ha : (RR.mk errno1 ⟨ino1, gen1, kind1, mode1, size1⟩ dl1 count1 eof1 el1).ok w (.slice Au dl1.length cu) (.slice Av el1.length cv)) (hb : (RR.mk errno1 ⟨ino1, gen1, kind1, mode2, size2⟩ dl2 count2 eof2 el2).ok w (.slice Au' dl2.length cu') (.slice Av' el2.length cv')) (hm : el1.length ≤ 1000000) :
    Calls Tryd.prog 19 #[(RR.mk errno1 ⟨ino1, gen1, kind1, mode1, size1⟩ dl1 count1 eof1 el1).val (.slice Au dl1.length cu) (.slice Av el1.length cv), (RR.mk errno1 ⟨ino1, gen1, kind1, mode2, size2⟩ dl2 count2 eof2 el2).val (.slice Au' dl2.length cu') (.slice Av' el2.length cv')] w fun e w' => e = .returned (.bool false) ∧ w.grownBy w' none := by
  have HA := hide ha
  have HB := hide hb
  have HM := hide hm
  clear ha hb hm
  unfold RR.val RR.cells
  go_enter Tryd.func19, Tryd.ntmps19
  go_wp2_with fail
  go_ret
  exact ⟨rfl, fin2 (gb_refl _ _)⟩
set_option maxHeartbeats 2000000 in
theorem asame_size (errno1 : Int) (ino1 : Int) (gen1 : Int) (kind1 : Int) (mode1 : Int) (size1 : Int) (dl1 : List UInt8) (count1 : Int) (eof1 : Bool) (el1 : List Ent) (size2 : Int) (dl2 : List UInt8) (count2 : Int) (eof2 : Bool) (el2 : List Ent) (hne : ¬ size1 = size2) (Au Av Au' Av' : Option Addr) (cu cv cu' cv' : Nat) (w : World) (ha : (RR.mk errno1 ⟨ino1, gen1, kind1, mode1, size1⟩ dl1 count1 eof1 el1).ok w (.slice Au dl1.length cu) (.slice Av el1.length cv)) (hb : (RR.mk errno1 ⟨ino1, gen1, kind1, mode1, size2⟩ dl2 count2 eof2 el2).ok w (.slice Au' dl2.length cu') (.slice Av' el2.length cv')) (hm : el1.length ≤ 1000000) :
    Calls Tryd.prog 19 #[(RR.mk errno1 ⟨ino1, gen1, kind1, mode1, size1⟩ dl1 count1 eof1 el1).val (.slice Au dl1.length cu) (.slice Av el1.length cv), (RR.mk errno1 ⟨ino1, gen1, kind1, mode1, size2⟩ dl2 count2 eof2 el2).val (.slice Au' dl2.length cu') (.slice Av' el2.length cv')] w fun e w' => e = .returned (.bool false) ∧ w.grownBy w' none := by
  have HA := hide ha
  have HB := hide hb
  have HM := hide hm
  clear ha hb hm
  unfold RR.val RR.cells
  go_enter Tryd.func19, Tryd.ntmps19
  go_wp2_with fail
  go_ret
  exact ⟨rfl, fin2 (gb_refl _ _)⟩
set_option maxHeartbeats 2000000 in
theorem asame_dl (errno1 : Int) (ino1 : Int) (gen1 : Int) (kind1 : Int) (mode1 : Int) (size1 : Int) (dl1 : List UInt8) (count1 : Int) (eof1 : Bool) (el1 : List Ent) (dl2 : List UInt8) (count2 : Int) (eof2 : Bool) (el2 : List Ent) (hne : (dl1 == dl2) = false) (Au Av Au' Av' : Option Addr) (cu cv cu' cv' : Nat) (w : World) (ha : (RR.mk errno1 ⟨ino1, gen1, kind1, mode1, size1⟩ dl1 count1 eof1 el1).ok w (.slice Au dl1.length cu) (.slice Av el1.length cv)) (hb : (RR.mk errno1 ⟨ino1, gen1, kind1, mode1, size1⟩ dl2 count2 eof2 el2).ok w (.slice Au' dl2.length cu') (.slice Av' el2.length cv')) (hm : el1.length ≤ 1000000) :
    Calls Tryd.prog 19 #[(RR.mk errno1 ⟨ino1, gen1, kind1, mode1, size1⟩ dl1 count1 eof1 el1).val (.slice Au dl1.length cu) (.slice Av el1.length cv), (RR.mk errno1 ⟨ino1, gen1, kind1, mode1, size1⟩ dl2 count2 eof2 el2).val (.slice Au' dl2.length cu') (.slice Av' el2.length cv')] w fun e w' => e = .returned (.bool false) ∧ w.grownBy w' none := by
  have HA := hide ha
  have HB := hide hb
  have HM := hide hm
  clear ha hb hm
  unfold RR.val RR.cells
  go_enter Tryd.func19, Tryd.ntmps19
  go_wp2_with fail
  have hd1 := fun o1 o2 => (HA.out.grown (gb_alloc (gb_refl _ none) o1)).grown (gb_alloc (gb_refl _ none) o2)
  have hd2 := fun o1 o2 => (HB.out.grown (gb_alloc (gb_refl _ none) o1)).grown (gb_alloc (gb_refl _ none) o2)
  refine (equal_c _ _ _ _ _ (hd1 _ _).d (hd2 _ _).d).mono ?_
  rintro e w1 ⟨rfl, rfl⟩
  rw [hne]
  clear hd1 hd2
  go_wp2_with fail
  go_ret
  exact ⟨rfl, fin2 (gb_refl _ _)⟩
set_option maxHeartbeats 2000000 in
theorem asame_count (errno1 : Int) (ino1 : Int) (gen1 : Int) (kind1 : Int) (mode1 : Int) (size1 : Int) (dl1 : List UInt8) (count1 : Int) (eof1 : Bool) (el1 : List Ent) (count2 : Int) (eof2 : Bool) (el2 : List Ent) (hne : ¬ count1 = count2) (Au Av Au' Av' : Option Addr) (cu cv cu' cv' : Nat) (w : World) (ha : (RR.mk errno1 ⟨ino1, gen1, kind1, mode1, size1⟩ dl1 count1 eof1 el1).ok w (.slice Au dl1.length cu) (.slice Av el1.length cv)) (hb : (RR.mk errno1 ⟨ino1, gen1, kind1, mode1, size1⟩ dl1 count2 eof2 el2).ok w (.slice Au' dl1.length cu') (.slice Av' el2.length cv')) (hm : el1.length ≤ 1000000) :
    Calls Tryd.prog 19 #[(RR.mk errno1 ⟨ino1, gen1, kind1, mode1, size1⟩ dl1 count1 eof1 el1).val (.slice Au dl1.length cu) (.slice Av el1.length cv), (RR.mk errno1 ⟨ino1, gen1, kind1, mode1, size1⟩ dl1 count2 eof2 el2).val (.slice Au' dl1.length cu') (.slice Av' el2.length cv')] w fun e w' => e = .returned (.bool false) ∧ w.grownBy w' none := by
  have HA := hide ha
  have HB := hide hb
  have HM := hide hm
  clear ha hb hm
  unfold RR.val RR.cells
  go_enter Tryd.func19, Tryd.ntmps19
  go_wp2_with fail
  have hd1 := fun o1 o2 => (HA.out.grown (gb_alloc (gb_refl _ none) o1)).grown (gb_alloc (gb_refl _ none) o2)
  have hd2 := fun o1 o2 => (HB.out.grown (gb_alloc (gb_refl _ none) o1)).grown (gb_alloc (gb_refl _ none) o2)
  refine (equal_c _ _ _ _ _ (hd1 _ _).d (hd2 _ _).d).mono ?_
  rintro e w1 ⟨rfl, rfl⟩
  rw [beq_self_eq_true dl1]
  clear hd1 hd2
  go_wp2_with fail
  go_ret
  exact ⟨rfl, fin2 (gb_refl _ _)⟩
set_option maxHeartbeats 2000000 in
theorem asame_eof (errno1 : Int) (ino1 : Int) (gen1 : Int) (kind1 : Int) (mode1 : Int) (size1 : Int) (dl1 : List UInt8) (count1 : Int) (eof1 : Bool) (el1 : List Ent) (eof2 : Bool) (el2 : List Ent) (hne : (eof1 == eof2) = false) (Au Av Au' Av' : Option Addr) (cu cv cu' cv' : Nat) (w : World) (ha : (RR.mk errno1 ⟨ino1, gen1, kind1, mode1, size1⟩ dl1 count1 eof1 el1).ok w (.slice Au dl1.length cu) (.slice Av el1.length cv)) (hb : (RR.mk errno1 ⟨ino1, gen1, kind1, mode1, size1⟩ dl1 count1 eof2 el2).ok w (.slice Au' dl1.length cu') (.slice Av' el2.length cv')) (hm : el1.length ≤ 1000000) :
    Calls Tryd.prog 19 #[(RR.mk errno1 ⟨ino1, gen1, kind1, mode1, size1⟩ dl1 count1 eof1 el1).val (.slice Au dl1.length cu) (.slice Av el1.length cv), (RR.mk errno1 ⟨ino1, gen1, kind1, mode1, size1⟩ dl1 count1 eof2 el2).val (.slice Au' dl1.length cu') (.slice Av' el2.length cv')] w fun e w' => e = .returned (.bool false) ∧ w.grownBy w' none := by
  have HA := hide ha
  have HB := hide hb
  have HM := hide hm
  clear ha hb hm
  unfold RR.val RR.cells
  go_enter Tryd.func19, Tryd.ntmps19
  go_wp2_with fail
  have hd1 := fun o1 o2 => (HA.out.grown (gb_alloc (gb_refl _ none) o1)).grown (gb_alloc (gb_refl _ none) o2)
  have hd2 := fun o1 o2 => (HB.out.grown (gb_alloc (gb_refl _ none) o1)).grown (gb_alloc (gb_refl _ none) o2)
  refine (equal_c _ _ _ _ _ (hd1 _ _).d (hd2 _ _).d).mono ?_
  rintro e w1 ⟨rfl, rfl⟩
  rw [beq_self_eq_true dl1]
  clear hd1 hd2
  go_wp2_with fail
  go_ret
  exact ⟨rfl, fin2 (gb_refl _ _)⟩
set_option maxHeartbeats 2000000 in
theorem asame_el (errno1 : Int) (ino1 : Int) (gen1 : Int) (kind1 : Int) (mode1 : Int) (size1 : Int) (dl1 : List UInt8) (count1 : Int) (eof1 : Bool) (el1 : List Ent) (el2 : List Ent)  (Au Av Au' Av' : Option Addr) (cu cv cu' cv' : Nat) (w : World) (ha : (RR.mk errno1 ⟨ino1, gen1, kind1, mode1, size1⟩ dl1 count1 eof1 el1).ok w (.slice Au dl1.length cu) (.slice Av el1.length cv)) (hb : (RR.mk errno1 ⟨ino1, gen1, kind1, mode1, size1⟩ dl1 count1 eof1 el2).ok w (.slice Au' dl1.length cu') (.slice Av' el2.length cv')) (hm : el1.length ≤ 1000000) :
    Calls Tryd.prog 19 #[(RR.mk errno1 ⟨ino1, gen1, kind1, mode1, size1⟩ dl1 count1 eof1 el1).val (.slice Au dl1.length cu) (.slice Av el1.length cv), (RR.mk errno1 ⟨ino1, gen1, kind1, mode1, size1⟩ dl1 count1 eof1 el2).val (.slice Au' dl1.length cu') (.slice Av' el2.length cv')] w fun e w' => e = .returned (.bool (decide (el1 = el2))) ∧ w.grownBy w' none := by
  have HA := hide ha
  have HB := hide hb
  have HM := hide hm
  clear ha hb hm
  unfold RR.val RR.cells
  go_enter Tryd.func19, Tryd.ntmps19
  go_wp2_with fail
  have hd1 := fun o1 o2 => (HA.out.grown (gb_alloc (gb_refl _ none) o1)).grown (gb_alloc (gb_refl _ none) o2)
  have hd2 := fun o1 o2 => (HB.out.grown (gb_alloc (gb_refl _ none) o1)).grown (gb_alloc (gb_refl _ none) o2)
  refine (equal_c _ _ _ _ _ (hd1 _ _).d (hd2 _ _).d).mono ?_
  rintro e w1 ⟨rfl, rfl⟩
  rw [beq_self_eq_true dl1]
  have HD1 := hide (fun o1 o2 => (hd1 o1 o2).e)
  have HD2 := hide (fun o1 o2 => (hd2 o1 o2).e)
  clear hd1 hd2
  go_wp2_with fail
  refine (entequal_c _ _ _ _ _ (HD1.out _ _) (HD2.out _ _) HM.out).mono ?_
  rintro e w2 ⟨rfl, hg2⟩
  obtain ⟨bq, hbq⟩ : ∃ bq, decide (el1 = el2) = bq := ⟨_, rfl⟩
  rw [hbq]
  have HBQ := hide hbq
  clear hbq
  go_wp2_with fail
  go_ret
  exact ⟨by rw [HBQ.out]; rfl, fin2 hg2⟩
set_option maxHeartbeats 2000000 in
theorem rsame_el (el1 : List Ent) (errno1 : Int) (ino1 : Int) (gen1 : Int) (kind1 : Int) (mode1 : Int) (size1 : Int) (dl1 : List UInt8) (count1 : Int) (eof1 : Bool) (el2 : List Ent) (errno2 : Int) (ino2 : Int) (gen2 : Int) (kind2 : Int) (mode2 : Int) (size2 : Int) (dl2 : List UInt8) (count2 : Int) (eof2 : Bool) (hne : ¬ el1 = el2) (Au Av Au' Av' : Option Addr) (cu cv cu' cv' : Nat) (w : World) (ha : (RR.mk errno1 ⟨ino1, gen1, kind1, mode1, size1⟩ dl1 count1 eof1 el1).ok w (.slice Au dl1.length cu) (.slice Av el1.length cv)) (hb : (RR.mk errno2 ⟨ino2, gen2, kind2, mode2, size2⟩ dl2 count2 eof2 el2).ok w (.slice Au' dl2.length cu') (.slice Av' el2.length cv')) (hm : el1.length ≤ 1000000) :
    Calls Tryd.prog 20 #[(RR.mk errno1 ⟨ino1, gen1, kind1, mode1, size1⟩ dl1 count1 eof1 el1).val (.slice Au dl1.length cu) (.slice Av el1.length cv), (RR.mk errno2 ⟨ino2, gen2, kind2, mode2, size2⟩ dl2 count2 eof2 el2).val (.slice Au' dl2.length cu') (.slice Av' el2.length cv')] w fun e w' => e = .returned (.bool false) ∧ w.grownBy w' none := by
  have HA := hide ha
  have HB := hide hb
  have HM := hide hm
  clear ha hb hm
  unfold RR.val RR.cells
  go_enter Tryd.func20, Tryd.ntmps20
  go_wp2_with fail
  have hd1 := fun o1 o2 => (HA.out.grown (gb_alloc (gb_refl _ none) o1)).grown (gb_alloc (gb_refl _ none) o2)
  have hd2 := fun o1 o2 => (HB.out.grown (gb_alloc (gb_refl _ none) o1)).grown (gb_alloc (gb_refl _ none) o2)
  refine (entsame_c _ _ _ _ _ (hd1 _ _).e (hd2 _ _).e HM.out).mono ?_
  rintro e w2 ⟨rfl, hg2⟩
  rw [decide_eq_false hne]
  obtain ⟨k1, k2⟩ := gb_cells hg2
  have HG2 := hide hg2
  clear hd1 hd2 hg2
  go_wp2_with fail
  go_ret
  exact ⟨rfl, fin2 HG2.out⟩
set_option maxHeartbeats 2000000 in
theorem rsame_errno (el1 : List Ent) (errno1 : Int) (ino1 : Int) (gen1 : Int) (kind1 : Int) (mode1 : Int) (size1 : Int) (dl1 : List UInt8) (count1 : Int) (eof1 : Bool) (errno2 : Int) (ino2 : Int) (gen2 : Int) (kind2 : Int) (mode2 : Int) (size2 : Int) (dl2 : List UInt8) (count2 : Int) (eof2 : Bool) (hne : ¬ errno1 = errno2) (Au Av Au' Av' : Option Addr) (cu cv cu' cv' : Nat) (w : World) (ha : (RR.mk errno1 ⟨ino1, gen1, kind1, mode1, size1⟩ dl1 count1 eof1 el1).ok w (.slice Au dl1.length cu) (.slice Av el1.length cv)) (hb : (RR.mk errno2 ⟨ino2, gen2, kind2, mode2, size2⟩ dl2 count2 eof2 el1).ok w (.slice Au' dl2.length cu') (.slice Av' el1.length cv')) (hm : el1.length ≤ 1000000) :
    Calls Tryd.prog 20 #[(RR.mk errno1 ⟨ino1, gen1, kind1, mode1, size1⟩ dl1 count1 eof1 el1).val (.slice Au dl1.length cu) (.slice Av el1.length cv), (RR.mk errno2 ⟨ino2, gen2, kind2, mode2, size2⟩ dl2 count2 eof2 el1).val (.slice Au' dl2.length cu') (.slice Av' el1.length cv')] w fun e w' => e = .returned (.bool false) ∧ w.grownBy w' none := by
  have HA := hide ha
  have HB := hide hb
  have HM := hide hm
  clear ha hb hm
  unfold RR.val RR.cells
  go_enter Tryd.func20, Tryd.ntmps20
  go_wp2_with fail
  have hd1 := fun o1 o2 => (HA.out.grown (gb_alloc (gb_refl _ none) o1)).grown (gb_alloc (gb_refl _ none) o2)
  have hd2 := fun o1 o2 => (HB.out.grown (gb_alloc (gb_refl _ none) o1)).grown (gb_alloc (gb_refl _ none) o2)
  refine (entsame_c _ _ _ _ _ (hd1 _ _).e (hd2 _ _).e HM.out).mono ?_
  rintro e w2 ⟨rfl, hg2⟩
  rw [decide_eq_true (rfl : el1 = el1)]
  obtain ⟨k1, k2⟩ := gb_cells hg2
  have HG2 := hide hg2
  clear hd1 hd2 hg2
  go_wp2_with fail
  go_ret
  exact ⟨rfl, fin2 HG2.out⟩
set_option maxHeartbeats 2000000 in
theorem rsame_ino (el1 : List Ent) (errno1 : Int) (ino1 : Int) (gen1 : Int) (kind1 : Int) (mode1 : Int) (size1 : Int) (dl1 : List UInt8) (count1 : Int) (eof1 : Bool) (ino2 : Int) (gen2 : Int) (kind2 : Int) (mode2 : Int) (size2 : Int) (dl2 : List UInt8) (count2 : Int) (eof2 : Bool) (hne : ¬ ino1 = ino2) (Au Av Au' Av' : Option Addr) (cu cv cu' cv' : Nat) (w : World) (ha : (RR.mk errno1 ⟨ino1, gen1, kind1, mode1, size1⟩ dl1 count1 eof1 el1).ok w (.slice Au dl1.length cu) (.slice Av el1.length cv)) (hb : (RR.mk errno1 ⟨ino2, gen2, kind2, mode2, size2⟩ dl2 count2 eof2 el1).ok w (.slice Au' dl2.length cu') (.slice Av' el1.length cv')) (hm : el1.length ≤ 1000000) :
    Calls Tryd.prog 20 #[(RR.mk errno1 ⟨ino1, gen1, kind1, mode1, size1⟩ dl1 count1 eof1 el1).val (.slice Au dl1.length cu) (.slice Av el1.length cv), (RR.mk errno1 ⟨ino2, gen2, kind2, mode2, size2⟩ dl2 count2 eof2 el1).val (.slice Au' dl2.length cu') (.slice Av' el1.length cv')] w fun e w' => e = .returned (.bool false) ∧ w.grownBy w' none := by
  have HA := hide ha
  have HB := hide hb
  have HM := hide hm
  clear ha hb hm
  unfold RR.val RR.cells
  go_enter Tryd.func20, Tryd.ntmps20
  go_wp2_with fail
  have hd1 := fun o1 o2 => (HA.out.grown (gb_alloc (gb_refl _ none) o1)).grown (gb_alloc (gb_refl _ none) o2)
  have hd2 := fun o1 o2 => (HB.out.grown (gb_alloc (gb_refl _ none) o1)).grown (gb_alloc (gb_refl _ none) o2)
  refine (entsame_c _ _ _ _ _ (hd1 _ _).e (hd2 _ _).e HM.out).mono ?_
  rintro e w2 ⟨rfl, hg2⟩
  rw [decide_eq_true (rfl : el1 = el1)]
  obtain ⟨k1, k2⟩ := gb_cells hg2
  have HG2 := hide hg2
  clear hd1 hd2 hg2
  go_wp2_with fail
  go_ret
  exact ⟨rfl, fin2 HG2.out⟩
set_option maxHeartbeats 2000000 in
theorem rsame_gen (el1 : List Ent) (errno1 : Int) (ino1 : Int) (gen1 : Int) (kind1 : Int) (mode1 : Int) (size1 : Int) (dl1 : List UInt8) (count1 : Int) (eof1 : Bool) (gen2 : Int) (kind2 : Int) (mode2 : Int) (size2 : Int) (dl2 : List UInt8) (count2 : Int) (eof2 : Bool) (hne : ¬ gen1 = gen2) (Au Av Au' Av' : Option Addr) (cu cv cu' cv' : Nat) (w : World) (ha : (RR.mk errno1 ⟨ino1, gen1, kind1, mode1, size1⟩ dl1 count1 eof1 el1).ok w (.slice Au dl1.length cu) (.slice Av el1.length cv)) (hb : (RR.mk errno1 ⟨ino1, gen2, kind2, mode2, size2⟩ dl2 count2 eof2 el1).ok w (.slice Au' dl2.length cu') (.slice Av' el1.length cv')) (hm : el1.length ≤ 1000000) :
    Calls Tryd.prog 20 #[(RR.mk errno1 ⟨ino1, gen1, kind1, mode1, size1⟩ dl1 count1 eof1 el1).val (.slice Au dl1.length cu) (.slice Av el1.length cv), (RR.mk errno1 ⟨ino1, gen2, kind2, mode2, size2⟩ dl2 count2 eof2 el1).val (.slice Au' dl2.length cu') (.slice Av' el1.length cv')] w fun e w' => e = .returned (.bool false) ∧ w.grownBy w' none := by
  have HA := hide ha
  have HB := hide hb
  have HM := hide hm
  clear ha hb hm
  unfold RR.val RR.cells
  go_enter Tryd.func20, Tryd.ntmps20
  go_wp2_with fail
  have hd1 := fun o1 o2 => (HA.out.grown (gb_alloc (gb_refl _ none) o1)).grown (gb_alloc (gb_refl _ none) o2)
  have hd2 := fun o1 o2 => (HB.out.grown (gb_alloc (gb_refl _ none) o1)).grown (gb_alloc (gb_refl _ none) o2)
  refine (entsame_c _ _ _ _ _ (hd1 _ _).e (hd2 _ _).e HM.out).mono ?_
  rintro e w2 ⟨rfl, hg2⟩
  rw [decide_eq_true (rfl : el1 = el1)]
  obtain ⟨k1, k2⟩ := gb_cells hg2
  have HG2 := hide hg2
  clear hd1 hd2 hg2
  go_wp2_with fail
  go_ret
  exact ⟨rfl, fin2 HG2.out⟩
set_option maxHeartbeats 2000000 in
theorem rsame_kind (el1 : List Ent) (errno1 : Int) (ino1 : Int) (gen1 : Int) (kind1 : Int) (mode1 : Int) (size1 : Int) (dl1 : List UInt8) (count1 : Int) (eof1 : Bool) (kind2 : Int) (mode2 : Int) (size2 : Int) (dl2 : List UInt8) (count2 : Int) (eof2 : Bool) (hne : ¬ kind1 = kind2) (Au Av Au' Av' : Option Addr) (cu cv cu' cv' : Nat) (w : World) (ha : (RR.mk errno1 ⟨ino1, gen1, kind1, mode1, size1⟩ dl1 count1 eof1 el1).ok w (.slice Au dl1.length cu) (.slice Av el1.length cv)) (hb : (RR.mk errno1 ⟨ino1, gen1, kind2, mode2, size2⟩ dl2 count2 eof2 el1).ok w (.slice Au' dl2.length cu') (.slice Av' el1.length cv')) (hm : el1.length ≤ 1000000) :
    Calls Tryd.prog 20 #[(RR.mk errno1 ⟨ino1, gen1, kind1, mode1, size1⟩ dl1 count1 eof1 el1).val (.slice Au dl1.length cu) (.slice Av el1.length cv), (RR.mk errno1 ⟨ino1, gen1, kind2, mode2, size2⟩ dl2 count2 eof2 el1).val (.slice Au' dl2.length cu') (.slice Av' el1.length cv')] w fun e w' => e = .returned (.bool false) ∧ w.grownBy w' none := by
  have HA := hide ha
  have HB := hide hb
  have HM := hide hm
  clear ha hb hm
  unfold RR.val RR.cells
  go_enter Tryd.func20, Tryd.ntmps20
  go_wp2_with fail
  have hd1 := fun o1 o2 => (HA.out.grown (gb_alloc (gb_refl _ none) o1)).grown (gb_alloc (gb_refl _ none) o2)
  have hd2 := fun o1 o2 => (HB.out.grown (gb_alloc (gb_refl _ none) o1)).grown (gb_alloc (gb_refl _ none) o2)
  refine (entsame_c _ _ _ _ _ (hd1 _ _).e (hd2 _ _).e HM.out).mono ?_
  rintro e w2 ⟨rfl, hg2⟩
  rw [decide_eq_true (rfl : el1 = el1)]
  obtain ⟨k1, k2⟩ := gb_cells hg2
  have HG2 := hide hg2
  clear hd1 hd2 hg2
  go_wp2_with fail
  go_ret
  exact ⟨rfl, fin2 HG2.out⟩
set_option maxHeartbeats 2000000 in
theorem rsame_mode (el1 : List Ent) (errno1 : Int) (ino1 : Int) (gen1 : Int) (kind1 : Int) (mode1 : Int) (size1 : Int) (dl1 : List UInt8) (count1 : Int) (eof1 : Bool) (mode2 : Int) (size2 : Int) (dl2 : List UInt8) (count2 : Int) (eof2 : Bool) (hne : ¬ mode1 = mode2) (Au Av Au' Av' : Option Addr) (cu cv cu' cv' : Nat) (w : World) (ha : (RR.mk errno1 ⟨ino1, gen1, kind1, mode1, size1⟩ dl1 count1 eof1 el1).ok w (.slice Au dl1.length cu) (.slice Av el1.length cv)) (hb : (RR.mk errno1 ⟨ino1, gen1, kind1, mode2, size2⟩ dl2 count2 eof2 el1).ok w (.slice Au' dl2.length cu') (.slice Av' el1.length cv')) (hm : el1.length ≤ 1000000) :
    Calls Tryd.prog 20 #[(RR.mk errno1 ⟨ino1, gen1, kind1, mode1, size1⟩ dl1 count1 eof1 el1).val (.slice Au dl1.length cu) (.slice Av el1.length cv), (RR.mk errno1 ⟨ino1, gen1, kind1, mode2, size2⟩ dl2 count2 eof2 el1).val (.slice Au' dl2.length cu') (.slice Av' el1.length cv')] w fun e w' => e = .returned (.bool false) ∧ w.grownBy w' none := by
  have HA := hide ha
  have HB := hide hb
  have HM := hide hm
  clear ha hb hm
  unfold RR.val RR.cells
  go_enter Tryd.func20, Tryd.ntmps20
  go_wp2_with fail
  have hd1 := fun o1 o2 => (HA.out.grown (gb_alloc (gb_refl _ none) o1)).grown (gb_alloc (gb_refl _ none) o2)
  have hd2 := fun o1 o2 => (HB.out.grown (gb_alloc (gb_refl _ none) o1)).grown (gb_alloc (gb_refl _ none) o2)
  refine (entsame_c _ _ _ _ _ (hd1 _ _).e (hd2 _ _).e HM.out).mono ?_
  rintro e w2 ⟨rfl, hg2⟩
  rw [decide_eq_true (rfl : el1 = el1)]
  obtain ⟨k1, k2⟩ := gb_cells hg2
  have HG2 := hide hg2
  clear hd1 hd2 hg2
  go_wp2_with fail
  go_ret
  exact ⟨rfl, fin2 HG2.out⟩
set_option maxHeartbeats 2000000 in
theorem rsame_size (el1 : List Ent) (errno1 : Int) (ino1 : Int) (gen1 : Int) (kind1 : Int) (mode1 : Int) (size1 : Int) (dl1 : List UInt8) (count1 : Int) (eof1 : Bool) (size2 : Int) (dl2 : List UInt8) (count2 : Int) (eof2 : Bool) (hne : ¬ size1 = size2) (Au Av Au' Av' : Option Addr) (cu cv cu' cv' : Nat) (w : World) (ha : (RR.mk errno1 ⟨ino1, gen1, kind1, mode1, size1⟩ dl1 count1 eof1 el1).ok w (.slice Au dl1.length cu) (.slice Av el1.length cv)) (hb : (RR.mk errno1 ⟨ino1, gen1, kind1, mode1, size2⟩ dl2 count2 eof2 el1).ok w (.slice Au' dl2.length cu') (.slice Av' el1.length cv')) (hm : el1.length ≤ 1000000) :
    Calls Tryd.prog 20 #[(RR.mk errno1 ⟨ino1, gen1, kind1, mode1, size1⟩ dl1 count1 eof1 el1).val (.slice Au dl1.length cu) (.slice Av el1.length cv), (RR.mk errno1 ⟨ino1, gen1, kind1, mode1, size2⟩ dl2 count2 eof2 el1).val (.slice Au' dl2.length cu') (.slice Av' el1.length cv')] w fun e w' => e = .returned (.bool false) ∧ w.grownBy w' none := by
  have HA := hide ha
  have HB := hide hb
  have HM := hide hm
  clear ha hb hm
  unfold RR.val RR.cells
  go_enter Tryd.func20, Tryd.ntmps20
  go_wp2_with fail
  have hd1 := fun o1 o2 => (HA.out.grown (gb_alloc (gb_refl _ none) o1)).grown (gb_alloc (gb_refl _ none) o2)
  have hd2 := fun o1 o2 => (HB.out.grown (gb_alloc (gb_refl _ none) o1)).grown (gb_alloc (gb_refl _ none) o2)
  refine (entsame_c _ _ _ _ _ (hd1 _ _).e (hd2 _ _).e HM.out).mono ?_
  rintro e w2 ⟨rfl, hg2⟩
  rw [decide_eq_true (rfl : el1 = el1)]
  obtain ⟨k1, k2⟩ := gb_cells hg2
  have HG2 := hide hg2
  clear hd1 hd2 hg2
  go_wp2_with fail
  go_ret
  exact ⟨rfl, fin2 HG2.out⟩
set_option maxHeartbeats 2000000 in
theorem rsame_dl (el1 : List Ent) (errno1 : Int) (ino1 : Int) (gen1 : Int) (kind1 : Int) (mode1 : Int) (size1 : Int) (dl1 : List UInt8) (count1 : Int) (eof1 : Bool) (dl2 : List UInt8) (count2 : Int) (eof2 : Bool) (hne : (dl1 == dl2) = false) (Au Av Au' Av' : Option Addr) (cu cv cu' cv' : Nat) (w : World) (ha : (RR.mk errno1 ⟨ino1, gen1, kind1, mode1, size1⟩ dl1 count1 eof1 el1).ok w (.slice Au dl1.length cu) (.slice Av el1.length cv)) (hb : (RR.mk errno1 ⟨ino1, gen1, kind1, mode1, size1⟩ dl2 count2 eof2 el1).ok w (.slice Au' dl2.length cu') (.slice Av' el1.length cv')) (hm : el1.length ≤ 1000000) :
    Calls Tryd.prog 20 #[(RR.mk errno1 ⟨ino1, gen1, kind1, mode1, size1⟩ dl1 count1 eof1 el1).val (.slice Au dl1.length cu) (.slice Av el1.length cv), (RR.mk errno1 ⟨ino1, gen1, kind1, mode1, size1⟩ dl2 count2 eof2 el1).val (.slice Au' dl2.length cu') (.slice Av' el1.length cv')] w fun e w' => e = .returned (.bool false) ∧ w.grownBy w' none := by
  have HA := hide ha
  have HB := hide hb
  have HM := hide hm
  clear ha hb hm
  unfold RR.val RR.cells
  go_enter Tryd.func20, Tryd.ntmps20
  go_wp2_with fail
  have hd1 := fun o1 o2 => (HA.out.grown (gb_alloc (gb_refl _ none) o1)).grown (gb_alloc (gb_refl _ none) o2)
  have hd2 := fun o1 o2 => (HB.out.grown (gb_alloc (gb_refl _ none) o1)).grown (gb_alloc (gb_refl _ none) o2)
  refine (entsame_c _ _ _ _ _ (hd1 _ _).e (hd2 _ _).e HM.out).mono ?_
  rintro e w2 ⟨rfl, hg2⟩
  rw [decide_eq_true (rfl : el1 = el1)]
  have k3 := run_convback w2 _ _ _ _ ((hd1 _ _).d.grown hg2)
  have k4 := run_convback w2 _ _ _ _ ((hd2 _ _).d.grown hg2)
  have hs : ((⟨dl1.toArray⟩ : ByteArray).toList == (⟨dl2.toArray⟩ : ByteArray).toList) = false := by rw [ByteArray.toList_eq, ByteArray.toList_eq]; exact hne
  generalize (⟨dl1.toArray⟩ : ByteArray) = s1 at *
  generalize (⟨dl2.toArray⟩ : ByteArray) = s2 at *
  obtain ⟨k1, k2⟩ := gb_cells hg2
  have HG2 := hide hg2
  clear hd1 hd2 hg2
  go_wp2_with fail
  go_ret
  exact ⟨rfl, fin2 HG2.out⟩
set_option maxHeartbeats 2000000 in
theorem rsame_count (el1 : List Ent) (errno1 : Int) (ino1 : Int) (gen1 : Int) (kind1 : Int) (mode1 : Int) (size1 : Int) (dl1 : List UInt8) (count1 : Int) (eof1 : Bool) (count2 : Int) (eof2 : Bool) (hne : ¬ count1 = count2) (Au Av Au' Av' : Option Addr) (cu cv cu' cv' : Nat) (w : World) (ha : (RR.mk errno1 ⟨ino1, gen1, kind1, mode1, size1⟩ dl1 count1 eof1 el1).ok w (.slice Au dl1.length cu) (.slice Av el1.length cv)) (hb : (RR.mk errno1 ⟨ino1, gen1, kind1, mode1, size1⟩ dl1 count2 eof2 el1).ok w (.slice Au' dl1.length cu') (.slice Av' el1.length cv')) (hm : el1.length ≤ 1000000) :
    Calls Tryd.prog 20 #[(RR.mk errno1 ⟨ino1, gen1, kind1, mode1, size1⟩ dl1 count1 eof1 el1).val (.slice Au dl1.length cu) (.slice Av el1.length cv), (RR.mk errno1 ⟨ino1, gen1, kind1, mode1, size1⟩ dl1 count2 eof2 el1).val (.slice Au' dl1.length cu') (.slice Av' el1.length cv')] w fun e w' => e = .returned (.bool false) ∧ w.grownBy w' none := by
  have HA := hide ha
  have HB := hide hb
  have HM := hide hm
  clear ha hb hm
  unfold RR.val RR.cells
  go_enter Tryd.func20, Tryd.ntmps20
  go_wp2_with fail
  have hd1 := fun o1 o2 => (HA.out.grown (gb_alloc (gb_refl _ none) o1)).grown (gb_alloc (gb_refl _ none) o2)
  have hd2 := fun o1 o2 => (HB.out.grown (gb_alloc (gb_refl _ none) o1)).grown (gb_alloc (gb_refl _ none) o2)
  refine (entsame_c _ _ _ _ _ (hd1 _ _).e (hd2 _ _).e HM.out).mono ?_
  rintro e w2 ⟨rfl, hg2⟩
  rw [decide_eq_true (rfl : el1 = el1)]
  have k3 := run_convback w2 _ _ _ _ ((hd1 _ _).d.grown hg2)
  have k4 := run_convback w2 _ _ _ _ ((hd2 _ _).d.grown hg2)
  generalize (⟨dl1.toArray⟩ : ByteArray) = s1 at *
  obtain ⟨k1, k2⟩ := gb_cells hg2
  have HG2 := hide hg2
  clear hd1 hd2 hg2
  go_wp2_with fail
  go_ret
  exact ⟨rfl, fin2 HG2.out⟩
set_option maxHeartbeats 2000000 in
theorem rsame_eof (el1 : List Ent) (errno1 : Int) (ino1 : Int) (gen1 : Int) (kind1 : Int) (mode1 : Int) (size1 : Int) (dl1 : List UInt8) (count1 : Int) (eof1 : Bool) (eof2 : Bool)  (Au Av Au' Av' : Option Addr) (cu cv cu' cv' : Nat) (w : World) (ha : (RR.mk errno1 ⟨ino1, gen1, kind1, mode1, size1⟩ dl1 count1 eof1 el1).ok w (.slice Au dl1.length cu) (.slice Av el1.length cv)) (hb : (RR.mk errno1 ⟨ino1, gen1, kind1, mode1, size1⟩ dl1 count1 eof2 el1).ok w (.slice Au' dl1.length cu') (.slice Av' el1.length cv')) (hm : el1.length ≤ 1000000) :
    Calls Tryd.prog 20 #[(RR.mk errno1 ⟨ino1, gen1, kind1, mode1, size1⟩ dl1 count1 eof1 el1).val (.slice Au dl1.length cu) (.slice Av el1.length cv), (RR.mk errno1 ⟨ino1, gen1, kind1, mode1, size1⟩ dl1 count1 eof2 el1).val (.slice Au' dl1.length cu') (.slice Av' el1.length cv')] w fun e w' => e = .returned (.bool (eof1 == eof2)) ∧ w.grownBy w' none := by
  have HA := hide ha
  have HB := hide hb
  have HM := hide hm
  clear ha hb hm
  unfold RR.val RR.cells
  go_enter Tryd.func20, Tryd.ntmps20
  go_wp2_with fail
  have hd1 := fun o1 o2 => (HA.out.grown (gb_alloc (gb_refl _ none) o1)).grown (gb_alloc (gb_refl _ none) o2)
  have hd2 := fun o1 o2 => (HB.out.grown (gb_alloc (gb_refl _ none) o1)).grown (gb_alloc (gb_refl _ none) o2)
  refine (entsame_c _ _ _ _ _ (hd1 _ _).e (hd2 _ _).e HM.out).mono ?_
  rintro e w2 ⟨rfl, hg2⟩
  rw [decide_eq_true (rfl : el1 = el1)]
  have k3 := run_convback w2 _ _ _ _ ((hd1 _ _).d.grown hg2)
  have k4 := run_convback w2 _ _ _ _ ((hd2 _ _).d.grown hg2)
  generalize (⟨dl1.toArray⟩ : ByteArray) = s1 at *
  obtain ⟨k1, k2⟩ := gb_cells hg2
  have HG2 := hide hg2
  clear hd1 hd2 hg2
  go_wp2_with fail
  go_ret
  exact ⟨rfl, fin2 HG2.out⟩
theorem asame_c (a b : RR) (u v u' v' : Value) (w : World) (ha : a.ok w u v) (hb : b.ok w u' v') (hm : a.el.length ≤ 1000000) :
    Calls Tryd.prog 19 #[a.val u v, b.val u' v'] w fun e w' => e = .returned (.bool (sameR a b)) ∧ w.grownBy w' none := by
  obtain ⟨Au, cu, rfl, _⟩ := id ha.d
  obtain ⟨Au', cu', rfl, _⟩ := id hb.d
  obtain ⟨Av, cv, rfl, _⟩ := ha.e.shape
  obtain ⟨Av', cv', rfl, _⟩ := hb.e.shape
  obtain ⟨errno1, ⟨ino1, gen1, kind1, mode1, size1⟩, dl1, count1, eof1, el1⟩ := a
  obtain ⟨errno2, ⟨ino2, gen2, kind2, mode2, size2⟩, dl2, count2, eof2, el2⟩ := b
  by_cases hne : errno1 = errno2
  case neg =>
    rw [sameR_no (by intro h; injection h; simp_all)]
    exact asame_errno _ _ _ _ _ _ _ _ _ _ _ _ _ _ _ _ _ _ _ _ hne Au Av Au' Av' cu cv cu' cv' w ha hb hm
  subst hne
  by_cases hne : ino1 = ino2
  case neg =>
    rw [sameR_no (by intro h; injection h; simp_all)]
    exact asame_ino _ _ _ _ _ _ _ _ _ _ _ _ _ _ _ _ _ _ _ hne Au Av Au' Av' cu cv cu' cv' w ha hb hm
  subst hne
  by_cases hne : gen1 = gen2
  case neg =>
    rw [sameR_no (by intro h; injection h; simp_all)]
    exact asame_gen _ _ _ _ _ _ _ _ _ _ _ _ _ _ _ _ _ _ hne Au Av Au' Av' cu cv cu' cv' w ha hb hm
  subst hne
  by_cases hne : kind1 = kind2
  case neg =>
    rw [sameR_no (by intro h; injection h; simp_all)]
    exact asame_kind _ _ _ _ _ _ _ _ _ _ _ _ _ _ _ _ _ hne Au Av Au' Av' cu cv cu' cv' w ha hb hm
  subst hne
  by_cases hne : mode1 = mode2
  case neg =>
    rw [sameR_no (by intro h; injection h; simp_all)]
    exact asame_mode _ _ _ _ _ _ _ _ _ _ _ _ _ _ _ _ hne Au Av Au' Av' cu cv cu' cv' w ha hb hm
  subst hne
  by_cases hne : size1 = size2
  case neg =>
    rw [sameR_no (by intro h; injection h; simp_all)]
    exact asame_size _ _ _ _ _ _ _ _ _ _ _ _ _ _ _ hne Au Av Au' Av' cu cv cu' cv' w ha hb hm
  subst hne
  by_cases hne : dl1 = dl2
  case neg =>
    rw [sameR_no (by intro h; injection h; simp_all)]
    exact asame_dl _ _ _ _ _ _ _ _ _ _ _ _ _ _ (by simpa using hne) Au Av Au' Av' cu cv cu' cv' w ha hb hm
  subst hne
  by_cases hne : count1 = count2
  case neg =>
    rw [sameR_no (by intro h; injection h; simp_all)]
    exact asame_count _ _ _ _ _ _ _ _ _ _ _ _ _ hne Au Av Au' Av' cu cv cu' cv' w ha hb hm
  subst hne
  by_cases hne : eof1 = eof2
  case neg =>
    rw [sameR_no (by intro h; injection h; simp_all)]
    exact asame_eof _ _ _ _ _ _ _ _ _ _ _ _ (by simpa using hne) Au Av Au' Av' cu cv cu' cv' w ha hb hm
  subst hne
  have hs : sameR (RR.mk errno1 ⟨ino1, gen1, kind1, mode1, size1⟩ dl1 count1 eof1 el1) (RR.mk errno1 ⟨ino1, gen1, kind1, mode1, size1⟩ dl1 count1 eof1 el2) = decide (el1 = el2) := by simp [sameR, sameAtt]
  rw [hs]
  exact asame_el _ _ _ _ _ _ _ _ _ _ _  Au Av Au' Av' cu cv cu' cv' w ha hb hm
theorem rsame_c (a b : RR) (u v u' v' : Value) (w : World) (ha : a.ok w u v) (hb : b.ok w u' v') (hm : a.el.length ≤ 1000000) :
    Calls Tryd.prog 20 #[a.val u v, b.val u' v'] w fun e w' => e = .returned (.bool (sameR a b)) ∧ w.grownBy w' none := by
  obtain ⟨Au, cu, rfl, _⟩ := id ha.d
  obtain ⟨Au', cu', rfl, _⟩ := id hb.d
  obtain ⟨Av, cv, rfl, _⟩ := ha.e.shape
  obtain ⟨Av', cv', rfl, _⟩ := hb.e.shape
  obtain ⟨errno1, ⟨ino1, gen1, kind1, mode1, size1⟩, dl1, count1, eof1, el1⟩ := a
  obtain ⟨errno2, ⟨ino2, gen2, kind2, mode2, size2⟩, dl2, count2, eof2, el2⟩ := b
  by_cases hne : el1 = el2
  case neg =>
    rw [sameR_no (by intro h; injection h; simp_all)]
    exact rsame_el _ _ _ _ _ _ _ _ _ _ _ _ _ _ _ _ _ _ _ _ hne Au Av Au' Av' cu cv cu' cv' w ha hb hm
  subst hne
  by_cases hne : errno1 = errno2
  case neg =>
    rw [sameR_no (by intro h; injection h; simp_all)]
    exact rsame_errno _ _ _ _ _ _ _ _ _ _ _ _ _ _ _ _ _ _ _ hne Au Av Au' Av' cu cv cu' cv' w ha hb hm
  subst hne
  by_cases hne : ino1 = ino2
  case neg =>
    rw [sameR_no (by intro h; injection h; simp_all)]
    exact rsame_ino _ _ _ _ _ _ _ _ _ _ _ _ _ _ _ _ _ _ hne Au Av Au' Av' cu cv cu' cv' w ha hb hm
  subst hne
  by_cases hne : gen1 = gen2
  case neg =>
    rw [sameR_no (by intro h; injection h; simp_all)]
    exact rsame_gen _ _ _ _ _ _ _ _ _ _ _ _ _ _ _ _ _ hne Au Av Au' Av' cu cv cu' cv' w ha hb hm
  subst hne
  by_cases hne : kind1 = kind2
  case neg =>
    rw [sameR_no (by intro h; injection h; simp_all)]
    exact rsame_kind _ _ _ _ _ _ _ _ _ _ _ _ _ _ _ _ hne Au Av Au' Av' cu cv cu' cv' w ha hb hm
  subst hne
  by_cases hne : mode1 = mode2
  case neg =>
    rw [sameR_no (by intro h; injection h; simp_all)]
    exact rsame_mode _ _ _ _ _ _ _ _ _ _ _ _ _ _ _ hne Au Av Au' Av' cu cv cu' cv' w ha hb hm
  subst hne
  by_cases hne : size1 = size2
  case neg =>
    rw [sameR_no (by intro h; injection h; simp_all)]
    exact rsame_size _ _ _ _ _ _ _ _ _ _ _ _ _ _ hne Au Av Au' Av' cu cv cu' cv' w ha hb hm
  subst hne
  by_cases hne : dl1 = dl2
  case neg =>
    rw [sameR_no (by intro h; injection h; simp_all)]
    exact rsame_dl _ _ _ _ _ _ _ _ _ _ _ _ _ (by simpa using hne) Au Av Au' Av' cu cv cu' cv' w ha hb hm
  subst hne
  by_cases hne : count1 = count2
  case neg =>
    rw [sameR_no (by intro h; injection h; simp_all)]
    exact rsame_count _ _ _ _ _ _ _ _ _ _ _ _ hne Au Av Au' Av' cu cv cu' cv' w ha hb hm
  subst hne
  have hs : sameR (RR.mk errno1 ⟨ino1, gen1, kind1, mode1, size1⟩ dl1 count1 eof1 el1) (RR.mk errno1 ⟨ino1, gen1, kind1, mode1, size1⟩ dl1 count1 eof2 el1) = (eof1 == eof2) := by simp [sameR, sameAtt]
  rw [hs]
  exact rsame_eof _ _ _ _ _ _ _ _ _ _ _  Au Av Au' Av' cu cv cu' cv' w ha hb hm
end Go.Tr
