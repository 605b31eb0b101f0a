/- Small words of answers: numbers of 32 bits, handles, what is known of a node. No condition. -/
import Derived.Test.YtdbacbhopkdhgaaDoorFind
namespace Go.Tr
open Go.RowKit Go.Proofs
set_option linter.unusedVariables false
theorem ret_b {x y : Bool} (h : x = y) : Ending.returned (.bool x) = .returned (.bool y) := by rw [h]
def wordB (x : Int) : Bool := decide (0 ≤ x) && decide (x ≤ 4294967295)
theorem word_c15 (x : Int) (w : World) : Calls Tryd.prog 45 #[.int .i64 x] w fun e w' => e = .returned (.bool (wordB x)) ∧ w' = w := by
  obtain ⟨b, hb⟩ : ∃ b, wordB x = b := ⟨_, rfl⟩
  have HB := hide hb
  rw [hb]
  clear hb
  go_enter Tryd.func45, Tryd.ntmps45
  go_wp2_with fail
  all_goals
    go_ret
    exact ⟨ret_b (by rw [← HB.out]; unfold wordB; rw [Bool.eq_iff_iff]; simp; omega), rfl⟩
theorem rword_c15 (x : Int) (w : World) : Calls Tryd.prog 33 #[.int .i64 x] w fun e w' => e = .returned (.bool (wordB x)) ∧ w' = w := by
  obtain ⟨b, hb⟩ : ∃ b, wordB x = b := ⟨_, rfl⟩
  have HB := hide hb
  rw [hb]
  clear hb
  go_enter Tryd.func33, Tryd.ntmps33
  go_wp2_with fail
  all_goals
    go_ret
    exact ⟨ret_b (by rw [← HB.out]; unfold wordB; rw [Bool.eq_iff_iff]; simp; omega), rfl⟩
theorem mayH_c (i g : Int) (w : World) : Calls Tryd.prog 73 #[.agg #[.int .i64 i, .int .i64 g]] w fun e w' => e = .returned (.bool (wordB i && wordB g)) ∧ w.grownBy w' none := by
  obtain ⟨b, hb⟩ : ∃ b, (wordB i && wordB g) = b := ⟨_, rfl⟩
  have HB := hide hb
  rw [hb]
  clear hb
  go_enter Tryd.func73, Tryd.ntmps73
  go_wp2_with fail
  refine (word_c15 i _).mono ?_
  rintro e w1 ⟨rfl, rfl⟩
  obtain ⟨b1, h1⟩ : ∃ b, wordB i = b := ⟨_, rfl⟩
  have H1 := hide h1
  rw [h1]
  clear h1
  cases b1
  · go_wp2_with fail
    go_ret
    exact ⟨ret_b (by rw [← HB.out, H1.out]; rfl), gb_alloc (gb_refl _ _) _⟩
  · go_wp2_with fail
    refine (word_c15 g _).mono ?_
    rintro e w1 ⟨rfl, rfl⟩
    obtain ⟨b2, h2⟩ : ∃ b, wordB g = b := ⟨_, rfl⟩
    have H2 := hide h2
    rw [h2]
    clear h2
    go_wp2_with fail
    go_ret
    exact ⟨ret_b (by rw [← HB.out, H1.out, H2.out]; rfl), gb_alloc (gb_refl _ _) _⟩
def mayAttB (a : Att) : Bool := (wordB a.ino && wordB a.gen) && (decide (a.kind = 1 ∨ a.kind = 2) && (decide (0 ≤ a.mode) && (decide (a.mode ≤ 511) && (decide (0 ≤ a.size) && decide (a.size ≤ 65536)))))
set_option maxHeartbeats 2000000 in
theorem mayAtt_c (a : Att) (w : World) : Calls Tryd.prog 44 #[a.val] w fun e w' => e = .returned (.bool (mayAttB a)) ∧ w.grownBy w' none := by
  obtain ⟨b, hb⟩ : ∃ b, mayAttB a = b := ⟨_, rfl⟩
  have HB := hide hb
  rw [hb]
  clear hb
  unfold Att.val
  go_enter Tryd.func44, Tryd.ntmps44
  go_wp2_with fail
  refine (mayH_c a.ino a.gen _).mono ?_
  rintro e w1 ⟨rfl, hg1⟩
  have g1 := gb_trans (gb_alloc (gb_refl w none) _) hg1
  obtain ⟨k1, k2⟩ := gb_cells hg1
  have HG := hide g1
  clear hg1 g1
  obtain ⟨b1, h1⟩ : ∃ b, (wordB a.ino && wordB a.gen) = b := ⟨_, rfl⟩
  have H1 := hide h1
  rw [h1]
  clear h1
  cases b1
  · go_wp2_with fail
    go_ret
    exact ⟨ret_b (by rw [← HB.out, mayAttB, H1.out]; rfl), HG.out⟩
  · go_wp2_with fail
    all_goals
      go_ret
      exact ⟨ret_b (by rw [← HB.out, mayAttB, H1.out]; clear k1 k2; rw [Bool.eq_iff_iff]; simp; omega), HG.out⟩
set_option maxHeartbeats 2000000 in
theorem rattr_c (a : Att) (w : World) : Calls Tryd.prog 34 #[a.val] w fun e w' => e = .returned (.bool (mayAttB a)) ∧ w.grownBy w' none := by
  obtain ⟨b, hb⟩ : ∃ b, mayAttB a = b := ⟨_, rfl⟩
  have HB := hide hb
  rw [hb]
  clear hb
  unfold Att.val
  go_enter Tryd.func34, Tryd.ntmps34
  go_wp2_with fail
  refine (rword_c15 a.ino _).mono ?_
  rintro e w1 ⟨rfl, rfl⟩
  obtain ⟨b1, h1⟩ : ∃ b, wordB a.ino = b := ⟨_, rfl⟩
  have H1 := hide h1
  rw [h1]
  clear h1
  cases b1
  · go_wp2_with fail
    go_ret
    exact ⟨ret_b (by rw [← HB.out, mayAttB, H1.out]; rfl), gb_alloc (gb_refl _ _) _⟩
  · go_wp2_with fail
    refine (rword_c15 a.gen _).mono ?_
    rintro e w1 ⟨rfl, rfl⟩
    obtain ⟨b2, h2⟩ : ∃ b, wordB a.gen = b := ⟨_, rfl⟩
    have H2 := hide h2
    rw [h2]
    clear h2
    cases b2
    · go_wp2_with fail
      go_ret
      exact ⟨ret_b (by rw [← HB.out, mayAttB, H1.out, H2.out]; rfl), gb_alloc (gb_refl _ _) _⟩
    · go_wp2_with fail
      all_goals
        go_ret
        exact ⟨ret_b (by rw [← HB.out, mayAttB, H1.out, H2.out]; rw [Bool.eq_iff_iff]; simp; omega), gb_alloc (gb_refl _ _) _⟩
end Go.Tr
