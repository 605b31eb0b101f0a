/- calls: each field is read. No condition. Printed by gen_cread2.py. -/
import Derived.Test.YtblbihodpjfcbaaCread
namespace Go.Tr
open Go.RowKit Go.Proofs
set_option linter.unusedVariables false

def ReadR (R Ab f : Nat) (a : AA) (l : List UInt8) (w : World) (e : Ending) (w' : World) : Prop :=
  gb2 w w' R Ab ∧ match rdF f a l with
  | .ok (a', l') => e = .returned (.int .i64 0) ∧ Rd w' R 0 l' ∧ ∃ u', Blk w' Ab tArgs (a'.at u').cells.toArray ∧ BS w' u' a'.dl
  | .error er => er ≠ 0 ∧ e = .returned (.int .i64 er)
theorem ReadR.ok {R Ab f : Nat} {a a' : AA} {l l' : List UInt8} {w w' : World} {u' : Value} (h : rdF f a l = .ok (a', l')) (hg : gb2 w w' R Ab) (hr : Rd w' R 0 l') (hb : Blk w' Ab tArgs (a'.at u').cells.toArray) (hs : BS w' u' a'.dl) : ReadR R Ab f a l w (.returned (.int .i64 0)) w' := by
  unfold ReadR
  rw [h]
  exact ⟨hg, rfl, hr, u', hb, hs⟩
theorem ReadR.err {R Ab f : Nat} {a : AA} {l : List UInt8} {w w' : World} {er : Int} (h : rdF f a l = .error er) (he : er ≠ 0) (hg : gb2 w w' R Ab) : ReadR R Ab f a l w (.returned (.int .i64 er)) w' := by
  unfold ReadR
  rw [h]
  exact ⟨hg, he, rfl⟩
theorem Rd.setA {w : World} {R g : Nat} {e : Int} {l : List UInt8} {cs : Array Value} (h : Rd w R e l) (hb : Blk w g tArgs cs) (u : Value) (i : Nat) : Rd (w.setCell ⟨g, i, none⟩ u) R e l :=
  h.kept (gb_set (gb_refl w (some g)) _ _) fun k hk => by cases hk; exact ⟨_, _, hb, by decide, by decide⟩
theorem AA.cell_at (a : AA) (u : Value) (j : Nat) : (a.at u).cells.toArray[j]? = (a.at u).cells[j]? := by simp
theorem Blk.args {w : World} {g : Nat} {a : AA} {u : Value} (h : Blk w g tArgs (a.at u).cells.toArray) : w.cell? ⟨g, 0, none⟩ = some (.int .i64 a.proc) ∧ w.cell? ⟨g, 1, none⟩ = some (.int .i64 a.off) ∧ w.cell? ⟨g, 2, none⟩ = some (.int .i64 a.count) ∧ w.cell? ⟨g, 3, none⟩ = some (.int .i64 a.size) ∧ w.cell? ⟨g, 4, none⟩ = some (.int .i64 a.mode) ∧
    w.cell? ⟨g, 5, none⟩ = some (.int .i64 a.hi) ∧ w.cell? ⟨g, 6, none⟩ = some (.int .i64 a.hg) ∧ w.cell? ⟨g, 7, none⟩ = some (.int .i64 a.ji) ∧ w.cell? ⟨g, 8, none⟩ = some (.int .i64 a.jg) ∧ w.cell? ⟨g, 9, none⟩ = some (.string a.name) ∧ w.cell? ⟨g, 10, none⟩ = some (.string a.name2) ∧ w.cell? ⟨g, 11, none⟩ = some u :=
  ⟨h.cell 0, h.cell 1, h.cell 2, h.cell 3, h.cell 4, h.cell 5, h.cell 6, h.cell 7, h.cell 8, h.cell 9, h.cell 10, h.cell 11⟩

set_option maxHeartbeats 1000000 in
theorem read5_c (R Ab : Nat) (a : AA) (u : Value) (l : List UInt8) (w : World) (h : Rd w R 0 l) (hb : Blk w Ab tArgs (a.at u).cells.toArray) (hs : BS w u a.dl) :
    Calls Try.prog 26 #[.pointer (some ⟨R, 0, none⟩), .int .i64 5, .pointer (some ⟨Ab, 0, none⟩)] w (ReadR R Ab 5 a l w) := by
  obtain ⟨vR, hbR, _⟩ := id h
  have hne : Ab ≠ R := Blk.ne hb hbR (by decide)
  have hns : (some Ab : Option Nat) ≠ some R := by simpa using hne
  have hk : ∀ k, some R = some k → ∃ t cs, Blk w k t cs ∧ t ≠ tU8 := fun k hk => by cases hk; exact ⟨_, _, hbR, by decide⟩
  clear hbR
  go_enter Try.func26, Try.ntmps26
  go_wp2_with fail
  refine (rU32_c R l w h).mono ?_
  rintro e w1 ⟨hg1, h1⟩
  rcases hx : rdN 4 l with er | ⟨x, l1⟩
  · rw [hx] at h1
    obtain ⟨rfl, h1⟩ := h1
    obtain rfl := rdN_err hx
    have hT : rdF 5 a l = .error 3 := by unfold rdF; simp only [hx]
    have HT := hide hT
    clear hT hx
    have b1 := hb.grown hg1 hns
    have s1 := hs.kept hg1 hk
    have hA := b1.lt
    obtain ⟨c0, c1, c2, c3, c4, c5, c6, c7, c8, c9, c10, c11⟩ := b1.args
    have f1 := b1.frozen
    have B1 := hide b1
    have S1 := hide s1
    have H1 := hide h1
    clear b1 s1 h1
    go_wp2_with fail
    refine (rErrno_c R 3 [] _ (H1.out.setA B1.out _ _)).mono ?_
    rintro e w2 ⟨rfl, rfl⟩
    go_wp2_with fail
    go_ret
    exact ReadR.err HT.out (by decide) (gb2.trans (gb2.left hg1) (gb2.right (gb_set (gb_refl _ _) _ _)))
  · rw [hx] at h1
    obtain ⟨rfl, h1⟩ := h1
    have hxl := rdN4_lt hx
    have hT : rdF 5 a l = .ok ({ a with count := x }, l1) := by unfold rdF; simp only [hx]
    have HT := hide hT
    clear hT hx
    have b1 := hb.grown hg1 hns
    have s1 := hs.kept hg1 hk
    have hA := b1.lt
    obtain ⟨c0, c1, c2, c3, c4, c5, c6, c7, c8, c9, c10, c11⟩ := b1.args
    have f1 := b1.frozen
    have B1 := hide b1
    have S1 := hide s1
    have H1 := hide h1
    clear b1 s1 h1
    go_wp2_with fail
    refine (rErrno_c R 0 l1 _ (H1.out.setA B1.out _ _)).mono ?_
    rintro e w2 ⟨rfl, rfl⟩
    go_wp2_with fail
    go_ret
    exact ReadR.ok HT.out (gb2.trans (gb2.left hg1) (gb2.right (gb_set (gb_refl _ _) _ _))) (H1.out.setA B1.out _ _) (B1.out.set 2 _) (BS.set S1.out B1.out (by decide) _ _)

set_option maxHeartbeats 1000000 in
theorem read6_c (R Ab : Nat) (a : AA) (u : Value) (l : List UInt8) (w : World) (h : Rd w R 0 l) (hb : Blk w Ab tArgs (a.at u).cells.toArray) (hs : BS w u a.dl) :
    Calls Try.prog 26 #[.pointer (some ⟨R, 0, none⟩), .int .i64 6, .pointer (some ⟨Ab, 0, none⟩)] w (ReadR R Ab 6 a l w) := by
  obtain ⟨vR, hbR, _⟩ := id h
  have hne : Ab ≠ R := Blk.ne hb hbR (by decide)
  have hns : (some Ab : Option Nat) ≠ some R := by simpa using hne
  have hk : ∀ k, some R = some k → ∃ t cs, Blk w k t cs ∧ t ≠ tU8 := fun k hk => by cases hk; exact ⟨_, _, hbR, by decide⟩
  clear hbR
  go_enter Try.func26, Try.ntmps26
  go_wp2_with fail
  refine (rU32_c R l w h).mono ?_
  rintro e w1 ⟨hg1, h1⟩
  rcases hx : rdN 4 l with er | ⟨x, l1⟩
  · rw [hx] at h1
    obtain ⟨rfl, h1⟩ := h1
    obtain rfl := rdN_err hx
    have hT : rdF 6 a l = .error 3 := by unfold rdF; simp only [hx]
    have HT := hide hT
    clear hT hx
    have b1 := hb.grown hg1 hns
    have s1 := hs.kept hg1 hk
    have hA := b1.lt
    obtain ⟨c0, c1, c2, c3, c4, c5, c6, c7, c8, c9, c10, c11⟩ := b1.args
    have f1 := b1.frozen
    have B1 := hide b1
    have S1 := hide s1
    have H1 := hide h1
    clear b1 s1 h1
    go_wp2_with fail
    refine (rErrno_c R 3 [] _ (H1.out.setA B1.out _ _)).mono ?_
    rintro e w2 ⟨rfl, rfl⟩
    go_wp2_with fail
    go_ret
    exact ReadR.err HT.out (by decide) (gb2.trans (gb2.left hg1) (gb2.right (gb_set (gb_refl _ _) _ _)))
  · rw [hx] at h1
    obtain ⟨rfl, h1⟩ := h1
    have hxl := rdN4_lt hx
    have hT : rdF 6 a l = .ok ({ a with size := x }, l1) := by unfold rdF; simp only [hx]
    have HT := hide hT
    clear hT hx
    have b1 := hb.grown hg1 hns
    have s1 := hs.kept hg1 hk
    have hA := b1.lt
    obtain ⟨c0, c1, c2, c3, c4, c5, c6, c7, c8, c9, c10, c11⟩ := b1.args
    have f1 := b1.frozen
    have B1 := hide b1
    have S1 := hide s1
    have H1 := hide h1
    clear b1 s1 h1
    go_wp2_with fail
    refine (rErrno_c R 0 l1 _ (H1.out.setA B1.out _ _)).mono ?_
    rintro e w2 ⟨rfl, rfl⟩
    go_wp2_with fail
    go_ret
    exact ReadR.ok HT.out (gb2.trans (gb2.left hg1) (gb2.right (gb_set (gb_refl _ _) _ _))) (H1.out.setA B1.out _ _) (B1.out.set 3 _) (BS.set S1.out B1.out (by decide) _ _)

set_option maxHeartbeats 1000000 in
theorem read7_c (R Ab : Nat) (a : AA) (u : Value) (l : List UInt8) (w : World) (h : Rd w R 0 l) (hb : Blk w Ab tArgs (a.at u).cells.toArray) (hs : BS w u a.dl) :
    Calls Try.prog 26 #[.pointer (some ⟨R, 0, none⟩), .int .i64 7, .pointer (some ⟨Ab, 0, none⟩)] w (ReadR R Ab 7 a l w) := by
  obtain ⟨vR, hbR, _⟩ := id h
  have hne : Ab ≠ R := Blk.ne hb hbR (by decide)
  have hns : (some Ab : Option Nat) ≠ some R := by simpa using hne
  have hk : ∀ k, some R = some k → ∃ t cs, Blk w k t cs ∧ t ≠ tU8 := fun k hk => by cases hk; exact ⟨_, _, hbR, by decide⟩
  clear hbR
  go_enter Try.func26, Try.ntmps26
  go_wp2_with fail
  refine (rU32_c R l w h).mono ?_
  rintro e w1 ⟨hg1, h1⟩
  rcases hx : rdN 4 l with er | ⟨x, l1⟩
  · rw [hx] at h1
    obtain ⟨rfl, h1⟩ := h1
    obtain rfl := rdN_err hx
    have hT : rdF 7 a l = .error 3 := by unfold rdF; simp only [hx]
    have HT := hide hT
    clear hT hx
    have b1 := hb.grown hg1 hns
    have s1 := hs.kept hg1 hk
    have hA := b1.lt
    obtain ⟨c0, c1, c2, c3, c4, c5, c6, c7, c8, c9, c10, c11⟩ := b1.args
    have f1 := b1.frozen
    have B1 := hide b1
    have S1 := hide s1
    have H1 := hide h1
    clear b1 s1 h1
    go_wp2_with fail
    refine (rErrno_c R 3 [] _ (H1.out.setA B1.out _ _)).mono ?_
    rintro e w2 ⟨rfl, rfl⟩
    go_wp2_with fail
    go_ret
    exact ReadR.err HT.out (by decide) (gb2.trans (gb2.left hg1) (gb2.right (gb_set (gb_refl _ _) _ _)))
  · rw [hx] at h1
    obtain ⟨rfl, h1⟩ := h1
    have hxl := rdN4_lt hx
    have hT : rdF 7 a l = .ok ({ a with mode := x }, l1) := by unfold rdF; simp only [hx]
    have HT := hide hT
    clear hT hx
    have b1 := hb.grown hg1 hns
    have s1 := hs.kept hg1 hk
    have hA := b1.lt
    obtain ⟨c0, c1, c2, c3, c4, c5, c6, c7, c8, c9, c10, c11⟩ := b1.args
    have f1 := b1.frozen
    have B1 := hide b1
    have S1 := hide s1
    have H1 := hide h1
    clear b1 s1 h1
    go_wp2_with fail
    refine (rErrno_c R 0 l1 _ (H1.out.setA B1.out _ _)).mono ?_
    rintro e w2 ⟨rfl, rfl⟩
    go_wp2_with fail
    go_ret
    exact ReadR.ok HT.out (gb2.trans (gb2.left hg1) (gb2.right (gb_set (gb_refl _ _) _ _))) (H1.out.setA B1.out _ _) (B1.out.set 4 _) (BS.set S1.out B1.out (by decide) _ _)

set_option maxHeartbeats 1000000 in
theorem read4_c (R Ab : Nat) (a : AA) (u : Value) (l : List UInt8) (w : World) (h : Rd w R 0 l) (hb : Blk w Ab tArgs (a.at u).cells.toArray) (hs : BS w u a.dl) :
    Calls Try.prog 26 #[.pointer (some ⟨R, 0, none⟩), .int .i64 4, .pointer (some ⟨Ab, 0, none⟩)] w (ReadR R Ab 4 a l w) := by
  obtain ⟨vR, hbR, _⟩ := id h
  have hne : Ab ≠ R := Blk.ne hb hbR (by decide)
  have hns : (some Ab : Option Nat) ≠ some R := by simpa using hne
  have hk : ∀ k, some R = some k → ∃ t cs, Blk w k t cs ∧ t ≠ tU8 := fun k hk => by cases hk; exact ⟨_, _, hbR, by decide⟩
  clear hbR
  go_enter Try.func26, Try.ntmps26
  go_wp2_with fail
  refine (rU64_c R l w h).mono ?_
  rintro e w1 ⟨hg1, h1⟩
  rcases hx : rdN 8 l with er | ⟨x, l1⟩
  · rw [hx] at h1
    obtain ⟨rfl, h1⟩ := h1
    obtain rfl := rdN_err hx
    have hT : rdF 4 a l = .error 3 := by unfold rdF; simp only [hx]
    have HT := hide hT
    clear hT hx
    have b1 := hb.grown hg1 hns
    have s1 := hs.kept hg1 hk
    have hA := b1.lt
    obtain ⟨c0, c1, c2, c3, c4, c5, c6, c7, c8, c9, c10, c11⟩ := b1.args
    have f1 := b1.frozen
    have B1 := hide b1
    have S1 := hide s1
    have H1 := hide h1
    clear b1 s1 h1
    go_wp2_with fail
    refine (rErrno_c R 3 [] _ (H1.out.setA B1.out _ _)).mono ?_
    rintro e w2 ⟨rfl, rfl⟩
    go_wp2_with fail
    go_ret
    exact ReadR.err HT.out (by decide) (gb2.trans (gb2.left hg1) (gb2.right (gb_set (gb_refl _ _) _ _)))
  · rw [hx] at h1
    obtain ⟨rfl, h1⟩ := h1
    have hxl := rdN8_lt hx
    by_cases hbig : 4611686018427387904 < x
    · have hT : rdF 4 a l = .error 4 := by unfold rdF; simp only [hx, if_pos hbig]
      have HT := hide hT
      clear hT hx h1
      go_wp2_with fail
      go_ret
      exact ReadR.err HT.out (by decide) (gb2.left hg1)
    have hT : rdF 4 a l = .ok ({ a with off := x }, l1) := by unfold rdF; simp only [hx, if_neg hbig]
    have HT := hide hT
    clear hT hx
    have b1 := hb.grown hg1 hns
    have s1 := hs.kept hg1 hk
    have hA := b1.lt
    obtain ⟨c0, c1, c2, c3, c4, c5, c6, c7, c8, c9, c10, c11⟩ := b1.args
    have f1 := b1.frozen
    have B1 := hide b1
    have S1 := hide s1
    have H1 := hide h1
    clear b1 s1 h1
    go_wp2_with fail
    refine (rErrno_c R 0 l1 _ (H1.out.setA B1.out _ _)).mono ?_
    rintro e w2 ⟨rfl, rfl⟩
    go_wp2_with fail
    go_ret
    exact ReadR.ok HT.out (gb2.trans (gb2.left hg1) (gb2.right (gb_set (gb_refl _ _) _ _))) (H1.out.setA B1.out _ _) (B1.out.set 1 _) (BS.set S1.out B1.out (by decide) _ _)

set_option maxHeartbeats 1000000 in
theorem read0_c (R Ab : Nat) (a : AA) (u : Value) (l : List UInt8) (w : World) (h : Rd w R 0 l) (hb : Blk w Ab tArgs (a.at u).cells.toArray) (hs : BS w u a.dl) :
    Calls Try.prog 26 #[.pointer (some ⟨R, 0, none⟩), .int .i64 0, .pointer (some ⟨Ab, 0, none⟩)] w (ReadR R Ab 0 a l w) := by
  obtain ⟨vR, hbR, _⟩ := id h
  have hne : Ab ≠ R := Blk.ne hb hbR (by decide)
  have hns : (some Ab : Option Nat) ≠ some R := by simpa using hne
  have hk : ∀ k, some R = some k → ∃ t cs, Blk w k t cs ∧ t ≠ tU8 := fun k hk => by cases hk; exact ⟨_, _, hbR, by decide⟩
  clear hbR
  go_enter Try.func26, Try.ntmps26
  go_wp2_with fail
  refine (handle_c R l w h).mono ?_
  rintro e w1 ⟨hg1, h1⟩
  rcases hx : rdH l with er | ⟨x, y, l1⟩
  · rw [hx] at h1
    obtain ⟨her, ⟨x, y, rfl⟩, h1⟩ := h1
    have hT : rdF 0 a l = .error er := by unfold rdF; simp only [hx]
    have HT := hide hT
    clear hT hx
    have b1 := hb.grown hg1 hns
    have s1 := hs.kept hg1 hk
    have hA := b1.lt
    obtain ⟨c0, c1, c2, c3, c4, c5, c6, c7, c8, c9, c10, c11⟩ := b1.args
    have f1 := b1.frozen
    have B1 := hide b1
    have S1 := hide s1
    have H1 := hide h1
    clear b1 s1 h1
    go_wp2_with fail
    refine (rErrno_c R er [] _ ((H1.out.setA B1.out _ _).setA (B1.out.set _ _) _ _)).mono ?_
    rintro e w2 ⟨rfl, rfl⟩
    go_wp2_with fail
    go_ret
    exact ReadR.err HT.out her (gb2.trans (gb2.left hg1) (gb2.right (gb_set (gb_set (gb_refl _ _) _ _) _ _)))
  · rw [hx] at h1
    obtain ⟨rfl, h1⟩ := h1
    have hT : rdF 0 a l = .ok ({ a with hi := x, hg := y }, l1) := by unfold rdF; simp only [hx]
    have HT := hide hT
    clear hT hx
    have b1 := hb.grown hg1 hns
    have s1 := hs.kept hg1 hk
    have hA := b1.lt
    obtain ⟨c0, c1, c2, c3, c4, c5, c6, c7, c8, c9, c10, c11⟩ := b1.args
    have f1 := b1.frozen
    have B1 := hide b1
    have S1 := hide s1
    have H1 := hide h1
    clear b1 s1 h1
    go_wp2_with fail
    refine (rErrno_c R 0 l1 _ ((H1.out.setA B1.out _ _).setA (B1.out.set _ _) _ _)).mono ?_
    rintro e w2 ⟨rfl, rfl⟩
    go_wp2_with fail
    go_ret
    exact ReadR.ok HT.out (gb2.trans (gb2.left hg1) (gb2.right (gb_set (gb_set (gb_refl _ _) _ _) _ _))) ((H1.out.setA B1.out _ _).setA (B1.out.set _ _) _ _) ((B1.out.set 5 _).set 6 _) (BS.set (BS.set S1.out B1.out (by decide) _ _) (B1.out.set _ _) (by decide) _ _)

set_option maxHeartbeats 1000000 in
theorem read1_c (R Ab : Nat) (a : AA) (u : Value) (l : List UInt8) (w : World) (h : Rd w R 0 l) (hb : Blk w Ab tArgs (a.at u).cells.toArray) (hs : BS w u a.dl) :
    Calls Try.prog 26 #[.pointer (some ⟨R, 0, none⟩), .int .i64 1, .pointer (some ⟨Ab, 0, none⟩)] w (ReadR R Ab 1 a l w) := by
  obtain ⟨vR, hbR, _⟩ := id h
  have hne : Ab ≠ R := Blk.ne hb hbR (by decide)
  have hns : (some Ab : Option Nat) ≠ some R := by simpa using hne
  have hk : ∀ k, some R = some k → ∃ t cs, Blk w k t cs ∧ t ≠ tU8 := fun k hk => by cases hk; exact ⟨_, _, hbR, by decide⟩
  clear hbR
  go_enter Try.func26, Try.ntmps26
  go_wp2_with fail
  refine (handle_c R l w h).mono ?_
  rintro e w1 ⟨hg1, h1⟩
  rcases hx : rdH l with er | ⟨x, y, l1⟩
  · rw [hx] at h1
    obtain ⟨her, ⟨x, y, rfl⟩, h1⟩ := h1
    have hT : rdF 1 a l = .error er := by unfold rdF; simp only [hx]
    have HT := hide hT
    clear hT hx
    have b1 := hb.grown hg1 hns
    have s1 := hs.kept hg1 hk
    have hA := b1.lt
    obtain ⟨c0, c1, c2, c3, c4, c5, c6, c7, c8, c9, c10, c11⟩ := b1.args
    have f1 := b1.frozen
    have B1 := hide b1
    have S1 := hide s1
    have H1 := hide h1
    clear b1 s1 h1
    go_wp2_with fail
    refine (rErrno_c R er [] _ ((H1.out.setA B1.out _ _).setA (B1.out.set _ _) _ _)).mono ?_
    rintro e w2 ⟨rfl, rfl⟩
    go_wp2_with fail
    go_ret
    exact ReadR.err HT.out her (gb2.trans (gb2.left hg1) (gb2.right (gb_set (gb_set (gb_refl _ _) _ _) _ _)))
  · rw [hx] at h1
    obtain ⟨rfl, h1⟩ := h1
    have hT : rdF 1 a l = .ok ({ a with ji := x, jg := y }, l1) := by unfold rdF; simp only [hx]
    have HT := hide hT
    clear hT hx
    have b1 := hb.grown hg1 hns
    have s1 := hs.kept hg1 hk
    have hA := b1.lt
    obtain ⟨c0, c1, c2, c3, c4, c5, c6, c7, c8, c9, c10, c11⟩ := b1.args
    have f1 := b1.frozen
    have B1 := hide b1
    have S1 := hide s1
    have H1 := hide h1
    clear b1 s1 h1
    go_wp2_with fail
    refine (rErrno_c R 0 l1 _ ((H1.out.setA B1.out _ _).setA (B1.out.set _ _) _ _)).mono ?_
    rintro e w2 ⟨rfl, rfl⟩
    go_wp2_with fail
    go_ret
    exact ReadR.ok HT.out (gb2.trans (gb2.left hg1) (gb2.right (gb_set (gb_set (gb_refl _ _) _ _) _ _))) ((H1.out.setA B1.out _ _).setA (B1.out.set _ _) _ _) ((B1.out.set 7 _).set 8 _) (BS.set (BS.set S1.out B1.out (by decide) _ _) (B1.out.set _ _) (by decide) _ _)

set_option maxHeartbeats 1000000 in
theorem read2_c (R Ab : Nat) (a : AA) (u : Value) (l : List UInt8) (w : World) (h : Rd w R 0 l) (hb : Blk w Ab tArgs (a.at u).cells.toArray) (hs : BS w u a.dl) :
    Calls Try.prog 26 #[.pointer (some ⟨R, 0, none⟩), .int .i64 2, .pointer (some ⟨Ab, 0, none⟩)] w (ReadR R Ab 2 a l w) := by
  obtain ⟨vR, hbR, _⟩ := id h
  have hne : Ab ≠ R := Blk.ne hb hbR (by decide)
  have hns : (some Ab : Option Nat) ≠ some R := by simpa using hne
  have hk : ∀ k, some R = some k → ∃ t cs, Blk w k t cs ∧ t ≠ tU8 := fun k hk => by cases hk; exact ⟨_, _, hbR, by decide⟩
  clear hbR
  go_enter Try.func26, Try.ntmps26
  go_wp2_with fail
  refine (rText_c R 64 (by omega) l w h).mono ?_
  rintro e w1 ⟨hg1, h1⟩
  rcases hx : rdText 64 l with er | ⟨d, l1⟩
  · rw [hx] at h1
    obtain ⟨rfl, h1⟩ := h1
    have her : er ≠ 0 := by rcases rdText_err hx with h | h | h <;> omega
    have hback := run_convback w1 none 0 0 [] (BS.nil _)
    have hT : rdF 2 a l = .error er := by unfold rdF; simp only [hx]
    have HT := hide hT
    clear hT hx
    have b1 := hb.grown hg1 hns
    have s1 := hs.kept hg1 hk
    have hA := b1.lt
    obtain ⟨c0, c1, c2, c3, c4, c5, c6, c7, c8, c9, c10, c11⟩ := b1.args
    have f1 := b1.frozen
    have B1 := hide b1
    have S1 := hide s1
    have H1 := hide h1
    clear b1 s1 h1
    go_wp2_with fail
    refine (rErrno_c R er [] _ (H1.out.setA B1.out _ _)).mono ?_
    rintro e w2 ⟨rfl, rfl⟩
    go_wp2_with fail
    go_ret
    exact ReadR.err HT.out her (gb2.trans (gb2.left hg1) (gb2.right (gb_set (gb_refl _ _) _ _)))
  · rw [hx] at h1
    obtain ⟨v, rfl, hv, h1⟩ := h1
    obtain ⟨Av, cv, rfl, _⟩ := id hv
    have hback := run_convback w1 _ _ _ d hv
    have hT : rdF 2 a l = .ok ({ a with name := ⟨d.toArray⟩ }, l1) := by unfold rdF; simp only [hx]
    have HT := hide hT
    clear hT hx hv
    have b1 := hb.grown hg1 hns
    have s1 := hs.kept hg1 hk
    have hA := b1.lt
    obtain ⟨c0, c1, c2, c3, c4, c5, c6, c7, c8, c9, c10, c11⟩ := b1.args
    have f1 := b1.frozen
    have B1 := hide b1
    have S1 := hide s1
    have H1 := hide h1
    clear b1 s1 h1
    go_wp2_with fail
    refine (rErrno_c R 0 l1 _ (H1.out.setA B1.out _ _)).mono ?_
    rintro e w2 ⟨rfl, rfl⟩
    go_wp2_with fail
    go_ret
    exact ReadR.ok HT.out (gb2.trans (gb2.left hg1) (gb2.right (gb_set (gb_refl _ _) _ _))) (H1.out.setA B1.out _ _) (B1.out.set 9 _) (BS.set S1.out B1.out (by decide) _ _)

set_option maxHeartbeats 1000000 in
theorem read3_c (R Ab : Nat) (a : AA) (u : Value) (l : List UInt8) (w : World) (h : Rd w R 0 l) (hb : Blk w Ab tArgs (a.at u).cells.toArray) (hs : BS w u a.dl) :
    Calls Try.prog 26 #[.pointer (some ⟨R, 0, none⟩), .int .i64 3, .pointer (some ⟨Ab, 0, none⟩)] w (ReadR R Ab 3 a l w) := by
  obtain ⟨vR, hbR, _⟩ := id h
  have hne : Ab ≠ R := Blk.ne hb hbR (by decide)
  have hns : (some Ab : Option Nat) ≠ some R := by simpa using hne
  have hk : ∀ k, some R = some k → ∃ t cs, Blk w k t cs ∧ t ≠ tU8 := fun k hk => by cases hk; exact ⟨_, _, hbR, by decide⟩
  clear hbR
  go_enter Try.func26, Try.ntmps26
  go_wp2_with fail
  refine (rText_c R 64 (by omega) l w h).mono ?_
  rintro e w1 ⟨hg1, h1⟩
  rcases hx : rdText 64 l with er | ⟨d, l1⟩
  · rw [hx] at h1
    obtain ⟨rfl, h1⟩ := h1
    have her : er ≠ 0 := by rcases rdText_err hx with h | h | h <;> omega
    have hback := run_convback w1 none 0 0 [] (BS.nil _)
    have hT : rdF 3 a l = .error er := by unfold rdF; simp only [hx]
    have HT := hide hT
    clear hT hx
    have b1 := hb.grown hg1 hns
    have s1 := hs.kept hg1 hk
    have hA := b1.lt
    obtain ⟨c0, c1, c2, c3, c4, c5, c6, c7, c8, c9, c10, c11⟩ := b1.args
    have f1 := b1.frozen
    have B1 := hide b1
    have S1 := hide s1
    have H1 := hide h1
    clear b1 s1 h1
    go_wp2_with fail
    refine (rErrno_c R er [] _ (H1.out.setA B1.out _ _)).mono ?_
    rintro e w2 ⟨rfl, rfl⟩
    go_wp2_with fail
    go_ret
    exact ReadR.err HT.out her (gb2.trans (gb2.left hg1) (gb2.right (gb_set (gb_refl _ _) _ _)))
  · rw [hx] at h1
    obtain ⟨v, rfl, hv, h1⟩ := h1
    obtain ⟨Av, cv, rfl, _⟩ := id hv
    have hback := run_convback w1 _ _ _ d hv
    have hT : rdF 3 a l = .ok ({ a with name2 := ⟨d.toArray⟩ }, l1) := by unfold rdF; simp only [hx]
    have HT := hide hT
    clear hT hx hv
    have b1 := hb.grown hg1 hns
    have s1 := hs.kept hg1 hk
    have hA := b1.lt
    obtain ⟨c0, c1, c2, c3, c4, c5, c6, c7, c8, c9, c10, c11⟩ := b1.args
    have f1 := b1.frozen
    have B1 := hide b1
    have S1 := hide s1
    have H1 := hide h1
    clear b1 s1 h1
    go_wp2_with fail
    refine (rErrno_c R 0 l1 _ (H1.out.setA B1.out _ _)).mono ?_
    rintro e w2 ⟨rfl, rfl⟩
    go_wp2_with fail
    go_ret
    exact ReadR.ok HT.out (gb2.trans (gb2.left hg1) (gb2.right (gb_set (gb_refl _ _) _ _))) (H1.out.setA B1.out _ _) (B1.out.set 10 _) (BS.set S1.out B1.out (by decide) _ _)

set_option maxHeartbeats 1000000 in
theorem read8_c (R Ab : Nat) (a : AA) (u : Value) (l : List UInt8) (w : World) (h : Rd w R 0 l) (hb : Blk w Ab tArgs (a.at u).cells.toArray) (hs : BS w u a.dl) :
    Calls Try.prog 26 #[.pointer (some ⟨R, 0, none⟩), .int .i64 8, .pointer (some ⟨Ab, 0, none⟩)] w (ReadR R Ab 8 a l w) := by
  obtain ⟨vR, hbR, _⟩ := id h
  have hne : Ab ≠ R := Blk.ne hb hbR (by decide)
  have hns : (some Ab : Option Nat) ≠ some R := by simpa using hne
  have hk : ∀ k, some R = some k → ∃ t cs, Blk w k t cs ∧ t ≠ tU8 := fun k hk => by cases hk; exact ⟨_, _, hbR, by decide⟩
  clear hbR
  go_enter Try.func26, Try.ntmps26
  go_wp2_with fail
  refine (rText_c R 2048 (by omega) l w h).mono ?_
  rintro e w1 ⟨hg1, h1⟩
  rcases hx : rdText 2048 l with er | ⟨d, l1⟩
  · rw [hx] at h1
    obtain ⟨rfl, h1⟩ := h1
    have her : er ≠ 0 := by rcases rdText_err hx with h | h | h <;> omega
    have hT : rdF 8 a l = .error er := by unfold rdF; simp only [hx]
    have HT := hide hT
    clear hT hx
    have b1 := hb.grown hg1 hns
    have s1 := hs.kept hg1 hk
    have hA := b1.lt
    obtain ⟨c0, c1, c2, c3, c4, c5, c6, c7, c8, c9, c10, c11⟩ := b1.args
    have f1 := b1.frozen
    have B1 := hide b1
    have S1 := hide s1
    have H1 := hide h1
    clear b1 s1 h1
    go_wp2_with fail
    refine (rErrno_c R er [] _ (H1.out.setA B1.out _ _)).mono ?_
    rintro e w2 ⟨rfl, rfl⟩
    go_wp2_with fail
    go_ret
    exact ReadR.err HT.out her (gb2.trans (gb2.left hg1) (gb2.right (gb_set (gb_refl _ _) _ _)))
  · rw [hx] at h1
    obtain ⟨v, rfl, hv, h1⟩ := h1
    obtain ⟨Av, cv, rfl, _⟩ := id hv
    have hT : rdF 8 a l = .ok ({ a with dl := d }, l1) := by unfold rdF; simp only [hx]
    have HT := hide hT
    have V := hide hv
    clear hT hx hv
    have b1 := hb.grown hg1 hns
    have s1 := hs.kept hg1 hk
    have hA := b1.lt
    obtain ⟨c0, c1, c2, c3, c4, c5, c6, c7, c8, c9, c10, c11⟩ := b1.args
    have f1 := b1.frozen
    have B1 := hide b1
    have S1 := hide s1
    have H1 := hide h1
    clear b1 s1 h1
    go_wp2_with fail
    refine (rErrno_c R 0 l1 _ (H1.out.setA B1.out _ _)).mono ?_
    rintro e w2 ⟨rfl, rfl⟩
    go_wp2_with fail
    go_ret
    exact ReadR.ok HT.out (gb2.trans (gb2.left hg1) (gb2.right (gb_set (gb_refl _ _) _ _))) (H1.out.setA B1.out _ _) (B1.out.set 11 _) (BS.set V.out B1.out (by decide) _ _)

theorem cread_c (R Ab f : Nat) (hf : f < 9) (a : AA) (u : Value) (l : List UInt8) (w : World) (h : Rd w R 0 l) (hb : Blk w Ab tArgs (a.at u).cells.toArray) (hs : BS w u a.dl) :
    Calls Try.prog 26 #[.pointer (some ⟨R, 0, none⟩), .int .i64 f, .pointer (some ⟨Ab, 0, none⟩)] w (ReadR R Ab f a l w) := by
  match f, hf with
  | 0, _ => exact read0_c R Ab a u l w h hb hs
  | 1, _ => exact read1_c R Ab a u l w h hb hs
  | 2, _ => exact read2_c R Ab a u l w h hb hs
  | 3, _ => exact read3_c R Ab a u l w h hb hs
  | 4, _ => exact read4_c R Ab a u l w h hb hs
  | 5, _ => exact read5_c R Ab a u l w h hb hs
  | 6, _ => exact read6_c R Ab a u l w h hb hs
  | 7, _ => exact read7_c R Ab a u l w h hb hs
  | 8, _ => exact read8_c R Ab a u l w h hb hs

end Go.Tr
