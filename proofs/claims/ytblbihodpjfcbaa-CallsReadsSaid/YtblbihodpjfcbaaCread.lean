/- calls: a field is read. No condition. -/
import Derived.Test.YtblbihodpjfcbaaRead2
import Derived.Test.YtblbihodpjfcbaaLay2
namespace Go.Tr
open Go.RowKit Go.Proofs
set_option linter.unusedVariables false

/-- two rows may have turned -/
structure gb2 (w w' : World) (p q : Nat) : Prop where
  os : w'.os = w.os
  tape : w'.tape = w.tape
  output : w'.output = w.output
  size : w.heap.size ≤ w'.heap.size
  block : ∀ k, k < w.heap.size → k ≠ p → k ≠ q → w'.heap[k]? = w.heap[k]?
theorem gb2.left {w w' : World} {p q : Nat} (h : w.grownBy w' (some p)) : gb2 w w' p q := ⟨h.os, h.tape, h.output, h.size, fun k hk h1 _ => h.block k hk (by simpa using h1)⟩
theorem gb2.right {w w' : World} {p q : Nat} (h : w.grownBy w' (some q)) : gb2 w w' p q := ⟨h.os, h.tape, h.output, h.size, fun k hk _ h2 => h.block k hk (by simpa using h2)⟩
theorem gb2.trans {w w1 w' : World} {p q : Nat} (h : gb2 w w1 p q) (h' : gb2 w1 w' p q) : gb2 w w' p q :=
  ⟨h'.os.trans h.os, h'.tape.trans h.tape, h'.output.trans h.output, Nat.le_trans h.size h'.size, fun k hk h1 h2 => (h'.block k (Nat.lt_of_lt_of_le hk h.size) h1 h2).trans (h.block k hk h1 h2)⟩
theorem gb2.new {w0 w w' : World} {p q : Nat} (h : w0.grownBy w none) (h' : gb2 w w' p q) (hp : w0.heap.size ≤ p) (hq : w0.heap.size ≤ q) : w0.grownBy w' none :=
  ⟨h'.os.trans h.os, h'.tape.trans h.tape, h'.output.trans h.output, Nat.le_trans h.size h'.size, fun k hk hr => (h'.block k (Nat.lt_of_lt_of_le hk h.size) (by omega) (by omega)).trans (h.block k hk hr)⟩
theorem Blk.kept2 {w w' : World} {p q g : Nat} {t : TypeId} {cs : Array Value} (h : Blk w g t cs) (hg : gb2 w w' p q) (hp : g ≠ p) (hq : g ≠ q) : Blk w' g t cs := (hg.block g h.lt hp hq).trans h
theorem BS.kept2 {w w' : World} {p q : Nat} {t t' : TypeId} {cs cs' : Array Value} {v : Value} {l : List UInt8} (h : BS w v l) (hg : gb2 w w' p q) (hp : Blk w p t cs) (hq : Blk w q t' cs') (h1 : t ≠ tU8) (h2 : t' ≠ tU8) : BS w' v l := by
  obtain ⟨A, c, hv, hc, hn, hcell⟩ := h
  refine ⟨A, c, hv, hc, hn, fun h0 => ?_⟩
  obtain ⟨g, o, cur, fr, hA, hb, hj⟩ := hcell h0
  refine ⟨g, o, cur, fr, hA, ?_, hj⟩
  rw [hg.block g (Array.getElem?_eq_some_iff.1 hb).1]
  · exact hb
  · rintro rfl
    unfold Blk at hp
    rw [hb] at hp
    injection hp with hk
    injection hk with _ hk _
    exact h1 hk.symm
  · rintro rfl
    unfold Blk at hq
    rw [hb] at hq
    injection hq with hk
    injection hk with _ hk _
    exact h2 hk.symm
theorem VS.kept2 {tE : TypeId} {w w' : World} {p q : Nat} {t t' : TypeId} {cs cs' : Array Value} {v : Value} {xs : List Value} (h : VS tE w v xs) (hg : gb2 w w' p q) (hp : Blk w p t cs) (hq : Blk w q t' cs') (h1 : t ≠ tE) (h2 : t' ≠ tE) : VS tE w' v xs := by
  obtain ⟨A, c, hv, hc, hn, hcell⟩ := h
  refine ⟨A, c, hv, hc, hn, fun h0 => ?_⟩
  obtain ⟨g, o, cur, fr, hA, hb, hj⟩ := hcell h0
  refine ⟨g, o, cur, fr, hA, ?_, hj⟩
  rw [hg.block g (Array.getElem?_eq_some_iff.1 hb).1]
  · exact hb
  · rintro rfl
    unfold Blk at hp
    rw [hb] at hp
    injection hp with hk
    injection hk with _ hk _
    exact h1 hk.symm
  · rintro rfl
    unfold Blk at hq
    rw [hb] at hq
    injection hq with hk
    injection hk with _ hk _
    exact h2 hk.symm

/-- what a field's reading gives -/
def rdH (l : List UInt8) : Except Int (Nat × Nat × List UInt8) :=
  match rdN 4 l with
  | .error e => .error e
  | .ok (x, l1) => match rdN 4 l1 with
    | .error e => .error e
    | .ok (y, l2) => .ok (x, y, l2)
def rdF (f : Nat) (a : AA) (l : List UInt8) : Except Int (AA × List UInt8) :=
  match f with
  | 0 => match rdH l with | .error e => .error e | .ok (x, y, l') => .ok ({ a with hi := x, hg := y }, l')
  | 1 => match rdH l with | .error e => .error e | .ok (x, y, l') => .ok ({ a with ji := x, jg := y }, l')
  | 2 => match rdText 64 l with | .error e => .error e | .ok (d, l') => .ok ({ a with name := ⟨d.toArray⟩ }, l')
  | 3 => match rdText 64 l with | .error e => .error e | .ok (d, l') => .ok ({ a with name2 := ⟨d.toArray⟩ }, l')
  | 4 => match rdN 8 l with | .error e => .error e | .ok (x, l') => if 4611686018427387904 < x then .error 4 else .ok ({ a with off := x }, l')
  | 5 => match rdN 4 l with | .error e => .error e | .ok (x, l') => .ok ({ a with count := x }, l')
  | 6 => match rdN 4 l with | .error e => .error e | .ok (x, l') => .ok ({ a with size := x }, l')
  | 7 => match rdN 4 l with | .error e => .error e | .ok (x, l') => .ok ({ a with mode := x }, l')
  | _ => match rdText 2048 l with | .error e => .error e | .ok (d, l') => .ok ({ a with dl := d }, l')
def AA.at (a : AA) (u : Value) : AA := { a with data := u }

theorem rdN_err {n : Nat} {l : List UInt8} {e : Int} (h : rdN n l = .error e) : e = 3 := by
  unfold rdN at h
  split at h
  · injection h with h; exact h.symm
  · cases h
theorem rdN4_lt {l l' : List UInt8} {x : Nat} (h : rdN 4 l = .ok (x, l')) : x < 4294967296 := by
  have := beN4 l
  unfold rdN at h
  split at h
  · cases h
  · injection h with h
    injection h with h _
    omega
theorem rdN8_lt {l l' : List UInt8} {x : Nat} (h : rdN 8 l = .ok (x, l')) : x < 18446744073709551616 := by
  have := beN8 l
  unfold rdN at h
  split at h
  · cases h
  · injection h with h
    injection h with h _
    omega
theorem rdText_err {m : Nat} {l : List UInt8} {e : Int} (h : rdText m l = .error e) : e = 3 ∨ e = 4 ∨ e = 2 := by
  unfold rdText at h
  split at h
  · rename_i hx
    injection h with h
    subst h
    exact Or.inl (rdN_err hx)
  · split at h
    · injection h with h; exact Or.inr (Or.inl h.symm)
    · split at h
      · injection h with h; exact Or.inl h.symm
      · split at h
        · cases h
        · injection h with h; exact Or.inr (Or.inr h.symm)

abbrev tHd : TypeId := 26
def HandleR (R : Nat) (l : List UInt8) (w : World) (e : Ending) (w' : World) : Prop :=
  w.grownBy w' (some R) ∧ match rdH l with
  | .ok (x, y, l') => e = .returned (.agg #[.int .i64 x, .int .i64 y]) ∧ Rd w' R 0 l'
  | .error er => er ≠ 0 ∧ (∃ x y : Int, e = .returned (.agg #[.int .i64 x, .int .i64 y])) ∧ Rd w' R er []
theorem HandleR.ok {R : Nat} {l l' : List UInt8} {x y : Nat} {w w' : World} (h : rdH l = .ok (x, y, l')) (hg : w.grownBy w' (some R)) (hr : Rd w' R 0 l') : HandleR R l w (.returned (.agg #[.int .i64 x, .int .i64 y])) w' := by
  unfold HandleR
  rw [h]
  exact ⟨hg, rfl, hr⟩
theorem HandleR.err {R : Nat} {l : List UInt8} {x y : Int} {er : Int} {w w' : World} (h : rdH l = .error er) (he : er ≠ 0) (hg : w.grownBy w' (some R)) (hr : Rd w' R er []) : HandleR R l w (.returned (.agg #[.int .i64 x, .int .i64 y])) w' := by
  unfold HandleR
  rw [h]
  exact ⟨hg, he, ⟨x, y, rfl⟩, hr⟩
theorem Rd.set2 {w : World} {R g : Nat} {e : Int} {l : List UInt8} {cs : Array Value} (h : Rd w R e l) (hb : Blk w g tHd cs) (u v : Value) (i j : Nat) : Rd ((w.setCell ⟨g, i, none⟩ u).setCell ⟨g, j, none⟩ v) R e l :=
  h.kept (gb_set (gb_set (gb_refl w (some g)) _ _) _ _) fun k hk => by cases hk; exact ⟨_, _, hb, by decide, by decide⟩
set_option maxHeartbeats 1000000 in
theorem handle_c (R : Nat) (l : List UInt8) (w : World) (h : Rd w R 0 l) :
    Calls Try.prog 42 #[.pointer (some ⟨R, 0, none⟩)] w (HandleR R l w) := by
  have hR := h.lt
  have h0 : Rd (w.alloc (.cells #[.int .i64 0, .int .i64 0] tHd)) R 0 l := h.kept (gb_alloc (gb_refl w none) _) (fun _ h => by cases h)
  have hg0 : w.grownBy (w.alloc (.cells #[.int .i64 0, .int .i64 0] tHd)) (some R) := gb_alloc (gb_refl _ _) _
  have b0 : Blk (w.alloc (.cells #[.int .i64 0, .int .i64 0] tHd)) w.heap.size tHd #[.int .i64 0, .int .i64 0] := Blk.new _ _ _
  have hne : w.heap.size ≠ R := by omega
  have hns : (some w.heap.size : Option Nat) ≠ some R := by simpa using hne
  clear h
  go_enter Try.func42, Try.ntmps42
  go_wp2_with fail
  generalize w.alloc (.cells #[.int .i64 0, .int .i64 0] tHd) = w0 at *
  refine (rU32_c R l w0 h0).mono ?_
  rintro e w1 ⟨hg1, h1⟩
  have b1 := b0.grown hg1 hns
  have g1 := gb_trans hg0 hg1
  clear b0 hg0 h0
  rcases hx : rdN 4 l with er | ⟨x, l1⟩
  · rw [hx] at h1
    obtain ⟨rfl, h1⟩ := h1
    obtain rfl := rdN_err hx
    have hT : rdH l = .error 3 := by unfold rdH; rw [hx]
    have HT := hide hT
    clear hT hx
    go_wp2_with fail
    refine (rU32_bad_c R 3 [] w1 h1 (by decide)).mono ?_
    rintro e w2 ⟨rfl, rfl⟩
    have hR1 := b1.lt
    have c0 := b1.cell 0
    have c1 := b1.cell 1
    have f1 := b1.frozen
    simp only [List.getElem?_toArray, List.getElem?_cons_zero, List.getElem?_cons_succ] at c0 c1
    have H1 := hide h1
    have B1 := hide b1
    clear h1 b1
    go_wp2_with fail
    refine bodyPost_ret (v := .agg #[.int .i64 0, .int .i64 0]) (by simp [results, Try.results42, go_sem, c0, c1]) rfl ?_
    exact HandleR.err (x := 0) (y := 0) HT.out (by decide) (gb_set_new (gb_set_new g1 (Nat.le_refl _) _ _) (Nat.le_refl _) _ _) (H1.out.set2 B1.out _ _ _ _)
  · rw [hx] at h1
    obtain ⟨rfl, h1⟩ := h1
    have hxl := rdN4_lt hx
    go_wp2_with fail
    refine (rU32_c R l1 w1 h1).mono ?_
    rintro e w2 ⟨hg2, h2⟩
    replace b1 := b1.grown hg2 hns
    replace g1 := gb_trans g1 hg2
    clear h1
    rcases hy : rdN 4 l1 with er | ⟨y, l2⟩
    · rw [hy] at h2
      obtain ⟨rfl, h2⟩ := h2
      obtain rfl := rdN_err hy
      have hT : rdH l = .error 3 := by unfold rdH; rw [hx]; simp only [hy]
      have HT := hide hT
      clear hT hx hy hg1 hg2
      have hR1 := b1.lt
      have c0 := b1.cell 0
      have c1 := b1.cell 1
      have f1 := b1.frozen
      simp only [List.getElem?_toArray, List.getElem?_cons_zero, List.getElem?_cons_succ] at c0 c1
      have H1 := hide h2
      have B1 := hide b1
      clear h2 b1
      go_wp2_with fail
      refine bodyPost_ret (v := .agg #[.int .i64 x, .int .i64 0]) (by simp [results, Try.results42, go_sem, c0, c1]) rfl ?_
      exact HandleR.err HT.out (by decide) (gb_set_new (gb_set_new g1 (Nat.le_refl _) _ _) (Nat.le_refl _) _ _) (H1.out.set2 B1.out _ _ _ _)
    · rw [hy] at h2
      obtain ⟨rfl, h2⟩ := h2
      have hyl := rdN4_lt hy
      have hT : rdH l = .ok (x, y, l2) := by unfold rdH; rw [hx]; simp only [hy]
      have HT := hide hT
      clear hT hx hy hg1 hg2
      have hR1 := b1.lt
      have c0 := b1.cell 0
      have c1 := b1.cell 1
      have f1 := b1.frozen
      simp only [List.getElem?_toArray, List.getElem?_cons_zero, List.getElem?_cons_succ] at c0 c1
      have H1 := hide h2
      have B1 := hide b1
      clear h2 b1
      go_wp2_with fail
      refine bodyPost_ret (v := .agg #[.int .i64 x, .int .i64 y]) (by simp [results, Try.results42, go_sem, c0, c1]) rfl ?_
      exact HandleR.ok HT.out (gb_set_new (gb_set_new g1 (Nat.le_refl _) _ _) (Nat.le_refl _) _ _) (H1.out.set2 B1.out _ _ _ _)
end Go.Tr
