/- Answers and entries in memory. No condition. -/
import Derived.Test.YtdbacbhopkdhgaaDoorFew
import Derived.Test.YtdbacbhopkdhgaaDoorEq
namespace Go.Tr
open Go.RowKit Go.Proofs
set_option linter.unusedVariables false
abbrev tEnt : TypeId := 57
abbrev tEnts : TypeId := 28
abbrev tRes : TypeId := 30
abbrev tAttr : TypeId := 26
structure Ent where
  name : ByteArray
  ino : Int
  gen : Int
def Ent.cells (e : Ent) : List Value := [.string e.name, .int .i64 e.ino, .int .i64 e.gen]
def Ent.val (e : Ent) : Value := .agg #[.string e.name, .int .i64 e.ino, .int .i64 e.gen]
def sameEnt (a b : Ent) : Bool := a.name == b.name && a.ino == b.ino && a.gen == b.gen
structure Att where
  ino : Int
  gen : Int
  kind : Int
  mode : Int
  size : Int
def Att.val (a : Att) : Value := .agg #[.int .i64 a.ino, .int .i64 a.gen, .int .i64 a.kind, .int .i64 a.mode, .int .i64 a.size]
def sameAtt (a b : Att) : Bool := a.ino == b.ino && a.gen == b.gen && a.kind == b.kind && a.mode == b.mode && a.size == b.size
theorem sameAtt_refl (a : Att) : sameAtt a a = true := by simp [sameAtt]
theorem sameAtt_iff (a b : Att) : sameAtt a b = true ↔ a = b := by
  obtain ⟨a0, a1, a2, a3, a4⟩ := a
  obtain ⟨b0, b1, b2, b3, b4⟩ := b
  simp [sameAtt, and_assoc]
theorem beqS (a b : ByteArray) : (a == b) = true ↔ a = b := by
  rw [beq_toListBytes, ByteArray.toList_eq, ByteArray.toList_eq]
  obtain ⟨⟨x⟩⟩ := a
  obtain ⟨⟨y⟩⟩ := b
  simp
theorem sameEnt_iff (a b : Ent) : sameEnt a b = true ↔ a = b := by
  obtain ⟨a0, a1, a2⟩ := a
  obtain ⟨b0, b1, b2⟩ := b
  simp [sameEnt, and_assoc, beqS]
set_option maxHeartbeats 1000000 in
theorem run_eqatt (a b : Att) (w : World) : (binOp .eql tAttr a.val b.val).run Tryd.prog w = .ok (.bool (sameAtt a b)) w := by
  unfold Att.val sameAtt
  simp [go_sem]
  repeat' split
  all_goals simp_all
set_option maxHeartbeats 1000000 in
theorem run_eqent (a b : Ent) (w : World) : (binOp .eql tEnt a.val b.val).run Tryd.prog w = .ok (.bool (sameEnt a b)) w := by
  unfold Ent.val sameEnt
  rw [beq_toListBytes]
  simp [go_sem]
  repeat' split
  all_goals simp_all
/-! ### rows of entries -/
def ev (el : List Ent) : List Value := el.flatMap Ent.cells
theorem ev_length (el : List Ent) : (ev el).length = el.length * 3 := by
  induction el with
  | nil => rfl
  | cons e t ih => simp only [ev, List.flatMap_cons, List.length_append, List.length_cons] at *; rw [ih]; simp [Ent.cells]; omega
theorem ev_append (a b : List Ent) : ev (a ++ b) = ev a ++ ev b := by simp [ev]
theorem ev_one (el : List Ent) : ∀ u ∈ ev el, u.oneCell' = true := by
  intro u hu
  obtain ⟨e, _, he⟩ := List.mem_flatMap.1 hu
  simp only [Ent.cells, List.mem_cons, List.not_mem_nil, or_false] at he
  rcases he with rfl | rfl | rfl <;> rfl
theorem ev_at : ∀ {el : List Ent} {j : Nat} {e : Ent}, el[j]? = some e → (ev el)[j * 3]? = some (.string e.name) ∧ (ev el)[j * 3 + 1]? = some (.int .i64 e.ino) ∧ (ev el)[j * 3 + 2]? = some (.int .i64 e.gen)
  | [], j, e, h => by simp at h
  | x :: t, 0, e, h => by
    simp at h
    subst h
    exact ⟨rfl, rfl, rfl⟩
  | x :: t, j + 1, e, h => by
    have := ev_at (el := t) (j := j) (e := e) (by simpa using h)
    simp only [ev, List.flatMap_cons, Ent.cells, List.cons_append, List.nil_append]
    rw [show (j + 1) * 3 = j * 3 + 1 + 1 + 1 by omega, show j * 3 + 1 + 1 + 1 + 1 = j * 3 + 1 + 1 + 1 + 1 by rfl, show j * 3 + 1 + 1 + 1 + 2 = j * 3 + 2 + 1 + 1 + 1 by omega]
    simp only [List.getElem?_cons_succ]
    exact this
/-- the slice owns a row of entries that was made from block 'base' on -/
def OwnE (base : Nat) (w : World) (v : Value) (el : List Ent) : Prop := w.ownsRow base tEnt 3 v el.length (ev el)
theorem OwnE.nil (base : Nat) (w : World) : OwnE base w (.slice none 0 0) [] := World.ownsRow_nil w base tEnt 3
theorem OwnE.kept {base : Nat} {w w' : World} {v : Value} {el : List Ent} {r : Option Nat} (h : OwnE base w v el) (hg : w.grownBy w' r) (hr : ∀ k, r = some k → ∃ t cs, Blk w k t cs ∧ t ≠ tEnt) : OwnE base w' v el := by
  refine World.ownsRow.kept h hg ?_
  rcases h.2 with ⟨rfl, _⟩ | ⟨g, cap, cur, rfl, _, hgg, _⟩
  · exact .inl rfl
  · right
    simp only [Value.ownBlock]
    rintro rfl
    obtain ⟨t, cs, hk, ht⟩ := hr g rfl
    unfold Blk at hk
    rw [hgg] at hk
    injection hk with hk
    injection hk with _ hk
    exact ht hk.symm
theorem OwnE.grown {base : Nat} {w w' : World} {v : Value} {el : List Ent} (h : OwnE base w v el) (hg : w.grownBy w' none) : OwnE base w' v el := h.kept hg (fun _ h => by cases h)
theorem OwnE.lower {base base' : Nat} {w : World} {v : Value} {el : List Ent} (h : OwnE base w v el) (hb : base' ≤ base) : OwnE base' w v el := by
  refine ⟨h.1, ?_⟩
  rcases h.2 with h2 | ⟨g, cap, cur, hv, hbg, rest⟩
  · exact .inl h2
  · exact .inr ⟨g, cap, cur, hv, Nat.le_trans hb hbg, rest⟩
theorem OwnE.shape {base : Nat} {w : World} {v : Value} {el : List Ent} (h : OwnE base w v el) : ∃ A c, v = .slice A el.length c ∧ (∀ a, A = some a → ∃ g, a = ⟨g, 0, none⟩ ∧ base ≤ g ∧ g < w.heap.size) ∧ (A = none → el.length = 0 ∧ c = 0) ∧ el.length ≤ c := by
  have hl := World.ownsRow.lt h
  rcases h.2 with ⟨rfl, h0⟩ | ⟨g, cap, cur, rfl, hb, hg, hnc, _⟩
  · exact ⟨none, 0, by rw [h0], fun a h => (by cases h), fun _ => ⟨h0, rfl⟩, by omega⟩
  · exact ⟨_, cap, rfl, fun a ha => (by cases ha; exact ⟨g, rfl, hb, (hl g rfl).2⟩), fun h => (by cases h), hnc⟩
theorem OwnE.cell {base : Nat} {w : World} {g n c : Nat} {el : List Ent} {j : Nat} {e : Ent} (h : OwnE base w (.slice (some ⟨g, 0, none⟩) n c) el) (hj : el[j]? = some e) :
    w.cell? ⟨g, j * 3, none⟩ = some (.string e.name) ∧ w.cell? ⟨g, j * 3 + 1, none⟩ = some (.int .i64 e.ino) ∧ w.cell? ⟨g, j * 3 + 2, none⟩ = some (.int .i64 e.gen) := by
  obtain ⟨A, c', hv, _⟩ := h.shape
  injection hv with h1 h2 h3
  subst h2 h3
  have hl : j < el.length := (List.getElem?_eq_some_iff.1 hj).1
  obtain ⟨k1, k2, k3⟩ := ev_at hj
  exact ⟨(World.ownsRow.cellAt h (j * 3) (by omega)).trans k1, (World.ownsRow.cellAt h (j * 3 + 1) (by omega)).trans k2, (World.ownsRow.cellAt h (j * 3 + 2) (by omega)).trans k3⟩
/-- the slice reads as these entries; their row starts at its block's first cell -/
def ES (w : World) (v : Value) (el : List Ent) : Prop := OwnE 0 w v el
theorem ES.nil (w : World) : ES w (.slice none 0 0) [] := OwnE.nil 0 w
theorem OwnE.es {base : Nat} {w : World} {v : Value} {el : List Ent} (h : OwnE base w v el) : ES w v el := h.lower (Nat.zero_le _)
theorem infoEnt : (Tryd.prog.info? tEnt).map (fun i => (i.zero, i.size, i.bytes)) = some (some (.agg #[.string emptyS, .int .i64 0, .int .i64 0]), 3, 32) := by kernel_rfl
/-- append of one entry to a row of the call's own -/
theorem wp_appE {ops : Array Oper} {rest : List Oper} {o : Oper} {a : Act} {w : World} {Q : Exit → Act → World → Prop} (hgd : o.guard = none) (s x : Operand)
    (ho : o.op = .call { callee := .builtin .append, args := #[s, x], argTypes := #[tEnts, tEnts] })
    (base : Nat) (v : Value) (el : List Ent) (e : Ent) (g n c : Nat) (hs : a.eval s = v) (hx : a.eval x = .slice (some ⟨g, 0, none⟩) n c) (hn1 : n = 1) (hown : OwnE base w v el)
    (hc : w.cell? ⟨g, 0, none⟩ = some (.string e.name) ∧ w.cell? ⟨g, 1, none⟩ = some (.int .i64 e.ino) ∧ w.cell? ⟨g, 2, none⟩ = some (.int .i64 e.gen)) (hn : el.length ≤ 1000000) (hbase : base ≤ w.heap.size)
    (h : ∀ A n c w', OwnE base w' (.slice A n c) (el ++ [e]) → n = el.length + 1 → w.grownBy w' v.ownBlock → wpList Tryd.prog ops Q rest (a.put o.dst (.slice A n c)) w') : wpList Tryd.prog ops Q (o :: rest) a w := by
  subst hn1
  obtain ⟨i0, hi, hz0, hz1, hz2⟩ := info_parts infoEnt
  refine wpList_append_own w hgd s x tEnts ho base tEnt i0 (.agg #[.string emptyS, .int .i64 0, .int .i64 0]) 3 32 Tryd.underlying28 hi hz0 hz1 hz2 rfl (by decide) v el.length (ev el) hs hown ⟨g, 0, none⟩ 1 c e.cells hx rfl (fun j u hu => ?_) (by simpa [ev] using ev_one [e]) (by unfold maxLen; omega) (by omega) hbase ?_
  · rw [Addr.add_lit, Nat.zero_add]
    match j with
    | 0 => cases hu; exact hc.1
    | 1 => cases hu; exact hc.2.1
    | 2 => cases hu; exact hc.2.2
    | j + 3 => simp [Ent.cells] at hu
  · intro v' w' hown' hg _
    have hown2 : OwnE base w' v' (el ++ [e]) := by
      unfold OwnE
      rw [ev_append, List.length_append]
      have : ev [e] = e.cells := by simp [ev]
      rw [this]
      exact hown'
    obtain ⟨A, c, rfl, _⟩ := hown2.shape
    exact h A _ c w' hown2 (by simp) hg
/-! ### answers -/
structure RR where
  errno : Int
  att : Att
  dl : List UInt8
  count : Int
  eof : Bool
  el : List Ent
def RR.cells (r : RR) (u v : Value) : List Value := [.int .i64 r.errno, .int .i64 r.att.ino, .int .i64 r.att.gen, .int .i64 r.att.kind, .int .i64 r.att.mode, .int .i64 r.att.size, u, .int .i64 r.count, .bool r.eof, v]
def RR.val (r : RR) (u v : Value) : Value := .agg (r.cells u v).toArray
/-- the slices read as the answer's bytes and entries -/
structure RR.ok (w : World) (r : RR) (u v : Value) : Prop where
  d : BS w u r.dl
  e : ES w v r.el
theorem RR.ok.grown {w w' : World} {r : RR} {u v : Value} (h : r.ok w u v) (hg : w.grownBy w' none) : r.ok w' u v := ⟨h.d.grown hg, OwnE.grown h.e hg⟩
instance : DecidableEq Ent := fun a b => decidable_of_iff _ (sameEnt_iff a b)
def sameR (a b : RR) : Bool := a.errno == b.errno && sameAtt a.att b.att && a.dl == b.dl && a.count == b.count && a.eof == b.eof && decide (a.el = b.el)
theorem ent_cases {x y : Ent} (h : x ≠ y) : ¬ x.name.toList = y.name.toList ∨ (x.name = y.name ∧ ¬ x.ino = y.ino) ∨ (x.name = y.name ∧ x.ino = y.ino ∧ ¬ x.gen = y.gen) := by
  obtain ⟨x0, x1, x2⟩ := x
  obtain ⟨y0, y1, y2⟩ := y
  have hn : x0.toList = y0.toList ↔ x0 = y0 := by rw [← beqS, beq_toListBytes]; simp
  by_cases h0 : x0.toList = y0.toList
  · rw [hn] at h0
    subst h0
    by_cases h1 : x1 = y1
    · subst h1
      exact .inr (.inr ⟨rfl, rfl, fun h2 => h (by simp at h2; rw [h2])⟩)
    · exact .inr (.inl ⟨rfl, h1⟩)
  · exact .inl h0
def zeroR (e : Int) : RR := { errno := e, att := ⟨0, 0, 0, 0, 0⟩, dl := [], count := 0, eof := false, el := [] }
end Go.Tr
