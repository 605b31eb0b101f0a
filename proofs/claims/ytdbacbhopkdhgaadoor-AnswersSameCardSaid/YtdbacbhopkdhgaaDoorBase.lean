/- Words for memory that many proofs share: a block that is known whole, bytes that a slice reads as, what a call leaves of memory. No condition. -/
import Derived.Test.YtdbacbhopkdhgaaDoorProg
import Derived.Test.YtdbacbhopkdhgaaDoorReg
import Derived.WalkKit
import Derived.Outline
import Derived.Laws.IdiomStrings
import Derived.KernelRfl
namespace Go.Tr
open Go.RowKit Go.Proofs

theorem hide {p : Prop} (h : p) : Hid p := h

abbrev tU8 : TypeId := 5
abbrev tBs : TypeId := 27

/-- the cells of bytes -/
def bv (l : List UInt8) : List Value := l.map fun u => Value.int .u8 (u.toNat : Int)

theorem bv_length (l : List UInt8) : (bv l).length = l.length := by simp [bv]
theorem bv_append (a b : List UInt8) : bv (a ++ b) = bv a ++ bv b := by simp [bv]
theorem bv_one (l : List UInt8) : ∀ u ∈ bv l, u.oneCell' = true := by
  intro u hu
  obtain ⟨x, _, rfl⟩ := List.mem_map.1 hu
  rfl
theorem bv_get {l : List UInt8} {j : Nat} (h : j < l.length) : (bv l)[j]? = some (.int .u8 (l[j].toNat : Int)) := by simp [bv, h]

/-- a block that is known whole -/
def Blk (w : World) (g : Nat) (t : TypeId) (cs : Array Value) : Prop := w.heap[g]? = some (.cells cs t (0, 0))

section
variable {w w' w0 : World} {g b : Nat} {t : TypeId} {cs : Array Value}
theorem Blk.lt (h : Blk w g t cs) : g < w.heap.size := (Array.getElem?_eq_some_iff.1 h).1
theorem Blk.cell (h : Blk w g t cs) (i : Nat) : w.cell? ⟨g, i, none⟩ = cs[i]? := cell_of_row w g i cs t (0, 0) h
theorem Blk.frozen (h : Blk w g t cs) (i : Nat) : w.frozen? ⟨g, i, none⟩ = false := frozen_of_row w g i cs t h
theorem Blk.new (w : World) (t : TypeId) (cs : Array Value) : Blk (w.alloc (.cells cs t)) w.heap.size t cs := heap_alloc_new w _
theorem Blk.drew (h : Blk w g t cs) : Blk w.drew g t cs := h
theorem Blk.drewN (h : Blk w g t cs) (n : Nat) : Blk (w.drewN n) g t cs := h
theorem Blk.alloc (h : Blk w g t cs) (o : Obj) : Blk (w.alloc o) g t cs := (Below.heap_alloc w o g h.lt).trans h
theorem Blk.set (h : Blk w g t cs) (i : Nat) (u : Value) : Blk (w.setCell ⟨g, i, none⟩ u) g t (cs.setIfInBounds i u) := by
  unfold Blk at h ⊢
  simp [World.setCell, Array.getElem?_modify, h]
theorem Blk.far (h : Blk w g t cs) {p : Addr} (hp : g ≠ p.block) (u : Value) : Blk (w.setCell p u) g t cs := (heap_setCell_other w p g u hp).trans h
theorem Blk.grown {row : Option Nat} (h : Blk w g t cs) (hb : w.grownBy w' row) (hg : some g ≠ row) : Blk w' g t cs := (hb.block g h.lt hg).trans h
theorem Blk.ne {g' : Nat} {t' : TypeId} {cs' : Array Value} (h : Blk w g t cs) (h' : Blk w g' t' cs') (hne : t ≠ t') : g ≠ g' := by
  rintro rfl
  unfold Blk at h h'
  rw [h] at h'
  injection h' with h'
  injection h' with _ ht
  exact hne ht

/-! ### what a call leaves -/
theorem gb_refl (w : World) (r : Option Nat) : w.grownBy w r := ⟨rfl, rfl, rfl, Nat.le_refl _, fun _ _ _ => rfl⟩
theorem gb_trans {r : Option Nat} (h : w0.grownBy w r) (h' : w.grownBy w' r) : w0.grownBy w' r :=
  ⟨h'.os.trans h.os, h'.tape.trans h.tape, h'.output.trans h.output, Nat.le_trans h.size h'.size, fun k hk hr => (h'.block k (Nat.lt_of_lt_of_le hk h.size) hr).trans (h.block k hk hr)⟩
theorem gb_none {r : Option Nat} (h : w.grownBy w' none) : w.grownBy w' r := ⟨h.os, h.tape, h.output, h.size, fun k hk _ => h.block k hk (by simp)⟩
/-- a row that is new to the first world -/
theorem gb_new {r : Option Nat} {k : Nat} (h : w0.grownBy w r) (h' : w.grownBy w' (some k)) (hk : w0.heap.size ≤ k) : w0.grownBy w' r :=
  ⟨h'.os.trans h.os, h'.tape.trans h.tape, h'.output.trans h.output, Nat.le_trans h.size h'.size, fun j hj hr => (h'.block j (Nat.lt_of_lt_of_le hj h.size) (by simp; omega)).trans (h.block j hj hr)⟩
theorem gb_drew {r : Option Nat} (h : w0.grownBy w r) : w0.grownBy w.drew r := ⟨h.os, h.tape, h.output, h.size, h.block⟩
theorem gb_drewN {r : Option Nat} (h : w0.grownBy w r) (n : Nat) : w0.grownBy (w.drewN n) r := ⟨h.os, h.tape, h.output, h.size, h.block⟩
theorem gb_alloc {r : Option Nat} (h : w0.grownBy w r) (o : Obj) : w0.grownBy (w.alloc o) r :=
  gb_trans h ⟨rfl, rfl, rfl, by simp, fun k hk _ => Below.heap_alloc w o k hk⟩
theorem gb_set (h : w0.grownBy w (some g)) (i : Nat) (u : Value) : w0.grownBy (w.setCell ⟨g, i, none⟩ u) (some g) :=
  gb_trans h ⟨rfl, rfl, rfl, by simp, fun k _ hk => heap_setCell_other w _ k u (by simpa using hk)⟩
theorem gb_set_new {r : Option Nat} (h : w0.grownBy w r) (hg : w0.heap.size ≤ g) (i : Nat) (u : Value) : w0.grownBy (w.setCell ⟨g, i, none⟩ u) r :=
  gb_new h (gb_set (gb_refl _ _) i u) hg
theorem gb_below {B : Nat} (h : w.grownBy w' none) (hB : B ≤ w.heap.size) : Below B w w' := ⟨h.os, h.tape, h.output, h.size, fun k hk => h.block k (by omega) (by simp)⟩
theorem gb_of_below (h : Below w.heap.size w w') : w.grownBy w' none := ⟨h.os, h.tape, h.output, h.size, fun k hk _ => h.block k hk⟩
/-- the rules by which a walk reads old memory behind a call -/
theorem gb_cells (h : w.grownBy w' none) : (∀ b o, b < w.heap.size → w'.cell? ⟨b, o, none⟩ = w.cell? ⟨b, o, none⟩) ∧ (∀ b o, b < w.heap.size → w'.frozen? ⟨b, o, none⟩ = w.frozen? ⟨b, o, none⟩) :=
  ⟨fun b o hb => World.cell?_of_block (h.block b hb (by simp)), fun b o hb => World.frozen?_of_block (h.block b hb (by simp))⟩

/-! ### bytes -/
/-- the slice reads as these bytes; they lie in a row of bytes -/
def BS (w : World) (v : Value) (l : List UInt8) : Prop :=
  ∃ A c, v = .slice A l.length c ∧ l.length ≤ c ∧ (A = none → c = 0) ∧
    (0 < l.length → ∃ g o cur fr, A = some ⟨g, o, none⟩ ∧ w.heap[g]? = some (.cells cur tU8 fr) ∧ ∀ j (h : j < l.length), cur[o + j]? = some (.int .u8 (l[j].toNat : Int)))

/-- the slice owns a row of bytes that was made from block 'base' on -/
def OwnB (base : Nat) (w : World) (v : Value) (l : List UInt8) : Prop := w.ownsRow base tU8 1 v l.length (bv l)

theorem BS.nil (w : World) : BS w (.slice none 0 0) [] := ⟨none, 0, rfl, Nat.le_refl _, fun _ => rfl, fun h => absurd h (by simp)⟩

theorem BS.kept {v : Value} {l : List UInt8} {r : Option Nat} (h : BS w v l) (hg : w.grownBy w' r) (hr : ∀ k, r = some k → ∃ t cs, Blk w k t cs ∧ t ≠ tU8) : BS w' v l := by
  obtain ⟨A, c, hv, hc, hn, hcell⟩ := h
  refine ⟨A, c, hv, hc, hn, fun h0 => ?_⟩
  obtain ⟨g, o, cur, fr, hA, hb, hj⟩ := hcell h0
  refine ⟨g, o, cur, fr, hA, ?_, hj⟩
  rw [hg.block g (Array.getElem?_eq_some_iff.1 hb).1]
  · exact hb
  · rintro rfl
    obtain ⟨t, cs, hk, ht⟩ := hr g rfl
    unfold Blk at hk
    rw [hb] at hk
    injection hk with hk
    injection hk with _ hk _
    exact ht hk.symm
theorem BS.grown {v : Value} {l : List UInt8} (h : BS w v l) (hg : w.grownBy w' none) : BS w' v l := h.kept hg (fun _ h => by cases h)
theorem BS.drew {v : Value} {l : List UInt8} (h : BS w v l) : BS w.drew v l := h
theorem BS.set {v : Value} {l : List UInt8} (h : BS w v l) (hb : Blk w g t cs) (ht : t ≠ tU8) (i : Nat) (u : Value) : BS (w.setCell ⟨g, i, none⟩ u) v l :=
  h.kept (gb_set (gb_refl _ _) i u) (fun k hk => by cases hk; exact ⟨t, cs, hb, ht⟩)
theorem BS.alloc {v : Value} {l : List UInt8} (h : BS w v l) (o : Obj) : BS (w.alloc o) v l := h.grown (gb_alloc (gb_refl _ _) o)

theorem BS.cells {A : Option Addr} {n c : Nat} {l : List UInt8} (h : BS w (.slice A n c) l) : n = l.length ∧ n ≤ c ∧ (A = none → c = 0) ∧ ∀ a, A = some a → ∀ j u, (bv l)[j]? = some u → w.cell? (a.add j) = some u := by
  obtain ⟨A', c', hv, hc, hn, hcell⟩ := h
  injection hv with h1 h2 h3
  subst h1 h2 h3
  refine ⟨rfl, hc, hn, fun a ha j u hu => ?_⟩
  have hj : j < l.length := by
    have := (List.getElem?_eq_some_iff.1 hu).1
    simpa [bv] using this
  obtain ⟨g, o, cur, fr, hA, hb, hcj⟩ := hcell (by omega)
  rw [hA] at ha
  injection ha with ha
  subst ha
  rw [bv_get hj] at hu
  injection hu with hu
  subst hu
  rw [Addr.add_lit, cell_of_row w g (o + j) cur tU8 fr hb]
  exact hcj j hj

theorem OwnB.bs {base : Nat} {v : Value} {l : List UInt8} (h : OwnB base w v l) : BS w v l := by
  obtain ⟨_, h2⟩ := h
  rcases h2 with ⟨rfl, h0⟩ | ⟨g, cap, cur, hv, _, hg, hnc, _, hs, htake⟩
  · have : l = [] := List.eq_nil_of_length_eq_zero h0
    subst this
    exact BS.nil w
  · refine ⟨_, cap, hv, hnc, (fun h => by cases h), fun _ => ⟨g, 0, cur, (0, 0), rfl, hg, fun j hj => ?_⟩⟩
    have : (cur.toList.take (l.length * 1))[j]? = (bv l)[j]? := by rw [htake]
    rw [bv_get hj, List.getElem?_take, if_pos (by omega)] at this
    simpa using this
theorem OwnB.nil (base : Nat) (w : World) : OwnB base w (.slice none 0 0) [] := World.ownsRow_nil w base tU8 1
theorem OwnB.kept {base : Nat} {v : Value} {l : List UInt8} {r : Option Nat} (h : OwnB base w v l) (hg : w.grownBy w' r) (hr : ∀ k, r = some k → ∃ t cs, Blk w k t cs ∧ t ≠ tU8) : OwnB base w' v l := by
  refine World.ownsRow.kept h hg ?_
  rcases h.2 with ⟨rfl, _⟩ | ⟨g, cap, cur, rfl, _, hgg, _⟩
  · exact .inl rfl
  · right
    simp only [Value.ownBlock]
    rintro rfl
    obtain ⟨t, cs, hk, ht⟩ := hr g rfl
    unfold Blk at hk
    rw [hgg] at hk
    injection hk with hk
    injection hk with _ hk
    exact ht hk.symm
theorem OwnB.grown {base : Nat} {v : Value} {l : List UInt8} (h : OwnB base w v l) (hg : w.grownBy w' none) : OwnB base w' v l := h.kept hg (fun _ h => by cases h)
theorem OwnB.lower {base base' : Nat} {v : Value} {l : List UInt8} (h : OwnB base w v l) (hb : base' ≤ base) : OwnB base' w v l := by
  refine ⟨h.1, ?_⟩
  rcases h.2 with h2 | ⟨g, cap, cur, hv, hbg, rest⟩
  · exact .inl h2
  · exact .inr ⟨g, cap, cur, hv, Nat.le_trans hb hbg, rest⟩
theorem OwnB.shape {base : Nat} {v : Value} {l : List UInt8} (h : OwnB base w v l) : ∃ A c, v = .slice A l.length c := by
  obtain ⟨A, c, hv, _⟩ := h.bs
  exact ⟨A, c, hv⟩
end

/-! ### the type of bytes in this program, and append -/
theorem infoU8 : (Tryd.prog.info? tU8).map (fun i => (i.zero, i.size, i.bytes)) = some (some (.int .u8 0), 1, 1) := by kernel_rfl

/-- append to a row of the call's own -/
theorem wp_app {ops : Array Oper} {rest : List Oper} {o : Oper} {a : Act} {w : World} {Q : Exit → Act → World → Prop} (hgd : o.guard = none) (s x : Operand)
    (ho : o.op = .call { callee := .builtin .append, args := #[s, x], argTypes := #[tBs, tBs] })
    (base : Nat) (v vx : Value) (l1 l2 : List UInt8) (hs : a.eval s = v) (hx : a.eval x = vx) (hown : OwnB base w v l1) (hbs : BS w vx l2) (hn : (l1 ++ l2).length ≤ 1000000000) (hbase : base ≤ w.heap.size)
    (h : ∀ A n c w', OwnB base w' (.slice A n c) (l1 ++ l2) → w.grownBy w' v.ownBlock → wpList Tryd.prog ops Q rest (a.put o.dst (.slice A n c)) w') : wpList Tryd.prog ops Q (o :: rest) a w := by
  obtain ⟨i0, hi, hz0, hz1, hz2⟩ := info_parts infoU8
  have hlen : (l1 ++ l2).length = l1.length + l2.length := List.length_append
  obtain ⟨A2, c2, rfl, hc2, hn2, hcell2⟩ := hbs
  rcases A2 with _ | ad
  · have h0 : l2 = [] := List.eq_nil_of_length_eq_zero (by have := hn2 rfl; omega)
    subst h0
    simp only [List.append_nil] at h hlen ⊢
    refine wpList_plain hgd fun K hK => ?_
    have hrun : (Builtin.append_ #[tBs, tBs] o.type #[v, .slice none (0 : Nat) c2]).run Tryd.prog w = .ok v w := by
      rcases hown.2 with ⟨rfl, h0⟩ | ⟨g, cap, cur, rfl, _, _, hnc, _⟩
      · simp [Builtin.append_, run_underlying Tryd.underlying27, sizeOf, typeInfo, hi, Builtin.lenOf, Builtin.firstCells]
      · simp [Builtin.append_, run_underlying Tryd.underlying27, sizeOf, typeInfo, hi, Builtin.lenOf, Builtin.firstCells, hnc, storeCells]
    obtain ⟨A, c, hv⟩ := hown.shape
    have hk := hK _ _ (h A l1.length c w (hv ▸ hown) (gb_refl _ _))
    unfold Oper.wp execOp
    simp only [ho, resolve, invoke, builtin, Sem.run_bind, Sem.run_pure, Result.andThen_ok, List.map_toArray, List.map_cons, List.map_nil, hs, hx]
    simp only [List.length_nil] at *
    rw [hrun]
    simp only [Result.andThen_ok, Oper.upon]
    rw [← hv] at hk
    exact hk
  · have hb : BS w (.slice (some ad) l2.length c2) l2 := ⟨some ad, c2, rfl, hc2, hn2, hcell2⟩
    refine wpList_append_own w hgd s x tBs ho base tU8 i0 (.int .u8 0) 1 1 Tryd.underlying27 hi hz0 hz1 hz2 rfl (by decide) v l1.length (bv l1) hs hown ad l2.length c2 (bv l2) hx (by simp [bv]) (hb.cells.2.2.2 ad rfl) (bv_one l2) (by unfold maxLen; omega) (by omega) hbase ?_
    intro v' w' hown' hg _
    rw [← bv_append, ← hlen] at hown'
    obtain ⟨A, c, rfl⟩ := OwnB.shape (l := l1 ++ l2) hown'
    exact h A _ c w' hown' hg

/-- append where it must grow: the slice whatever -/
theorem wp_app_grow {ops : Array Oper} {rest : List Oper} {o : Oper} {a : Act} {w : World} {Q : Exit → Act → World → Prop} (hgd : o.guard = none) (s x : Operand)
    (ho : o.op = .call { callee := .builtin .append, args := #[s, x], argTypes := #[tBs, tBs] })
    (A1 : Option Addr) (n1 c1 : Nat) (ad : Addr) (n2 c2 : Nat) (l1 l2 : List UInt8) (hs : a.eval s = .slice A1 n1 c1) (hx : a.eval x = .slice (some ad) n2 c2) (h1 : BS w (.slice A1 n1 c1) l1) (h2 : BS w (.slice (some ad) n2 c2) l2) (hn : (l1 ++ l2).length ≤ 1000000000) (hfull : c1 < n1 + n2)
    (h : ∀ A n c w', OwnB w.heap.size w' (.slice A n c) (l1 ++ l2) → w.grownBy w' none → wpList Tryd.prog ops Q rest (a.put o.dst (.slice A n c)) w') : wpList Tryd.prog ops Q (o :: rest) a w := by
  obtain ⟨i0, hi, hz0, hz1, hz2⟩ := info_parts infoU8
  have hlen : (l1 ++ l2).length = l1.length + l2.length := List.length_append
  obtain ⟨rfl, g2, g3, g4⟩ := h1.cells
  obtain ⟨rfl, k2, k3, k4⟩ := h2.cells
  refine wpList_append_grows w hgd s x tBs ho tU8 i0 (.int .u8 0) 1 1 Tryd.underlying27 hi hz0 hz1 hz2 rfl (by decide) A1 l1.length c1 (bv l1) hs (fun h => by have := g3 h; omega) (by simp [bv]) g4 ad l2.length c2 (bv l2) hx (by simp [bv]) (k4 ad rfl) (bv_one l2) hfull (by unfold maxLen; omega) (by omega) ?_
  intro v' w' hown' hg
  rw [← bv_append, ← hlen] at hown'
  obtain ⟨A, c, rfl⟩ := OwnB.shape (l := l1 ++ l2) hown'
  exact h A _ c w' hown' hg

theorem BS.full {w : World} {A : Option Addr} {n c : Nat} {l : List UInt8} (h : BS w (.slice A n c) l) : BS w (.slice A n n) l := by
  obtain ⟨A', c', hv, hc, hn, hcell⟩ := h
  injection hv with h1 h2 h3
  subst h1 h2 h3
  exact ⟨_, _, rfl, Nat.le_refl _, fun h => by have := hn h; omega, hcell⟩

/-- behind an append to a row that is new to the first world -/
theorem gb_new' {w0 w w' : World} {b : Nat} {v : Value} {l : List UInt8} (ho : OwnB b w v l) (hb : w0.heap.size ≤ b) {r : Option Nat} (h : w0.grownBy w r) (h' : w.grownBy w' v.ownBlock) : w0.grownBy w' r := by
  cases hv : v.ownBlock with
  | none => rw [hv] at h'; exact gb_trans h (gb_none h')
  | some k =>
    rw [hv] at h'
    exact gb_new h h' (Nat.le_trans hb (World.ownsRow.lt ho k hv).1)

/-- a literal's bytes in a new row -/
theorem BS.lit {w : World} (cs : Array Value) (l : List UInt8) (c : Nat) (h : cs.toList = bv l) (hc : l.length ≤ c) : BS (w.alloc (.cells cs tU8)) (.slice (some ⟨w.heap.size, 0, none⟩) l.length c) l := by
  refine ⟨_, c, rfl, hc, fun h => by (cases h), fun _ => ⟨w.heap.size, 0, cs, (0, 0), rfl, Go.heap_alloc_new w _, fun j hj => ?_⟩⟩
  rw [Nat.zero_add, ← Array.getElem?_toList, h, bv_get hj]

theorem u8_cell (x : Nat) (y : Int) (h : y = ((x % 256 : Nat) : Int)) : Value.int .u8 y = .int .u8 ((UInt8.ofNat x).toNat : Int) := by
  rw [h, UInt8.toNat_ofNat']

theorem list4 {α : Type} {a b c d a' b' c' d' : α} (h1 : a = a') (h2 : b = b') (h3 : c = c') (h4 : d = d') : [a, b, c, d] = [a', b', c', d'] := by rw [h1, h2, h3, h4]
theorem ret_i {k : IntKind} {a b : Int} (h : a = b) : Ending.returned (.int k a) = .returned (.int k b) := by rw [h]

/-! ### []byte(s), string(b) -/
abbrev tStr : TypeId := 9
/-- a string's bytes -/
abbrev sb (s : ByteArray) : List UInt8 := s.data.toList
theorem sb_length (s : ByteArray) : (sb s).length = s.size := by simp [sb]
def convW (w : World) (s : ByteArray) : World :=
  w.drew.alloc (.cells (bytesRow s (grownCap w s.size 0 tU8)) tU8 ((bytesRow s (grownCap w s.size 0 tU8)).size, (bytesRow s (grownCap w s.size 0 tU8)).size + 1))
def convC (w : World) (s : ByteArray) : Nat := grownCap w s.size 0 tU8
theorem run_conv (w : World) (s : ByteArray) : (convert tStr tBs (.string s)).run Tryd.prog w = .ok (.slice (some ⟨w.heap.size, 0, none⟩) s.size (convC w s)) (convW w s) :=
  run_bytes_of_string w tStr tBs tU8 s Tryd.underlying9 Tryd.underlying27 Tryd.underlying5
theorem convW_gb (w : World) (s : ByteArray) : w.grownBy (convW w s) none := gb_alloc (gb_drew (gb_refl _ _)) _
@[go_sem] theorem convW_cell (w : World) (s : ByteArray) (b o : Nat) (h : b < w.heap.size) : (convW w s).cell? ⟨b, o, none⟩ = w.cell? ⟨b, o, none⟩ := (gb_cells (convW_gb w s)).1 b o h
@[go_sem] theorem convW_frozen (w : World) (s : ByteArray) (b o : Nat) (h : b < w.heap.size) : (convW w s).frozen? ⟨b, o, none⟩ = w.frozen? ⟨b, o, none⟩ := (gb_cells (convW_gb w s)).2 b o h
@[go_sem] theorem convW_size (w : World) (s : ByteArray) : (convW w s).heap.size = w.heap.size + 1 := by simp [convW]
theorem convW_bs (w : World) (s : ByteArray) : BS (convW w s) (.slice (some ⟨w.heap.size, 0, none⟩) s.size (convC w s)) (sb s) := by
  have hc : s.size ≤ convC w s := by
    have := grownCap_ge w s.size 0 tU8
    simpa [convC] using this
  refine ⟨some ⟨w.heap.size, 0, none⟩, convC w s, by rw [sb_length], by rw [sb_length]; exact hc, fun h => by (cases h), fun _ => ⟨w.heap.size, 0, _, _, rfl, Go.heap_alloc_new w.drew _, fun j hj => ?_⟩⟩
  have hj' : j < s.data.size := by simpa [sb] using hj
  rw [Nat.zero_add, bytesRow, Array.getElem?_append_left (by simpa using hj')]
  simp only [Array.getElem?_map, Array.getElem?_eq_getElem hj', Option.map_some, sb, Array.getElem_toList]
theorem convW_bs' (w : World) (s : ByteArray) (n : Nat) (hn : n = w.heap.size) : BS (convW w s) (.slice (some ⟨n, 0, none⟩) s.size (convC w s)) (sb s) := by
  subst hn
  exact convW_bs w s
theorem run_convback (w : World) (A : Option Addr) (n c : Nat) (l : List UInt8) (h : BS w (.slice A n c) l) : (convert tBs tStr (.slice A n c)).run Tryd.prog w = .ok (.string ⟨l.toArray⟩) w := by
  obtain ⟨rfl, h2, h3, h4⟩ := h.cells
  cases A with
  | none =>
    have : l = [] := List.eq_nil_of_length_eq_zero (by have := h3 rfl; omega)
    subst this
    rw [List.length_nil, run_convert_bytes_string w tBs tStr tU8 none 0 c Tryd.underlying27 Tryd.underlying5 Tryd.underlying9]
    rfl
  | some a =>
    exact run_convert_bytes_back w tBs tStr tU8 a c l Tryd.underlying27 Tryd.underlying5 Tryd.underlying9 (fun j hj => h4 a rfl j _ (bv_get hj))

/-- a call hands back new bytes, and leaves all else -/
def RetB (w : World) (l : List UInt8) (e : Ending) (w' : World) : Prop :=
  ∃ A n c, e = .returned (.slice A n c) ∧ OwnB w.heap.size w' (.slice A n c) l ∧ w.grownBy w' none
theorem RetB.mk {w w' : World} {l : List UInt8} {b n c : Nat} {A : Option Addr} (ho : OwnB b w' (.slice A n c) l) (hb : w.heap.size ≤ b) (hg : w.grownBy w' none) : RetB w l (.returned (.slice A n c)) w' :=
  ⟨A, n, c, rfl, ho.lower hb, hg⟩
theorem OwnB.len {w : World} {l : List UInt8} {b n c : Nat} {A : Option Addr} (ho : OwnB b w (.slice A n c) l) : n = l.length := by
  obtain ⟨A', c', hv⟩ := ho.shape
  injection hv
end Go.Tr
