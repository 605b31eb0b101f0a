/- Maps with int keys that a call makes out of a literal, whatever their elements. No condition. -/
import Derived.Test.YtblbihodpjfcbaaBase
import Derived.MapKept
namespace Go.Tr
open Go.RowKit Go.Proofs Go.MapKept

/-- block M is a map that holds just these, none twice -/
def IMap (w : World) (M : Nat) (kv : List (Int × Value)) : Prop :=
  ∃ es c, w.heap[M]? = some (.map es c) ∧ es.toList.map (fun e => (e.key, e.val)) = kv.map fun p => (Value.int .i64 p.1, p.2)

theorem IMap.grown {w w' : World} {M : Nat} {kv : List (Int × Value)} {r : Option Nat} (h : IMap w M kv) (hg : w.grownBy w' r) (hr : some M ≠ r) : IMap w' M kv := by
  obtain ⟨es, c, h1, h2⟩ := h
  exact ⟨es, c, (hg.block M (Array.getElem?_eq_some_iff.1 h1).1 hr).trans h1, h2⟩
theorem IMap.lt {w : World} {M : Nat} {kv : List (Int × Value)} (h : IMap w M kv) : M < w.heap.size := by
  obtain ⟨es, c, h1, _⟩ := h
  exact (Array.getElem?_eq_some_iff.1 h1).1
theorem IMap.ne {w : World} {M g : Nat} {kv : List (Int × Value)} {t : TypeId} {cs : Array Value} (h : IMap w M kv) (hb : Blk w g t cs) : M ≠ g := by
  rintro rfl
  obtain ⟨es, c, h1, _⟩ := h
  unfold Blk at hb
  rw [hb] at h1
  cases h1
theorem IMap.made (w : World) : IMap (w.alloc (.map #[] 0)) w.heap.size [] := ⟨#[], 0, Go.heap_alloc_new w _, rfl⟩
theorem IMap.made' (w : World) (n : Nat) (hn : n = w.heap.size) : IMap (w.alloc (.map #[] 0)) n [] := by
  subst hn
  exact IMap.made w

theorem findNow_none {q : IntKind} {x : Int} : ∀ (kv : List (Int × Value)) (l : List MapEntry) (i : Nat), l.map (fun e => (e.key, e.val)) = kv.map (fun p => (Value.int .i64 p.1, p.2)) → (∀ p ∈ kv, p.1 ≠ x) →
    Instr.findNow (.int q) (.int .i64 x) l i = some none
  | [], [], _, _, _ => rfl
  | [], _ :: _, _, h, _ => by simp at h
  | _ :: _, [], _, h, _ => by simp at h
  | p :: kv, e :: l, i, h, hx => by
    simp only [List.map_cons, List.cons.injEq, Prod.mk.injEq] at h
    have hp := hx p (by simp)
    simp only [Instr.findNow, h.1.1, Instr.sameNow, if_true]
    have : (x == p.1) = false := by simpa using fun e => hp e.symm
    rw [this]
    exact findNow_none kv l (i + 1) h.2 (fun p hp => hx p (by simp [hp]))

theorem findNow_some {q : IntKind} {x : Int} {v : Value} : ∀ (kv : List (Int × Value)) (l : List MapEntry) (i : Nat), l.map (fun e => (e.key, e.val)) = kv.map (fun p => (Value.int .i64 p.1, p.2)) → kv.find? (fun p => p.1 == x) = some (x, v) →
    ∃ j, Instr.findNow (.int q) (.int .i64 x) l i = some (some (j, v))
  | [], _, _, _, hx => by simp at hx
  | _ :: _, [], _, h, _ => by simp at h
  | p :: kv, e :: l, i, h, hx => by
    simp only [List.map_cons, List.cons.injEq, Prod.mk.injEq] at h
    simp only [Instr.findNow, h.1.1, Instr.sameNow, if_true]
    rw [List.find?_cons] at hx
    by_cases hp : p.1 = x
    · have h1 : (x == p.1) = true := by simp [hp]
      have h2 : (p.1 == x) = true := by simp [hp]
      rw [h2] at hx
      simp only [Option.some.injEq] at hx
      subst hx
      rw [h1]
      exact ⟨i, by rw [h.1.2]⟩
    · have h1 : (x == p.1) = false := by simpa using fun e => hp e.symm
      have h2 : (p.1 == x) = false := by simpa using hp
      rw [h2] at hx
      rw [h1]
      exact findNow_some kv l (i + 1) h.2 hx

section
variable {P : Program} {w : World} {T K E : TypeId} {M : Nat} {kv : List (Int × Value)}

theorem run_lookup_im (c : Bool) (hT : P.underlying T = some (.map K E)) (hK : P.underlying K = some (.int .i64)) (h : IMap w M kv) (x : Int) (v : Value) (hx : kv.find? (fun p => p.1 == x) = some (x, v)) :
    (Instr.lookup T (.map (some M)) (.int .i64 x) c).run P w = .ok (if c then .tuple #[v, .bool true] else v) w := by
  obtain ⟨es, cl, h1, h2⟩ := h
  obtain ⟨j, hj⟩ := findNow_some (q := .i64) kv es.toList 0 h2 hx
  unfold Instr.lookup
  simp only [Sem.run_bind, run_underlying hT, Result.andThen, getObj, Sem.run, h1, Sem.run_pure]
  rw [run_checkKey hK (by trivial) es.isEmpty 9999]
  simp only []
  rw [run_findKey hK hj]
  cases c <;> rfl

theorem run_lookup_im_none (hT : P.underlying T = some (.map K E)) (hK : P.underlying K = some (.int .i64)) (h : IMap w M kv) (x : Int) (z : Value) (hz : (zeroValue E).run P w = .ok z w) (hx : ∀ p ∈ kv, p.1 ≠ x) (c : Bool) :
    (Instr.lookup T (.map (some M)) (.int .i64 x) c).run P w = .ok (if c then .tuple #[z, .bool false] else z) w := by
  obtain ⟨es, cl, h1, h2⟩ := h
  have hj := findNow_none (q := .i64) kv es.toList 0 h2 hx
  unfold Instr.lookup
  simp only [Sem.run_bind, run_underlying hT, Result.andThen, getObj, Sem.run, h1, Sem.run_pure]
  rw [run_checkKey hK (by trivial) es.isEmpty 9999]
  simp only []
  rw [run_findKey hK hj]
  simp only [Sem.run_bind, hz, Result.andThen, Sem.run_pure]

theorem run_insert_im (hT : P.underlying T = some (.map K E)) (hK : P.underlying K = some (.int .i64)) (h : IMap w M kv) (x : Int) (v : Value) (hx : ∀ p ∈ kv, p.1 ≠ x) :
    ∃ w', (Instr.mapUpdate T (.map (some M)) (.int .i64 x) v).run P w = .ok () w' ∧ IMap w' M (kv ++ [(x, v)]) ∧ w.grownBy w' (some M) := by
  obtain ⟨es, cl, h1, h2⟩ := h
  have hj := findNow_none (q := .i64) kv es.toList 0 h2 hx
  have hlt := (Array.getElem?_eq_some_iff.1 h1).1
  refine ⟨{ w with heap := w.heap.setIfInBounds M (.map (es.push { key := .int .i64 x, val := v, born := cl }) (cl + 1)) }, ?_, ⟨es.push { key := .int .i64 x, val := v, born := cl }, cl + 1, by simp [hlt], by simp [h2]⟩, ⟨rfl, rfl, rfl, by simp, fun k hk hr => ?_⟩⟩
  · unfold Instr.mapUpdate
    simp only [Sem.run_bind, run_underlying hT, Result.andThen, getObj, Sem.run, h1]
    rw [run_checkKey hK (by trivial) false 9999]
    simp only []
    rw [run_findKey hK hj]
    simp only [setObj, Sem.run, h1]
  · have : M ≠ k := fun e => hr (by rw [e])
    simp [Array.getElem?_setIfInBounds_ne this]

/-- an element of a map's literal is laid -/
theorem wp_insert {ops : Array Oper} {rest : List Oper} {o : Oper} {a : Act} {Q : Exit → Act → World → Prop} (hgd : o.guard = none) (hd : o.dst = none) (m k e : Operand) (ho : o.op = .insert T m k e)
    (hT : P.underlying T = some (.map K E)) (hK : P.underlying K = some (.int .i64)) (h : IMap w M kv) (x : Int) (v : Value) (hm : a.eval m = .map (some M)) (hk : a.eval k = .int .i64 x) (he : a.eval e = v) (hx : ∀ p ∈ kv, p.1 ≠ x)
    (hn : ∀ w', IMap w' M (kv ++ [(x, v)]) → w.grownBy w' (some M) → wpList P ops Q rest a w') : wpList P ops Q (o :: rest) a w := by
  obtain ⟨w', hr, h1, h2⟩ := run_insert_im (P := P) hT hK h x v hx
  refine wpList_plain hgd fun K' hK' => ?_
  unfold Oper.wp execOp
  simp only [ho, hm, hk, he, Sem.run_bind, hr, Result.andThen, Sem.run_pure, Oper.upon, hd, Act.put]
  exact hK' _ _ (hn w' h1 h2)

/-- a map that was made behind w0 -/
structure IMG (w0 w : World) (M : Nat) (kv : List (Int × Value)) : Prop where
  m : IMap w M kv
  g : w0.grownBy w none
  n : w0.heap.size ≤ M
theorem IMG.made (w : World) : IMG w (w.alloc (.map #[] 0)) w.heap.size [] := ⟨IMap.made w, gb_alloc (gb_refl _ _) _, Nat.le_refl _⟩
theorem wp_insert_new {w0 : World} {ops : Array Oper} {rest : List Oper} {o : Oper} {a : Act} {Q : Exit → Act → World → Prop} (hgd : o.guard = none) (hd : o.dst = none) (m k e : Operand) (ho : o.op = .insert T m k e)
    (hT : P.underlying T = some (.map K E)) (hK : P.underlying K = some (.int .i64)) (h : IMG w0 w M kv) (x : Int) (v : Value) (hm : a.eval m = .map (some M)) (hk : a.eval k = .int .i64 x) (he : a.eval e = v) (hx : ∀ p ∈ kv, p.1 ≠ x)
    (hn : ∀ w', IMG w0 w' M (kv ++ [(x, v)]) → wpList P ops Q rest a w') : wpList P ops Q (o :: rest) a w :=
  wp_insert hgd hd m k e ho hT hK h.m x v hm hk he hx fun w' h1 h2 => hn w' ⟨h1, gb_new h.g h2 h.n, h.n⟩
end
end Go.Tr
