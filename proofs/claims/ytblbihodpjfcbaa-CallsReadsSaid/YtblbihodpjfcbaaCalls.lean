/- calls: what a procedure is asked with, as bytes: which may be, and the bytes. No condition. -/
import Derived.Test.YtblbihodpjfcbaaLayer
import Derived.Test.YtblbihodpjfcbaaMaps
namespace Go.Tr
open Go.RowKit Go.Proofs
set_option linter.unusedVariables false

/-- what a procedure is asked with; data: the slice's value, dl: its bytes -/
structure AA where
  proc : Int
  off : Int
  count : Int
  size : Int
  mode : Int
  hi : Int
  hg : Int
  ji : Int
  jg : Int
  name : ByteArray
  name2 : ByteArray
  data : Value
  dl : List UInt8

def AA.cells (a : AA) : List Value :=
  [.int .i64 a.proc, .int .i64 a.off, .int .i64 a.count, .int .i64 a.size, .int .i64 a.mode, .int .i64 a.hi, .int .i64 a.hg, .int .i64 a.ji, .int .i64 a.jg, .string a.name, .string a.name2, a.data]
def AA.val (a : AA) : Value := .agg a.cells.toArray
/-- sizes, and the data's bytes -/
structure AA.ok (w : World) (a : AA) : Prop where
  n1 : a.name.size ≤ 10000000
  n2 : a.name2.size ≤ 10000000
  d : BS w a.data a.dl
  dn : a.dl.length ≤ 10000000

def emptyS : ByteArray := ⟨#[]⟩
def AA.zeroF (a : AA) : Nat → AA
  | 0 => { a with hi := 0, hg := 0 }
  | 1 => { a with ji := 0, jg := 0 }
  | 2 => { a with name := emptyS }
  | 3 => { a with name2 := emptyS }
  | 4 => { a with off := 0 }
  | 5 => { a with count := 0 }
  | 6 => { a with size := 0 }
  | 7 => { a with mode := 0 }
  | _ => { a with data := .slice none 0 0, dl := [] }
def num32 (x : Int) : List UInt8 := be32 (x % 4294967296).toNat
def num64 (x : Int) : List UInt8 := be64 (x % 18446744073709551616).toNat
def word32 (x : Int) : Bool := decide (0 ≤ x) && decide (x ≤ 4294967295)
def AA.bytesF (a : AA) : Nat → List UInt8
  | 0 => num32 a.hi ++ num32 a.hg
  | 1 => num32 a.ji ++ num32 a.jg
  | 2 => textB (sb a.name)
  | 3 => textB (sb a.name2)
  | 4 => num64 a.off
  | 5 => num32 a.count
  | 6 => num32 a.size
  | 7 => num32 a.mode
  | _ => textB a.dl
def AA.okF (a : AA) : Nat → Bool
  | 0 => word32 a.hi && word32 a.hg
  | 1 => word32 a.ji && word32 a.jg
  | 2 => decide (a.name.size ≤ 64)
  | 3 => decide (a.name2.size ≤ 64)
  | 4 => decide (0 ≤ a.off) && decide (a.off ≤ 4611686018427387904)
  | 5 => word32 a.count
  | 6 => word32 a.size
  | 7 => word32 a.mode
  | _ => decide (a.dl.length ≤ 2048)
/-- the layer's block -/
def AA.lay (a : AA) (b : Value) (ok : Bool) : Array Value := (a.cells ++ [b, .bool ok]).toArray

/-- the function that lays a field -/
def wayFn : Nat → FuncId
  | 0 => 49
  | 1 => 50
  | 2 => 51
  | 3 => 52
  | 4 => 53
  | 5 => 54
  | 6 => 55
  | 7 => 56
  | _ => 57

def LaidF (L : Nat) (a : AA) (ok : Bool) (l : List UInt8) (w : World) (e : Ending) (w' : World) : Prop :=
  ∃ v', e = .returned (.tuple #[]) ∧ Blk w' L tLay (a.lay v' ok) ∧ OwnB w.heap.size w' v' l ∧ w.grownBy w' (some L)

theorem LaidAt.laidF {L : Nat} {cs : Array Value} {j : Nat} {z : Value} {ok ok' : Bool} {l : List UInt8} {w w' : World} {e : Ending} {a : AA} (h : LaidAt L cs j z ok l w e w')
    (hcs : ∀ v', ((cs.setIfInBounds 13 (.bool ok)).setIfInBounds 12 v').setIfInBounds j z = a.lay v' ok) (hok : ok = ok') : LaidF L a ok' l w e w' := by
  subst hok
  obtain ⟨v', h1, h2, h3, h4⟩ := h
  exact ⟨v', h1, by rw [← hcs]; exact h2, h3, h4⟩

theorem okNum_eq (ok : Bool) (x : Int) : okNum ok x = (ok && word32 x) := by simp [okNum, word32, Bool.and_assoc]

theorem first_c (L : Nat) (a : AA) (vb : Value) (lb : List UInt8) (ok : Bool) (w : World) (hL : Blk w L tLay (a.lay vb ok)) (hb : BS w vb lb) (hlb : lb.length ≤ 700000000) (ha : a.ok w) : Calls Try.prog 49 #[.pointer (some ⟨L, 0, none⟩)] w (LaidF L (a.zeroF 0) (ok && a.okF 0) (lb ++ a.bytesF 0) w) := by
  go_enter Try.func49, Try.ntmps49
  go_wp2_with fail
  refine (number_c L 5 _ a.hi vb lb ok w hL hb (by omega) rfl rfl rfl (by omega)).mono ?_
  rintro e w1 h1
  obtain ⟨v1, rfl, b1, o1, g1⟩ := h1
  go_wp2_with fail
  refine (number_c L 6 _ a.hg v1 _ _ w1 b1 o1.bs (by simp [be32_length]; omega) rfl rfl rfl (by omega)).mono ?_
  rintro e w2 h2
  obtain ⟨v2, rfl, b2, o2, g2⟩ := h2
  go_wp2_with fail
  go_end0
  refine ⟨v2, rfl, ?_, ?_, gb_trans g1 g2⟩
  · rw [okNum_eq, okNum_eq, Bool.and_assoc] at b2
    exact b2
  · rw [List.append_assoc] at o2
    exact o2.lower g1.size

theorem second_c (L : Nat) (a : AA) (vb : Value) (lb : List UInt8) (ok : Bool) (w : World) (hL : Blk w L tLay (a.lay vb ok)) (hb : BS w vb lb) (hlb : lb.length ≤ 700000000) (ha : a.ok w) : Calls Try.prog 50 #[.pointer (some ⟨L, 0, none⟩)] w (LaidF L (a.zeroF 1) (ok && a.okF 1) (lb ++ a.bytesF 1) w) := by
  go_enter Try.func50, Try.ntmps50
  go_wp2_with fail
  refine (number_c L 7 _ a.ji vb lb ok w hL hb (by omega) rfl rfl rfl (by omega)).mono ?_
  rintro e w1 h1
  obtain ⟨v1, rfl, b1, o1, g1⟩ := h1
  go_wp2_with fail
  refine (number_c L 8 _ a.jg v1 _ _ w1 b1 o1.bs (by simp [be32_length]; omega) rfl rfl rfl (by omega)).mono ?_
  rintro e w2 h2
  obtain ⟨v2, rfl, b2, o2, g2⟩ := h2
  go_wp2_with fail
  go_end0
  refine ⟨v2, rfl, ?_, ?_, gb_trans g1 g2⟩
  · rw [okNum_eq, okNum_eq, Bool.and_assoc] at b2
    exact b2
  · rw [List.append_assoc] at o2
    exact o2.lower g1.size

theorem name_c (L : Nat) (a : AA) (vb : Value) (lb : List UInt8) (ok : Bool) (w : World) (hL : Blk w L tLay (a.lay vb ok)) (hb : BS w vb lb) (hlb : lb.length ≤ 700000000) (ha : a.ok w) : Calls Try.prog 51 #[.pointer (some ⟨L, 0, none⟩)] w (LaidF L (a.zeroF 2) (ok && a.okF 2) (lb ++ a.bytesF 2) w) := by
  go_enter Try.func51, Try.ntmps51
  go_wp2_with fail
  refine (text_c L 9 _ a.name vb lb ok w hL hb (by omega) rfl rfl rfl (by omega) ha.n1).mono ?_
  rintro e w1 h1
  have h2 := h1.laidF (a := a.zeroF 2) (fun _ => rfl) (rfl)
  obtain ⟨v1, rfl, b1, o1, g1⟩ := h2
  go_wp2_with fail
  go_end0
  exact ⟨v1, rfl, b1, o1, g1⟩

theorem name2_c (L : Nat) (a : AA) (vb : Value) (lb : List UInt8) (ok : Bool) (w : World) (hL : Blk w L tLay (a.lay vb ok)) (hb : BS w vb lb) (hlb : lb.length ≤ 700000000) (ha : a.ok w) : Calls Try.prog 52 #[.pointer (some ⟨L, 0, none⟩)] w (LaidF L (a.zeroF 3) (ok && a.okF 3) (lb ++ a.bytesF 3) w) := by
  go_enter Try.func52, Try.ntmps52
  go_wp2_with fail
  refine (text_c L 10 _ a.name2 vb lb ok w hL hb (by omega) rfl rfl rfl (by omega) ha.n2).mono ?_
  rintro e w1 h1
  have h2 := h1.laidF (a := a.zeroF 3) (fun _ => rfl) (rfl)
  obtain ⟨v1, rfl, b1, o1, g1⟩ := h2
  go_wp2_with fail
  go_end0
  exact ⟨v1, rfl, b1, o1, g1⟩

theorem count_c (L : Nat) (a : AA) (vb : Value) (lb : List UInt8) (ok : Bool) (w : World) (hL : Blk w L tLay (a.lay vb ok)) (hb : BS w vb lb) (hlb : lb.length ≤ 700000000) (ha : a.ok w) : Calls Try.prog 54 #[.pointer (some ⟨L, 0, none⟩)] w (LaidF L (a.zeroF 5) (ok && a.okF 5) (lb ++ a.bytesF 5) w) := by
  go_enter Try.func54, Try.ntmps54
  go_wp2_with fail
  refine (number_c L 2 _ a.count vb lb ok w hL hb (by omega) rfl rfl rfl (by omega)).mono ?_
  rintro e w1 h1
  have h2 := h1.laidF (a := a.zeroF 5) (fun _ => rfl) (okNum_eq _ _)
  obtain ⟨v1, rfl, b1, o1, g1⟩ := h2
  go_wp2_with fail
  go_end0
  exact ⟨v1, rfl, b1, o1, g1⟩

theorem size_c (L : Nat) (a : AA) (vb : Value) (lb : List UInt8) (ok : Bool) (w : World) (hL : Blk w L tLay (a.lay vb ok)) (hb : BS w vb lb) (hlb : lb.length ≤ 700000000) (ha : a.ok w) : Calls Try.prog 55 #[.pointer (some ⟨L, 0, none⟩)] w (LaidF L (a.zeroF 6) (ok && a.okF 6) (lb ++ a.bytesF 6) w) := by
  go_enter Try.func55, Try.ntmps55
  go_wp2_with fail
  refine (number_c L 3 _ a.size vb lb ok w hL hb (by omega) rfl rfl rfl (by omega)).mono ?_
  rintro e w1 h1
  have h2 := h1.laidF (a := a.zeroF 6) (fun _ => rfl) (okNum_eq _ _)
  obtain ⟨v1, rfl, b1, o1, g1⟩ := h2
  go_wp2_with fail
  go_end0
  exact ⟨v1, rfl, b1, o1, g1⟩

theorem mode_c (L : Nat) (a : AA) (vb : Value) (lb : List UInt8) (ok : Bool) (w : World) (hL : Blk w L tLay (a.lay vb ok)) (hb : BS w vb lb) (hlb : lb.length ≤ 700000000) (ha : a.ok w) : Calls Try.prog 56 #[.pointer (some ⟨L, 0, none⟩)] w (LaidF L (a.zeroF 7) (ok && a.okF 7) (lb ++ a.bytesF 7) w) := by
  go_enter Try.func56, Try.ntmps56
  go_wp2_with fail
  refine (number_c L 4 _ a.mode vb lb ok w hL hb (by omega) rfl rfl rfl (by omega)).mono ?_
  rintro e w1 h1
  have h2 := h1.laidF (a := a.zeroF 7) (fun _ => rfl) (okNum_eq _ _)
  obtain ⟨v1, rfl, b1, o1, g1⟩ := h2
  go_wp2_with fail
  go_end0
  exact ⟨v1, rfl, b1, o1, g1⟩

theorem way_c (L : Nat) (a : AA) (vb : Value) (lb : List UInt8) (ok : Bool) (w : World) (hL : Blk w L tLay (a.lay vb ok)) (hb : BS w vb lb) (hlb : lb.length ≤ 700000000) (ha : a.ok w) (f : Nat) : Calls Try.prog (wayFn f) #[.pointer (some ⟨L, 0, none⟩)] w (LaidF L (a.zeroF f) (ok && a.okF f) (lb ++ a.bytesF f) w) := by
  match f with
  | 0 => exact first_c L a vb lb ok w hL hb hlb ha
  | 1 => exact second_c L a vb lb ok w hL hb hlb ha
  | 2 => exact name_c L a vb lb ok w hL hb hlb ha
  | 3 => exact name2_c L a vb lb ok w hL hb hlb ha
  | 4 => exact (off_c L _ a.off vb lb ok w hL hb (by omega) rfl rfl rfl).mono fun e w' h => h.laidF (a := a.zeroF 4) (fun _ => rfl) (by simp [okOff, AA.okF, Bool.and_assoc])
  | 5 => exact count_c L a vb lb ok w hL hb hlb ha
  | 6 => exact size_c L a vb lb ok w hL hb hlb ha
  | 7 => exact mode_c L a vb lb ok w hL hb hlb ha
  | n + 8 =>
    obtain ⟨A, c, hv, _⟩ := id ha.d
    have hd := ha.d
    rw [hv] at hd
    exact (data_c L _ A a.dl.length c a.dl vb lb ok w hL hb (by omega) rfl rfl (by rw [← hv]; rfl) hd ha.dn).mono fun e w' h => h.laidF (a := a.zeroF (n + 8)) (fun _ => rfl) rfl

/-- the fields of a procedure, in their row -/
def fieldsOf (p : Int) : List Nat :=
  if p = 1 then [0] else if p = 2 then [0, 6] else if p = 3 ∨ p = 12 ∨ p = 13 then [0, 2] else if p = 6 ∨ p = 16 then [0, 4, 5] else if p = 7 then [0, 4, 8]
  else if p = 8 ∨ p = 9 then [0, 2, 7] else if p = 14 then [0, 2, 1, 3] else []

/-- the slice has these elements (of one cell each) -/
def VS (tE : TypeId) (w : World) (v : Value) (xs : List Value) : Prop :=
  ∃ A c, v = .slice A xs.length c ∧ xs.length ≤ c ∧ (A = none → c = 0) ∧ (0 < xs.length → ∃ g o cur fr, A = some ⟨g, o, none⟩ ∧ w.heap[g]? = some (.cells cur tE fr) ∧ ∀ j (h : j < xs.length), cur[o + j]? = some xs[j])
theorem VS.kept {tE : TypeId} {w w' : World} {v : Value} {xs : List Value} {r : Option Nat} (h : VS tE w v xs) (hg : w.grownBy w' r) (hr : ∀ k, r = some k → ∃ t cs, Blk w k t cs ∧ t ≠ tE) : VS tE w' v xs := by
  obtain ⟨A, c, hv, hc, hn, hcell⟩ := h
  refine ⟨A, c, hv, hc, hn, fun h0 => ?_⟩
  obtain ⟨g, o, cur, fr, hA, hb, hj⟩ := hcell h0
  refine ⟨g, o, cur, fr, hA, ?_, hj⟩
  rw [hg.block g (Array.getElem?_eq_some_iff.1 hb).1]
  · exact hb
  · rintro rfl
    obtain ⟨t, cs, hk, ht⟩ := hr g rfl
    unfold Blk at hk
    rw [hb] at hk
    injection hk with hk
    injection hk with _ hk _
    exact ht hk.symm
theorem VS.nil (tE : TypeId) (w : World) : VS tE w (.slice none 0 0) [] := ⟨none, 0, rfl, Nat.le_refl _, fun _ => rfl, fun h => absurd h (by simp)⟩
theorem VS.lit {tE : TypeId} {w : World} (cs : Array Value) (n : Nat) (hn : n = w.heap.size) : VS tE (w.alloc (.cells cs tE)) (.slice (some ⟨n, 0, none⟩) cs.size cs.size) cs.toList := by
  subst hn
  refine ⟨some ⟨w.heap.size, 0, none⟩, cs.size, by simp, by simp, fun h => by (cases h), fun _ => ⟨w.heap.size, 0, cs, (0, 0), rfl, Go.heap_alloc_new w _, fun j hj => ?_⟩⟩
  rw [Nat.zero_add, ← Array.getElem?_toList, List.getElem?_eq_getElem hj]

abbrev tFld : TypeId := 54
def natV (l : List Nat) : List Value := l.map fun (n : Nat) => Value.int .i64 (n : Int)

def FieldsR (p : Int) (w : World) (e : Ending) (w' : World) : Prop :=
  ∃ v, e = .returned v ∧ VS tFld w' v (natV (fieldsOf p)) ∧ w.grownBy w' none

theorem fieldsR_lit {p : Int} {w : World} (cs : Array Value) (n : Nat) (m : Nat) (hm : m = cs.size) (hn : n = w.heap.size) (h : cs.toList = natV (fieldsOf p)) : FieldsR p w (.returned (.slice (some ⟨n, 0, none⟩) m m)) (w.alloc (.cells cs tFld)) := by
  subst hm
  exact ⟨_, rfl, by rw [← h]; exact VS.lit cs n hn, gb_alloc (gb_refl _ _) _⟩

set_option maxHeartbeats 1000000 in
theorem fields_c (p : Int) (w : World) : Calls Try.prog 24 #[.int .i64 p] w (FieldsR p w) := by
  have hc : p = 1 ∨ p = 2 ∨ p = 3 ∨ p = 12 ∨ p = 13 ∨ p = 6 ∨ p = 16 ∨ p = 7 ∨ p = 8 ∨ p = 9 ∨ p = 14 ∨ (p ≠ 1 ∧ p ≠ 2 ∧ p ≠ 3 ∧ p ≠ 12 ∧ p ≠ 13 ∧ p ≠ 6 ∧ p ≠ 16 ∧ p ≠ 7 ∧ p ≠ 8 ∧ p ≠ 9 ∧ p ≠ 14) := by omega
  rcases hc with rfl | rfl | rfl | rfl | rfl | rfl | rfl | rfl | rfl | rfl | rfl | ⟨h1, h2, h3, h4, h5, h6, h7, h8, h9, h10, h11⟩
  case inr.inr.inr.inr.inr.inr.inr.inr.inr.inr.inr =>
    have e1 : (p == 1) = false := by simpa using h1
    have e2 : (p == 2) = false := by simpa using h2
    have e3 : (p == 3) = false := by simpa using h3
    have e4 : (p == 12) = false := by simpa using h4
    have e5 : (p == 13) = false := by simpa using h5
    have e6 : (p == 6) = false := by simpa using h6
    have e7 : (p == 16) = false := by simpa using h7
    have e8 : (p == 7) = false := by simpa using h8
    have e9 : (p == 8) = false := by simpa using h9
    have e10 : (p == 9) = false := by simpa using h10
    have e11 : (p == 14) = false := by simpa using h11
    have hf : fieldsOf p = [] := by simp [fieldsOf, *]
    have Hf := hide hf
    clear hf h1 h2 h3 h4 h5 h6 h7 h8 h9 h10 h11
    go_enter Try.func24, Try.ntmps24
    go_wp2
    go_ret
    exact ⟨_, rfl, by rw [Hf.out]; exact VS.nil _ _, gb_refl _ _⟩
  all_goals
    go_enter Try.func24, Try.ntmps24
    go_wp2
    go_ret
    exact fieldsR_lit _ _ _ rfl rfl rfl
end Go.Tr
