/- xdr: a reader of bytes. No condition. -/
import Derived.Test.YtdbacbhopkdhgaaDoorXdr
import Derived.Laws.BitsAllLaws
import Derived.WalkSpells
namespace Go.Tr
open Go.RowKit Go.Proofs
set_option linter.unusedVariables false

theorem OwnB.empty (w : World) (n : Nat) (hn : n = w.heap.size) : OwnB w.heap.size (w.alloc (.cells #[] tU8)) (.slice (some ⟨n, 0, none⟩) 0 0) [] := by
  subst hn
  exact ⟨rfl, Or.inr ⟨w.heap.size, 0, #[], rfl, Nat.le_refl _, heap_alloc_new w _, Nat.le_refl _, Nat.zero_le _, rfl, rfl⟩⟩

theorem clone_c (v : Value) (l : List UInt8) (w : World) (hb : BS w v l) (hl : l.length ≤ 100000000) : Calls Tryd.prog 77 #[v] w (RetB w l) := by
  have hb' := hb
  have hnil : ∀ (A : Option Addr) (n c : Nat) (w : World), (binOp .eql tBs (.slice A n c) (.slice none 0 0)).run Tryd.prog w = .ok (.bool A.isNone) w := fun A n c w => Lib.run_eql_slice_nil w tBs tU8 A n c 0 0 Tryd.underlying27
  obtain ⟨A, c, rfl, hc, hn, _⟩ := hb
  rcases A with _ | ad
  · have h0 : l = [] := List.eq_nil_of_length_eq_zero (by have := hn rfl; omega)
    subst h0
    go_enter Tryd.func77, Tryd.ntmps77
    go_wp2_with fail
    go_ret
    exact RetB.mk (OwnB.nil w.heap.size w) (Nat.le_refl _) (gb_refl _ _)
  · go_enter Tryd.func77, Tryd.ntmps77
    go_wp2_with (at_builtin; refine wp_app rfl _ _ rfl w.heap.size _ _ [] l rfl rfl (OwnB.empty w _ rfl) (hb'.alloc _) (by simp; omega) (by simp) ?_)
    intro A2 n2 c2 w2 ho2 hg2
    go_wp2_with fail
    go_ret
    exact RetB.mk ho2 (Nat.le_refl _) (gb_new' (OwnB.empty w _ rfl) (Nat.le_refl _) (gb_alloc (gb_refl _ _) _) hg2)

abbrev tRdr : TypeId := 113
/-- a reader: the error, what is left -/
def Rd (w : World) (R : Nat) (e : Int) (l : List UInt8) : Prop := ∃ v, Blk w R tRdr #[.int .i64 e, v] ∧ BS w v l
theorem Rd.kept {w w' : World} {R : Nat} {e : Int} {l : List UInt8} {r : Option Nat} (h : Rd w R e l) (hg : w.grownBy w' r) (hr : ∀ k, r = some k → ∃ t cs, Blk w k t cs ∧ t ≠ tU8 ∧ t ≠ tRdr) : Rd w' R e l := by
  obtain ⟨v, hb, hs⟩ := h
  refine ⟨v, hb.grown hg ?_, hs.kept hg fun k hk => ?_⟩
  · intro hh
    obtain ⟨t, cs, h1, _, h3⟩ := hr R hh.symm
    exact Blk.ne hb h1 (fun h => h3 h.symm) rfl
  · obtain ⟨t, cs, h1, h2, _⟩ := hr k hk
    exact ⟨t, cs, h1, h2⟩
theorem Rd.lt {w : World} {R : Nat} {e : Int} {l : List UInt8} (h : Rd w R e l) : R < w.heap.size := by
  obtain ⟨v, hb, _⟩ := h
  exact hb.lt

theorem read_c (v : Value) (l : List UInt8) (w : World) (hb : BS w v l) (hl : l.length ≤ 100000000) :
    Calls Tryd.prog 57 #[v] w fun e w' => ∃ R, e = .returned (.pointer (some ⟨R, 0, none⟩)) ∧ Rd w' R 0 l ∧ w.grownBy w' none ∧ w.heap.size ≤ R := by
  go_enter Tryd.func57, Tryd.ntmps57
  go_wp2_with fail
  refine (clone_c _ _ _ hb hl).mono ?_
  rintro e w1 ⟨A1, n1, c1, rfl, ho, hg⟩
  go_wp2_with fail
  go_ret
  exact ⟨w1.heap.size, rfl, ⟨_, Blk.new w1 tRdr _, ho.bs.alloc _⟩, gb_alloc hg _, hg.size⟩

theorem fail_c (R : Nat) (e0 e : Int) (v : Value) (w : World) (hb : Blk w R tRdr #[.int .i64 e0, v]) :
    Calls Tryd.prog 96 #[.pointer (some ⟨R, 0, none⟩), .int .i64 e] w fun ed w' => ed = .returned (.tuple #[]) ∧ Rd w' R e [] ∧ w.grownBy w' (some R) := by
  have hlt := hb.lt
  have c0 := hb.cell 0
  have c1 := hb.cell 1
  have f := hb.frozen
  simp only [List.getElem?_toArray, List.getElem?_cons_zero, List.getElem?_cons_succ] at c0 c1
  have Hb := hide hb
  clear hb
  go_enter Tryd.func96, Tryd.ntmps96
  go_wp2_with fail
  go_end0
  exact ⟨rfl, ⟨_, (Hb.out.set 0 _).set 1 _, BS.nil _⟩, gb_set (gb_set (gb_refl _ _) _ _) _ _⟩

def beN (l : List UInt8) : Nat := l.foldl (fun n c => n * 256 + c.toNat) 0
theorem beN_snoc (l : List UInt8) (c : UInt8) : beN (l ++ [c]) = beN l * 256 + c.toNat := by simp [beN, List.foldl_append]
theorem beN_lt : ∀ (k : Nat) (l : List UInt8), l.length = k → beN l < 256 ^ k
  | 0, l, h => by
    have : l = [] := List.eq_nil_of_length_eq_zero h
    subst this
    simp [beN]
  | k + 1, l, h => by
    have hne : l ≠ [] := by intro h0; simp [h0] at h
    have hl := List.dropLast_concat_getLast hne
    have h1 := beN_lt k l.dropLast (by simp [h])
    have h2 := (l.getLast hne).toNat_lt
    rw [← hl, beN_snoc, Nat.pow_succ]
    omega
/-- the next number of so many bytes: 3 is too few -/
def rdN (n : Nat) (l : List UInt8) : Except Int (Nat × List UInt8) := if l.length < n then .error 3 else .ok (beN (l.take n), l.drop n)

theorem or256 (x u : Nat) (hx : x < 72057594037927936) (hu : u < 256) : bits BinOp.or IntKind.u64 ((x : Int) * 256) (u : Int) = ((x * 256 + u : Nat) : Int) := by
  have h := u64_or_nat (x * 256) u (by omega) (by omega)
  have h2 := Nat.two_pow_add_eq_or_of_lt (i := 8) (b := u) (by omega) x
  have h3 : ((x * 256 : Nat) : Int) = (x : Int) * 256 := Int.natCast_mul x 256
  rw [h3] at h
  rw [h, show x * 256 = 2 ^ 8 * x by omega, h2]
theorem BS.drop {w : World} {A : Option Addr} {n c k : Nat} {l : List UInt8} (h : BS w (.slice A n c) l) (hk : k ≤ l.length) : BS w (.slice (Option.map (fun x => x.add k) A) (n - k) (c - k)) (l.drop k) := by
  obtain ⟨A', c', hv, hc, hn, hcell⟩ := h
  injection hv with h1 h2 h3
  subst h1 h2 h3
  refine ⟨_, c - k, by rw [List.length_drop], by rw [List.length_drop]; omega, fun h => ?_, fun h0 => ?_⟩
  · have : A = none := by simpa using h
    have := hn this
    omega
  · rw [List.length_drop] at h0
    obtain ⟨g, o, cur, fr, rfl, hb, hj⟩ := hcell (by omega)
    refine ⟨g, o + k, cur, fr, by simp [Addr.add], hb, fun j hjl => ?_⟩
    rw [List.length_drop] at hjl
    rw [List.getElem_drop, ← hj (k + j) (by omega), Nat.add_assoc]
theorem BS.dropAll {w : World} {A : Option Addr} {n c k : Nat} {l : List UInt8} (h : BS w (.slice A n c) l) (hk : k ≤ l.length) (hc : c = k) : BS w (.slice A (n - k) 0) (l.drop k) := by
  obtain ⟨A', c', hv, hc', hn, hcell⟩ := h
  injection hv with h1 h2 h3
  subst h1 h2 h3
  have h0 : l.drop k = [] := List.drop_eq_nil_of_le (by omega)
  rw [h0]
  exact ⟨A, 0, by rw [show l.length - k = 0 by omega]; rfl, Nat.le_refl _, fun _ => rfl, fun h => absurd h (by simp)⟩
def NumR (R n : Nat) (l : List UInt8) (k : IntKind) (w : World) (e : Ending) (w' : World) : Prop :=
  w.grownBy w' (some R) ∧ match rdN n l with
  | .ok (x, l') => e = .returned (.int k x) ∧ Rd w' R 0 l'
  | .error er => e = .returned (.int k 0) ∧ Rd w' R er []

theorem NumR.ok {R n : Nat} {l : List UInt8} {k : IntKind} {w w' : World} (hn : n ≤ l.length) (hg : w.grownBy w' (some R)) (hr : Rd w' R 0 (l.drop n)) : NumR R n l k w (.returned (.int k (beN (l.take n)))) w' := by
  unfold NumR rdN
  rw [if_neg (by omega)]
  exact ⟨hg, rfl, hr⟩
theorem number_bad_c (R n : Nat) (e0 : Int) (l : List UInt8) (w : World) (h : Rd w R e0 l) (he : e0 ≠ 0) :
    Calls Tryd.prog 97 #[.pointer (some ⟨R, 0, none⟩), .int .i64 n] w fun e w' => e = .returned (.int .u64 0) ∧ w' = w := by
  obtain ⟨v, hb, hs⟩ := h
  have hlt := hb.lt
  have c0 := hb.cell 0
  simp only [List.getElem?_toArray, List.getElem?_cons_zero] at c0
  clear hb hs
  go_enter Tryd.func97, Tryd.ntmps97
  go_wp2_with fail
  go_ret
  exact ⟨rfl, rfl⟩
set_option maxHeartbeats 1000000 in
theorem rnumber_c (R n : Nat) (hn : n ≤ 8) (l : List UInt8) (w : World) (h : Rd w R 0 l) :
    Calls Tryd.prog 97 #[.pointer (some ⟨R, 0, none⟩), .int .i64 n] w (NumR R n l .u64 w) := by
  obtain ⟨v, hb, hs⟩ := h
  obtain ⟨A, c, rfl, hc, hA, hcell⟩ := id hs
  clear hcell
  have hlt := hb.lt
  have c0 := hb.cell 0
  have c1 := hb.cell 1
  have f := hb.frozen
  simp only [List.getElem?_toArray, List.getElem?_cons_zero, List.getElem?_cons_succ] at c0 c1
  have Hb := hide hb
  have Hs := hide hs
  clear hb hs
  by_cases hl : l.length < n
  · go_enter Tryd.func97, Tryd.ntmps97
    go_wp2_with fail
    refine (fail_c R 0 3 _ w Hb.out).mono ?_
    rintro e w1 ⟨rfl, hr, hg⟩
    go_wp2_with fail
    go_ret
    refine ⟨hg, ?_⟩
    rw [rdN, if_pos hl]
    exact ⟨rfl, hr⟩
  · go_enter Tryd.func97, Tryd.ntmps97
    go_wp2_with fail
    obtain ⟨ln, hln⟩ : ∃ ln, ln = l.length := ⟨_, rfl⟩
    rw [← hln] at hl hc
    have hle : n ≤ l.length := by omega
    have Hle := hide hle
    have Hln := hide hln
    clear hln hle
    go_loopw [5, 30] (fun x i wr => ∃ k : Nat, k ≤ n ∧ i = .int .i64 k ∧ x = .int .u64 (beN (l.take k)) ∧ wr = w) (fun _ i _ => n - (intOf i).toNat)
    case atStart => exact ⟨0, Nat.zero_le _, rfl, rfl, rfl⟩
    case round =>
      obtain ⟨k, hk, rfl, rfl, rfl⟩ := hrel
      by_cases hlt2 : k < n
      · have hkl : k < l.length := by have := Hle.out; omega
        obtain ⟨A', c', hv, _, _, hcell⟩ := Hs.out
        obtain ⟨g, o, cur, fr, rfl, hbk, hcu⟩ := hcell (by omega)
        injection hv with h1 h2 h3
        subst h1 h3
        have hcell : wr.cell? ⟨g, o + k, none⟩ = some (.int .u8 (l[k].toNat : Int)) := by
          rw [cell_of_row wr g (o + k) cur tU8 fr hbk, hcu k hkl]
        have hst : beN (l.take (k + 1)) = beN (l.take k) * 256 + l[k].toNat := by
          rw [List.take_succ_eq_append_getElem hkl, beN_snoc]
        have hx := beN_lt k (l.take k) (by rw [List.length_take]; omega)
        have hu := l[k].toNat_lt
        generalize l[k].toNat = u at *
        generalize beN (l.take k) = x at *
        have Hst := hide hst
        clear hst hcu hbk
        have hx2 : x < 72057594037927936 := by
          have : 256 ^ k ≤ 256 ^ 7 := Nat.pow_le_pow_right (by omega) (by omega)
          omega
        clear hx
        go_wp2_with fail
        go_roundw
        case rel => exact ⟨k + 1, by omega, by go_num, by rw [or256 x u (by omega) hu, Hst.out], trivial⟩
        case measure => simp [intOf]; omega
      · obtain rfl : k = n := by omega
        have hle := Hle.out
        go_wp2_with fail
        all_goals
          go_ret
          refine NumR.ok hle (gb_set (gb_refl _ _) _ _) ⟨_, Hb.out.set 1 _, BS.set ?_ Hb.out (by decide) _ _⟩
          first
          | exact Hs.out.drop hle
          | exact Hs.out.dropAll hle (by first | rfl | assumption)
          | exact Hs.out.drop hle
end Go.Tr
