/- Bytes of an argument: they may lie in a block of any type. No condition. -/
import Derived.Test.YtblbihodpjfcbaaGood
namespace Go.Tr
open Go.RowKit Go.Proofs
set_option linter.unusedVariables false

/-- the slice reads as these bytes; where there are any, they lie below block B -/
def BR (B : Nat) (w : World) (v : Value) (l : List UInt8) : Prop :=
  ∃ A c, v = .slice A l.length c ∧ l.length ≤ c ∧ (A = none → c = 0) ∧ ∀ a, A = some a → ∀ j u, (bv l)[j]? = some u → a.block < B ∧ w.cell? (a.add j) = some u
theorem BR.kept {B : Nat} {w w' : World} {v : Value} {l : List UInt8} {r : Option Nat} (h : BR B w v l) (hB : B ≤ w.heap.size) (hg : w.grownBy w' r) (hr : ∀ k, r = some k → B ≤ k) : BR B w' v l := by
  obtain ⟨A, c, hv, hc, hn, hcell⟩ := h
  refine ⟨A, c, hv, hc, hn, fun a ha j u hu => ?_⟩
  obtain ⟨h1, h2⟩ := hcell a ha j u hu
  refine ⟨h1, ?_⟩
  rw [← h2]
  have h3 : (a.add j).block < B := by
    unfold Addr.add
    split <;> exact h1
  refine World.cell?_of_block (w := w) (hg.block _ (Nat.lt_of_lt_of_le h3 hB) fun hh => ?_)
  have := hr _ hh.symm
  omega
theorem BR.take {B : Nat} {w : World} {A : Option Addr} {n c k : Nat} {l : List UInt8} (h : BR B w (.slice A n c) l) (hk : k ≤ l.length) : BR B w (.slice A k c) (l.take k) := by
  obtain ⟨A', c', hv, hc, hn, hcell⟩ := h
  injection hv with h1 h2 h3
  subst h1 h2 h3
  have hlen : (l.take k).length = k := by rw [List.length_take]; omega
  refine ⟨_, c, by rw [hlen], by omega, hn, fun a ha j u hu => hcell a ha j u ?_⟩
  have hj : j < k := by
    have := (List.getElem?_eq_some_iff.1 hu).1
    rw [bv_length, hlen] at this
    exact this
  rw [← hu]
  simp only [bv, List.map_take]
  rw [List.getElem?_take_of_lt hj]
/-- append of an argument's bytes to a row of the call's own -/
theorem wp_appR {ops : Array Oper} {rest : List Oper} {o : Oper} {a : Act} {w : World} {Q : Exit → Act → World → Prop} (hgd : o.guard = none) (s x : Operand)
    (ho : o.op = .call { callee := .builtin .append, args := #[s, x], argTypes := #[tBs, tBs] })
    (base B : Nat) (v vx : Value) (l1 l2 : List UInt8) (hs : a.eval s = v) (hx : a.eval x = vx) (hown : OwnB base w v l1) (hbs : BR B w vx l2) (hn : (l1 ++ l2).length ≤ 1000000000) (hbase : base ≤ w.heap.size)
    (h : ∀ A n c w', OwnB base w' (.slice A n c) (l1 ++ l2) → w.grownBy w' v.ownBlock → wpList Try.prog ops Q rest (a.put o.dst (.slice A n c)) w') : wpList Try.prog ops Q (o :: rest) a w := by
  obtain ⟨i0, hi, hz0, hz1, hz2⟩ := info_parts infoU8
  have hlen : (l1 ++ l2).length = l1.length + l2.length := List.length_append
  obtain ⟨A2, c2, rfl, hc2, hn2, hcell2⟩ := hbs
  rcases A2 with _ | ad
  · have h0 : l2 = [] := List.eq_nil_of_length_eq_zero (by have := hn2 rfl; omega)
    subst h0
    exact wp_app hgd s x ho base v _ l1 [] hs hx hown ⟨none, c2, rfl, hc2, hn2, fun h => absurd h (by simp)⟩ hn hbase h
  · refine wpList_append_own w hgd s x tBs ho base tU8 i0 (.int .u8 0) 1 1 Try.underlying23 hi hz0 hz1 hz2 rfl (by decide) v l1.length (bv l1) hs hown ad l2.length c2 (bv l2) hx (by simp [bv]) (fun j u hu => (hcell2 ad rfl j u hu).2) (bv_one l2) (by unfold maxLen; omega) (by omega) hbase ?_
    intro v' w' hown' hg _
    rw [← bv_append, ← hlen] at hown'
    obtain ⟨A, c, rfl⟩ := OwnB.shape (l := l1 ++ l2) hown'
    exact h A _ c w' hown' hg
theorem few_r (B : Nat) (v : Value) (l : List UInt8) (m : Nat) (hm : m ≤ 100000) (w : World) (hb : BR B w v l) (hl : l.length ≤ 9223372036854775807) : Calls Try.prog 14 #[v, .int .i64 m] w (RetB w (l.take m)) := by
  obtain ⟨A, c, rfl, hc, hA, _⟩ := id hb
  by_cases hlm : l.length ≤ m
  · rw [List.take_of_length_le hlm]
    go_enter Try.func14, Try.ntmps14
    go_wp2_with (at_builtin; refine wp_appR rfl _ _ rfl w.heap.size B _ _ [] l rfl rfl (OwnB.nil _ _) hb (by simp; omega) (Nat.le_refl _) ?_)
    intro A2 n2 c2 w2 ho2 hg2
    go_wp2_with fail
    go_ret
    exact RetB.mk ho2 (Nat.le_refl _) (gb_new' (OwnB.nil w.heap.size w) (Nat.le_refl _) (gb_refl _ _) hg2)
  · have hlen : (l.take m).length = m := by rw [List.length_take]; omega
    go_enter Try.func14, Try.ntmps14
    go_wp2_with (at_builtin; refine wp_appR rfl _ _ rfl w.heap.size B _ _ [] (l.take m) rfl rfl (OwnB.nil _ _) (hb.take (by omega)) (by simp; omega) (Nat.le_refl _) ?_)
    intro A2 n2 c2 w2 ho2 hg2
    go_wp2_with fail
    go_ret
    exact RetB.mk ho2 (Nat.le_refl _) (gb_new' (OwnB.nil w.heap.size w) (Nat.le_refl _) (gb_refl _ _) hg2)
end Go.Tr
