/- What may be, made of any: all that the laws ask. Plain, no program. No condition. -/
import Derived.Test.YtblbihodpjfcbaaPure2
namespace Go.Tr
set_option linter.unusedVariables false
theorem lowN_ok (x : Int) : 0 ≤ lowN x ∧ lowN x < 4294967296 := ⟨aroundN_nonneg x _ (by omega), aroundN_lt x _ (by omega)⟩
theorem shortS_size (s : ByteArray) (m : Nat) : (shortS s m).size ≤ m := by
  unfold shortS
  split
  · rw [ByteArray.size_extract]
    omega
  · omega
theorem madeX_bnd (p : Int) (a : AA) : Bnd (madeX p a) :=
  ⟨lowN_ok _, lowN_ok _, lowN_ok _, lowN_ok _, lowN_ok _, lowN_ok _, lowN_ok _, ⟨aroundN_nonneg _ _ (by omega), by have := aroundN_lt a.off 4611686018427387905 (by omega); show aroundN a.off _ ≤ _; omega⟩, shortS_size _ _, shortS_size _ _, by show (a.dl.take 30).length ≤ 30; rw [List.length_take]; omega⟩
theorem goodP_mem (a : AA) : goodP a ∈ procN := by
  have h0 := aroundN_nonneg a.proc 11 (by omega)
  have h1 := aroundN_lt a.proc 11 (by omega)
  unfold goodP
  have hk : (aroundN a.proc 11).toNat < procN.length := by show _ < 11; omega
  rw [List.getD_eq_getElem?_getD, List.getElem?_eq_getElem hk]
  exact List.getElem_mem hk
theorem textB_mod (d : List UInt8) : (textB d).length % 4 = 0 ∧ 4 ≤ (textB d).length ∧ (textB d).length ≤ d.length + 8 := by
  have h1 := padN_lt d.length
  have h2 : (textB d).length = 4 + (d.length + padN d.length) := by simp [textB, be32_length]
  rw [h2]
  unfold padN at *
  omega
theorem bytesF_mod (x : AA) (hx : Bnd x) (f : Nat) : (x.bytesF f).length % 4 = 0 ∧ 4 ≤ (x.bytesF f).length ∧ (x.bytesF f).length ≤ 48 := by
  have h1 := hx.n1
  have h2 := hx.n2
  have h3 := hx.d
  match f with
  | 0 | 1 => simp [AA.bytesF, num32_length]
  | 4 => simp [AA.bytesF, num64_length]
  | 5 | 6 | 7 => simp [AA.bytesF, num32_length]
  | 2 =>
    have h := textB_mod (sb x.name)
    rw [sb_length] at h
    exact ⟨h.1, h.2.1, by show (textB (sb x.name)).length ≤ 48; omega⟩
  | 3 =>
    have h := textB_mod (sb x.name2)
    rw [sb_length] at h
    exact ⟨h.1, h.2.1, by show (textB (sb x.name2)).length ≤ 48; omega⟩
  | n + 8 =>
    have h := textB_mod x.dl
    exact ⟨h.1, h.2.1, by show (textB x.dl).length ≤ 48; omega⟩
theorem flatMap_mod (x : AA) (hx : Bnd x) : ∀ row : List Nat, (row.flatMap x.bytesF).length % 4 = 0 ∧ 4 * row.length ≤ (row.flatMap x.bytesF).length ∧ (row.flatMap x.bytesF).length ≤ 48 * row.length
  | [] => by simp
  | f :: row => by
    have h1 := bytesF_mod x hx f
    have h2 := flatMap_mod x hx row
    simp only [List.flatMap_cons, List.length_append, List.length_cons]
    omega
/-- of what may be, made of any -/
structure GoodF (a : AA) (u : Value) : Prop where
  may : ((goodA a).at u).may = true
  bytes : ((goodA a).at u).bytes = ((goodA a).at u).refB
  read : readP (goodA a).proc ((goodA a).at u).refB = .ok (goodA a)
  cut : ∀ k, k < ((goodA a).at u).refB.length → readP (goodA a).proc (((goodA a).at u).refB.take k) = .error 3
  mod : ((goodA a).at u).refB.length % 4 = 0
  pos : 0 < ((goodA a).at u).refB.length
  le : ((goodA a).at u).refB.length ≤ 192
  n1 : (goodA a).name.size ≤ 40
  n2 : (goodA a).name2.size ≤ 40
  dl : (goodA a).dl.length ≤ 30
theorem good_facts (a : AA) (u : Value) : GoodF a u := by
  have hp := goodP_mem a
  have hx := madeX_bnd (goodP a) a
  have h := own_facts (madeX (goodP a) a) u hx hp
  have hl := flatMap_mod (madeX (goodP a) a) hx (fieldsOf (goodP a))
  have hrl := fieldsOf_len (goodP a)
  have hne : (fieldsOf (goodP a)).length ≠ 0 := by
    have hc : goodP a = 1 ∨ goodP a = 2 ∨ goodP a = 3 ∨ goodP a = 6 ∨ goodP a = 7 ∨ goodP a = 8 ∨ goodP a = 9 ∨ goodP a = 12 ∨ goodP a = 13 ∨ goodP a = 14 ∨ goodP a = 16 := by simpa [procN] using hp
    rcases hc with h | h | h | h | h | h | h | h | h | h | h <;> rw [h] <;> decide
  have hpr : (goodA a).proc = goodP a := h.proc
  have hrB : ((goodA a).at u).refB = (fieldsOf (goodP a)).flatMap (madeX (goodP a) a).bytesF := h.refB
  refine ⟨h.may, h.bytes.trans h.refB.symm, ?_, fun k hk => ?_, by rw [hrB]; exact hl.1, by rw [hrB]; omega, by rw [hrB]; omega, h.n1, h.n2, h.dl⟩
  · rw [hrB, hpr]
    unfold readP
    rw [if_neg hne, rdAll_app _ hx _ _ (fieldsOf_lt _)]
    simp only [List.length_nil, if_true]
    rfl
  · rw [hrB] at hk ⊢
    rw [hpr]
    unfold readP
    rw [if_neg hne, rdAll_cut _ hx _ _ k (fieldsOf_lt _) hk]
end Go.Tr
