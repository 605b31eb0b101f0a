/- Around, Few, Short: the document's small words. Bytes of an argument. No condition. -/
import Derived.Test.YtdbacbhopkdhgaaDoorRead2
import Derived.DataShut
import Derived.Deep.Slices
namespace Go.Tr
open Go.RowKit Go.Proofs Go.ChangeShapes Go.WideShapes
set_option linter.unusedVariables false
abbrev tInt : TypeId := 3
def emptyS : ByteArray := ⟨#[]⟩
/-- truchmanref01.Around -/
def aroundN (x m : Int) : Int := (if x < 0 then -(x + 1) else x) % m
theorem aroundN_nonneg (x m : Int) (hm : 0 < m) : 0 ≤ aroundN x m := Int.emod_nonneg _ (by omega)
theorem aroundN_lt (x m : Int) (hm : 0 < m) : aroundN x m < m := Int.emod_lt_of_pos _ hm
theorem around_c (x m : Int) (w : World) (hx0 : -9223372036854775808 ≤ x) (hx1 : x ≤ 9223372036854775807) (hm : 0 < m) (hm1 : m ≤ 9223372036854775807) : Calls Tryd.prog 21 #[.int .i64 x, .int .i64 m] w fun e w' => e = .returned (.int .i64 (aroundN x m)) ∧ w' = w := by
  unfold aroundN
  by_cases h : x < 0
  · rw [if_pos h]
    go_enter Tryd.func21, Tryd.ntmps21
    go_wp2_with fail
    go_ret
    have h1 : (x + 1).tmod m = -(-(x + 1) % m) := by
      rw [← Int.tmod_eq_emod_of_nonneg (by omega), Int.neg_tmod, Int.neg_neg]
    exact ⟨ret_i (by first | rw [h1, Int.neg_neg] | simp [h1]), rfl⟩
  · rw [if_neg h]
    go_enter Tryd.func21, Tryd.ntmps21
    go_wp2_with fail
    go_ret
    exact ⟨rfl, rfl⟩
theorem few_c (v : Value) (l : List UInt8) (m : Nat) (hm : m ≤ 100000) (w : World) (hb : BS w v l) (hl : l.length ≤ 9223372036854775807) : Calls Tryd.prog 22 #[v, .int .i64 m] w (RetB w (l.take m)) := by
  obtain ⟨A, c, rfl, hc, hA, _⟩ := id hb
  by_cases hlm : l.length ≤ m
  · rw [List.take_of_length_le hlm]
    go_enter Tryd.func22, Tryd.ntmps22
    go_wp2_with (at_builtin; refine wp_app rfl _ _ rfl w.heap.size _ _ [] l rfl rfl (OwnB.nil _ _) hb (by simp; omega) (Nat.le_refl _) ?_)
    intro A2 n2 c2 w2 ho2 hg2
    go_wp2_with fail
    go_ret
    exact RetB.mk ho2 (Nat.le_refl _) (gb_new' (OwnB.nil w.heap.size w) (Nat.le_refl _) (gb_refl _ _) hg2)
  · have hlen : (l.take m).length = m := by rw [List.length_take]; omega
    go_enter Tryd.func22, Tryd.ntmps22
    go_wp2_with (at_builtin; refine wp_app rfl _ _ rfl w.heap.size _ _ [] (l.take m) rfl rfl (OwnB.nil _ _) (hb.take (by omega)) (by simp; omega) (Nat.le_refl _) ?_)
    intro A2 n2 c2 w2 ho2 hg2
    go_wp2_with fail
    go_ret
    exact RetB.mk ho2 (Nat.le_refl _) (gb_new' (OwnB.nil w.heap.size w) (Nat.le_refl _) (gb_refl _ _) hg2)
def shortS (s : ByteArray) (m : Nat) : ByteArray := if m < s.size then s.extract 0 m else s
theorem short_str_c (s : ByteArray) (m : Nat) (hm : m ≤ 100000) (w : World) (hs : s.size ≤ 9223372036854775807) : Calls Tryd.prog 28 #[.string s, .int .i64 m] w fun e w' => e = .returned (.string (shortS s m)) ∧ w' = w := by
  unfold shortS
  by_cases h : m < s.size
  · rw [if_pos h]
    go_enter Tryd.func28, Tryd.ntmps28
    go_wp2_with fail
    go_ret
    exact ⟨rfl, rfl⟩
  · rw [if_neg h]
    go_enter Tryd.func28, Tryd.ntmps28
    go_wp2_with fail
    go_ret
    exact ⟨rfl, rfl⟩
/-- the slice reads as these bytes; where there are any, they lie below block B -/
def BR (B : Nat) (w : World) (v : Value) (l : List UInt8) : Prop :=
  ∃ A c, v = .slice A l.length c ∧ l.length ≤ c ∧ (A = none → c = 0) ∧ ∀ a, A = some a → ∀ j u, (bv l)[j]? = some u → a.block < B ∧ w.cell? (a.add j) = some u
theorem BR.kept {B : Nat} {w w' : World} {v : Value} {l : List UInt8} {r : Option Nat} (h : BR B w v l) (hB : B ≤ w.heap.size) (hg : w.grownBy w' r) (hr : ∀ k, r = some k → B ≤ k) : BR B w' v l := by
  obtain ⟨A, c, hv, hc, hn, hcell⟩ := h
  refine ⟨A, c, hv, hc, hn, fun a ha j u hu => ?_⟩
  obtain ⟨h1, h2⟩ := hcell a ha j u hu
  refine ⟨h1, ?_⟩
  rw [← h2]
  have h3 : (a.add j).block < B := by
    unfold Addr.add
    split <;> exact h1
  refine World.cell?_of_block (w := w) (hg.block _ (Nat.lt_of_lt_of_le h3 hB) fun hh => ?_)
  have := hr _ hh.symm
  omega
theorem BR.take {B : Nat} {w : World} {A : Option Addr} {n c k : Nat} {l : List UInt8} (h : BR B w (.slice A n c) l) (hk : k ≤ l.length) : BR B w (.slice A k c) (l.take k) := by
  obtain ⟨A', c', hv, hc, hn, hcell⟩ := h
  injection hv with h1 h2 h3
  subst h1 h2 h3
  have hlen : (l.take k).length = k := by rw [List.length_take]; omega
  refine ⟨_, c, by rw [hlen], by omega, hn, fun a ha j u hu => hcell a ha j u ?_⟩
  have hj : j < k := by
    have := (List.getElem?_eq_some_iff.1 hu).1
    rw [bv_length, hlen] at this
    exact this
  rw [← hu]
  simp only [bv, List.map_take]
  rw [List.getElem?_take_of_lt hj]
/-- append of an argument's bytes to a row of the call's own -/
theorem wp_appR {ops : Array Oper} {rest : List Oper} {o : Oper} {a : Act} {w : World} {Q : Exit → Act → World → Prop} (hgd : o.guard = none) (s x : Operand)
    (ho : o.op = .call { callee := .builtin .append, args := #[s, x], argTypes := #[tBs, tBs] })
    (base B : Nat) (v vx : Value) (l1 l2 : List UInt8) (hs : a.eval s = v) (hx : a.eval x = vx) (hown : OwnB base w v l1) (hbs : BR B w vx l2) (hn : (l1 ++ l2).length ≤ 1000000000) (hbase : base ≤ w.heap.size)
    (h : ∀ A n c w', OwnB base w' (.slice A n c) (l1 ++ l2) → w.grownBy w' v.ownBlock → wpList Tryd.prog ops Q rest (a.put o.dst (.slice A n c)) w') : wpList Tryd.prog ops Q (o :: rest) a w := by
  obtain ⟨i0, hi, hz0, hz1, hz2⟩ := info_parts infoU8
  have hlen : (l1 ++ l2).length = l1.length + l2.length := List.length_append
  obtain ⟨A2, c2, rfl, hc2, hn2, hcell2⟩ := hbs
  rcases A2 with _ | ad
  · have h0 : l2 = [] := List.eq_nil_of_length_eq_zero (by have := hn2 rfl; omega)
    subst h0
    exact wp_app hgd s x ho base v _ l1 [] hs hx hown ⟨none, c2, rfl, hc2, hn2, fun h => absurd h (by simp)⟩ hn hbase h
  · refine wpList_append_own w hgd s x tBs ho base tU8 i0 (.int .u8 0) 1 1 Tryd.underlying27 hi hz0 hz1 hz2 rfl (by decide) v l1.length (bv l1) hs hown ad l2.length c2 (bv l2) hx (by simp [bv]) (fun j u hu => (hcell2 ad rfl j u hu).2) (bv_one l2) (by unfold maxLen; omega) (by omega) hbase ?_
    intro v' w' hown' hg _
    rw [← bv_append, ← hlen] at hown'
    obtain ⟨A, c, rfl⟩ := OwnB.shape (l := l1 ++ l2) hown'
    exact h A _ c w' hown' hg
theorem few_r (B : Nat) (v : Value) (l : List UInt8) (m : Nat) (hm : m ≤ 100000) (w : World) (hb : BR B w v l) (hl : l.length ≤ 9223372036854775807) : Calls Tryd.prog 22 #[v, .int .i64 m] w (RetB w (l.take m)) := by
  obtain ⟨A, c, rfl, hc, hA, _⟩ := id hb
  by_cases hlm : l.length ≤ m
  · rw [List.take_of_length_le hlm]
    go_enter Tryd.func22, Tryd.ntmps22
    go_wp2_with (at_builtin; refine wp_appR rfl _ _ rfl w.heap.size B _ _ [] l rfl rfl (OwnB.nil _ _) hb (by simp; omega) (Nat.le_refl _) ?_)
    intro A2 n2 c2 w2 ho2 hg2
    go_wp2_with fail
    go_ret
    exact RetB.mk ho2 (Nat.le_refl _) (gb_new' (OwnB.nil w.heap.size w) (Nat.le_refl _) (gb_refl _ _) hg2)
  · have hlen : (l.take m).length = m := by rw [List.length_take]; omega
    go_enter Tryd.func22, Tryd.ntmps22
    go_wp2_with (at_builtin; refine wp_appR rfl _ _ rfl w.heap.size B _ _ [] (l.take m) rfl rfl (OwnB.nil _ _) (hb.take (by omega)) (by simp; omega) (Nat.le_refl _) ?_)
    intro A2 n2 c2 w2 ho2 hg2
    go_wp2_with fail
    go_ret
    exact RetB.mk ho2 (Nat.le_refl _) (gb_new' (OwnB.nil w.heap.size w) (Nat.le_refl _) (gb_refl _ _) hg2)
set_option linter.unusedVariables false
theorem wf64 {n : Int} (h : (Lit.int .i64 n).wf = true) : -9223372036854775808 ≤ n ∧ n ≤ 9223372036854775807 := (Lit.wf_int_iff .i64 n).1 h
/-- the bytes that a slice of bytes reads as -/
theorem open_bytes {H : Type} {enc : TypeId × Value → H} {w : World} {fuel : Nat} {cs : List Value} {x : DataW H × List MemPlace} (h : DataW.trod enc Tryd.prog w 0 (fun _ => true) true fuel tBs cs = some x) :
    ∃ v l, cs = [v] ∧ BR w.heap.size w v l ∧ l.length ≤ 9223372036854775807 := by
  rcases open_ints Tryd.underlying27 Tryd.underlying5 (by kernel_rfl) h with ⟨rfl, _⟩ | ⟨a, len, cap, zs, rfl, _, hl, hm, hlen, _, hc, hw⟩
  · exact ⟨_, [], rfl, ⟨none, 0, rfl, Nat.le_refl _, fun _ => rfl, fun a h => by cases h⟩, by simp⟩
  · simp only [if_true] at hlen
    have hr : ∀ z ∈ zs, 0 ≤ z ∧ z ≤ 255 := fun z hz => (Lit.wf_int_iff .u8 z).1 (hw z hz)
    have hll : ((zs.take len).map (fun z => UInt8.ofNat z.toNat)).length = len := by
      rw [List.length_map, List.length_take]
      omega
    refine ⟨_, (zs.take len).map (fun z => UInt8.ofNat z.toNat), rfl, ⟨some a, cap, by rw [hll], by rw [hll]; exact hl, fun h => by (cases h), fun b hb j u hu => ?_⟩, by rw [hll]; simp only [maxLen] at hm; omega⟩
    injection hb with hb
    subst hb
    have hj : j < len := by
      have := (List.getElem?_eq_some_iff.1 hu).1
      rw [bv_length, hll] at this
      exact this
    have hc1 := hc j (by omega)
    have hz := hr zs[j] (List.getElem_mem (by omega))
    have hgd : zs.getD j 0 = zs[j] := by rw [List.getD_eq_getElem?_getD, List.getElem?_eq_getElem (by omega)]; rfl
    rw [hgd] at hc1
    have hub : u = .int .u8 zs[j] := by
      rw [bv_get (by rw [hll]; exact hj)] at hu
      injection hu with hu
      rw [← hu, List.getElem_map, List.getElem_take]
      rw [UInt8.toNat_ofNat']
      congr 1
      omega
    subst hub
    refine ⟨?_, hc1⟩
    have := World.block_lt_of_cell? w _ hc1
    unfold Addr.add at this
    split at this <;> exact this
theorem BS.keptB {w w' : World} {B : Nat} {v : Value} {l : List UInt8} {r : Option Nat} (h : BS w v l) (hv : ∀ A n c, v = .slice (some A) n c → A.block < B) (hg : w.grownBy w' r) (hr : ∀ k, r = some k → B ≤ k) : BS w' v l := by
  obtain ⟨A, c, rfl, hc, hn, hcell⟩ := h
  refine ⟨A, c, rfl, hc, hn, fun h0 => ?_⟩
  obtain ⟨g, o, cur, fr, hA, hb, hj⟩ := hcell h0
  refine ⟨g, o, cur, fr, hA, ?_, hj⟩
  rw [hg.block g (Array.getElem?_eq_some_iff.1 hb).1]
  · exact hb
  · intro hh
    have h1 := hr _ hh.symm
    have h2 := hv _ _ _ (by rw [hA])
    simp at h2
    omega
/-- bytes that lie below block B -/
structure BL (B : Nat) (w : World) (v : Value) (l : List UInt8) : Prop where
  bs : BS w v l
  lt : ∀ A n c, v = .slice (some A) n c → A.block < B
theorem BL.kept {w w' : World} {B : Nat} {v : Value} {l : List UInt8} {r : Option Nat} (h : BL B w v l) (hg : w.grownBy w' r) (hr : ∀ k, r = some k → B ≤ k) : BL B w' v l := ⟨h.bs.keptB h.lt hg hr, h.lt⟩
theorem BL.grown {w w' : World} {B : Nat} {v : Value} {l : List UInt8} (h : BL B w v l) (hg : w.grownBy w' none) : BL B w' v l := h.kept hg (fun _ h => by cases h)
theorem BL.up {w : World} {B B' : Nat} {v : Value} {l : List UInt8} (h : BL B w v l) (hB : B ≤ B') : BL B' w v l := ⟨h.bs, fun A n c hv => Nat.lt_of_lt_of_le (h.lt A n c hv) hB⟩
theorem BL.take {w : World} {B : Nat} {A : Option Addr} {n c k : Nat} {l : List UInt8} (h : BL B w (.slice A n c) l) (hk : k ≤ l.length) : BL B w (.slice A k c) (l.take k) :=
  ⟨h.bs.take hk, fun A' n' c' hv => by injection hv with h1 _ _; exact h.lt A' n c (by rw [h1])⟩
theorem OwnB.bl {w : World} {base : Nat} {v : Value} {l : List UInt8} (h : OwnB base w v l) : BL w.heap.size w v l :=
  ⟨h.bs, fun A n c hv => (World.ownsRow.lt h A.block (by rw [hv]; rfl)).2⟩
theorem OwnB.at {w : World} {base : Nat} {A : Option Addr} {n c : Nat} {l : List UInt8} (h : OwnB base w (.slice A n c) l) (h0 : 0 < l.length) : ∃ g, A = some ⟨g, 0, none⟩ ∧ n = l.length ∧ base ≤ g ∧ g < w.heap.size := by
  have hl := World.ownsRow.lt h
  rcases h.2 with ⟨_, hz⟩ | ⟨g, cap, cur, hv, hb, hg, _⟩
  · omega
  · injection hv with h1 h2 h3
    subst h1
    exact ⟨g, rfl, h2, hb, (hl g rfl).2⟩
theorem OwnB.set {w : World} {base g c : Nat} {l : List UInt8} (h : OwnB base w (.slice (some ⟨g, 0, none⟩) l.length c) l) (k : Nat) (x : UInt8) :
    OwnB base (w.setCell ⟨g, k, none⟩ (.int .u8 (x.toNat : Int))) (.slice (some ⟨g, 0, none⟩) l.length c) (l.set k x) ∧ w.grownBy (w.setCell ⟨g, k, none⟩ (.int .u8 (x.toNat : Int))) (some g) := by
  have h1 := World.ownsRow.stored h k (.int .u8 (x.toNat : Int))
  refine ⟨?_, h1.2⟩
  unfold OwnB
  have h2 : bv (l.set k x) = (bv l).set k (.int .u8 (x.toNat : Int)) := by simp [bv, List.map_set]
  rw [h2, List.length_set]
  exact h1.1
set_option maxRecDepth 100000 in
theorem open_bytesV {H : Type} {enc : TypeId × Value → H} {w : World} {base : Nat} {v : Value} {d : DataW H} {p : List MemPlace} (hv : Value.okWide Tryd.prog w .any base tBs v) (h : DataW.Trod enc Tryd.prog w 0 (fun _ => true) true tBs v d p) :
    ∃ l, BR w.heap.size w v l ∧ l.length ≤ 9223372036854775807 := by
  obtain ⟨A, n, c, rfl⟩ := okWide_slice Tryd.underlying27 hv
  obtain ⟨fuel, hf⟩ := h
  obtain ⟨v', l, hv', hb, hl⟩ := open_bytes hf
  refine ⟨l, ?_, hl⟩
  have he : Value.slice A n c = v' := by simpa [Value.cells] using hv'
  rw [he]
  exact hb
theorem genW {C I : World → Prop} {w0 : World} (h : I w0) (k : ∀ wr, I wr → C wr) : C w0 := k w0 h
theorem two {α : Type} {p : α → Prop} {x y : α} (h1 : p x) (h2 : p y) : ∀ L ∈ [x, y], p L := by
  intro L hL
  simp only [List.mem_cons, List.not_mem_nil, or_false] at hL
  rcases hL with rfl | rfl
  · exact h1
  · exact h2
theorem shortS_size (s : ByteArray) (m : Nat) : (shortS s m).size ≤ m := by
  unfold shortS
  split
  · rw [ByteArray.size_extract]
    omega
  · omega
end Go.Tr
