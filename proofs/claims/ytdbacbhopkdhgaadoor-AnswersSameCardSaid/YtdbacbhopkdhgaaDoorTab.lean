/- The table of errors. No condition. -/
import Derived.Test.YtdbacbhopkdhgaaDoorSame2
import Derived.Laws.Rows
namespace Go.Tr
open Go.RowKit Go.Proofs
set_option linter.unusedVariables false
abbrev tErr : TypeId := 22
abbrev tErrs : TypeId := 61
abbrev tRow : TypeId := 100
abbrev tTab : TypeId := 105
structure Rw where
  e : Int
  s : Int
  c : Int
  t : ByteArray
def Rw.cells (r : Rw) : List Value := [.int .i64 r.e, .int .u32 r.s, .int .i64 r.c, .string r.t]
def rows : List Rw := [⟨0, 0, 0, ⟨#[111, 107]⟩⟩, ⟨8, 70, 1, ⟨#[115, 116, 97, 108, 101]⟩⟩, ⟨9, 2, 2, ⟨#[110, 111, 32, 115, 117, 99, 104, 32, 110, 97, 109, 101]⟩⟩, ⟨10, 17, 3, ⟨#[110, 97, 109, 101, 32, 101, 120, 105, 115, 116, 115]⟩⟩, ⟨11, 20, 4, ⟨#[110, 111, 116, 32, 97, 32, 100, 105, 114, 101, 99, 116, 111, 114, 121]⟩⟩, ⟨12, 21, 5, ⟨#[105, 115, 32, 97, 32, 100, 105, 114, 101, 99, 116, 111, 114, 121]⟩⟩, ⟨13, 66, 6, ⟨#[110, 111, 116, 32, 101, 109, 112, 116, 121]⟩⟩, ⟨14, 28, 7, ⟨#[110, 111, 32, 115, 112, 97, 99, 101]⟩⟩, ⟨15, 27, 8, ⟨#[116, 111, 111, 32, 98, 105, 103]⟩⟩, ⟨16, 63, 9, ⟨#[98, 97, 100, 32, 110, 97, 109, 101]⟩⟩, ⟨20, 10003, 10, ⟨#[98, 97, 100, 32, 99, 111, 111, 107, 105, 101]⟩⟩, ⟨17, 10101, 11, ⟨#[98, 97, 100, 32, 102, 105, 100]⟩⟩, ⟨18, 10102, 12, ⟨#[102, 105, 100, 32, 105, 110, 32, 117, 115, 101]⟩⟩, ⟨19, 10103, 13, ⟨#[98, 97, 100, 32, 109, 111, 100, 101]⟩⟩, ⟨22, 10104, 14, ⟨#[102, 108, 117, 115, 104, 101, 100]⟩⟩, ⟨21, 5, 15, ⟨#[105, 47, 111, 32, 101, 114, 114, 111, 114]⟩⟩, ⟨7, 10105, 16, ⟨#[116, 97, 103, 32, 105, 110, 32, 117, 115, 101]⟩⟩, ⟨5, 10106, 17, ⟨#[116, 111, 111, 32, 109, 97, 110, 121, 32, 114, 101, 113, 117, 101, 115, 116, 115]⟩⟩, ⟨2, 10107, 18, ⟨#[98, 97, 100, 32, 109, 101, 115, 115, 97, 103, 101]⟩⟩]
def tabV : Array Value := (rows.flatMap Rw.cells).toArray
/-- the table's block -/
def Tab (w : World) : Prop := ∃ t fr, w.heap[0]? = some (.cells tabV t fr)
theorem Tab.grown {w w' : World} (h : Tab w) (hg : w.grownBy w' none) : Tab w' := by
  obtain ⟨t, fr, h⟩ := h
  exact ⟨t, fr, (hg.block _ (Array.getElem?_eq_some_iff.1 h).1 (by simp)).trans h⟩
theorem rows_len : rows.length = 19 := rfl
theorem tab_ext (k : Nat) (hk : k < 19) : tabV.extract (k * 4) (k * 4 + 4) = (rows[k]'hk).cells.toArray := by
  match k, hk with
  | 0, _ => rfl
  | 1, _ => rfl
  | 2, _ => rfl
  | 3, _ => rfl
  | 4, _ => rfl
  | 5, _ => rfl
  | 6, _ => rfl
  | 7, _ => rfl
  | 8, _ => rfl
  | 9, _ => rfl
  | 10, _ => rfl
  | 11, _ => rfl
  | 12, _ => rfl
  | 13, _ => rfl
  | 14, _ => rfl
  | 15, _ => rfl
  | 16, _ => rfl
  | 17, _ => rfl
  | 18, _ => rfl
  | n + 19, h => exact absurd h (by omega)
theorem infoTab : (Tryd.prog.info? tTab).map (·.size) = some tabV.size := by kernel_rfl
/-- the slice owns a row of one-cell values that was made from block 'base' on -/
def OwnV (tE : TypeId) (base : Nat) (w : World) (v : Value) (xs : List Value) : Prop := w.ownsRow base tE 1 v xs.length xs
theorem OwnV.nil (tE : TypeId) (base : Nat) (w : World) : OwnV tE base w (.slice none 0 0) [] := World.ownsRow_nil w base tE 1
theorem OwnV.grown {tE : TypeId} {base : Nat} {w w' : World} {v : Value} {xs : List Value} (h : OwnV tE base w v xs) (hg : w.grownBy w' none) : OwnV tE base w' v xs := by
  refine World.ownsRow.kept h hg ?_
  rcases h.2 with ⟨rfl, _⟩ | ⟨g, cap, cur, rfl, _, hgg, _⟩
  · exact .inl rfl
  · exact .inr (by simp [Value.ownBlock])
theorem OwnV.shape {tE : TypeId} {base : Nat} {w : World} {v : Value} {xs : List Value} (h : OwnV tE base w v xs) : ∃ A c, v = .slice A xs.length c ∧ (∀ a, A = some a → ∃ g, a = ⟨g, 0, none⟩ ∧ base ≤ g ∧ g < w.heap.size) ∧ (A = none → xs.length = 0 ∧ c = 0) ∧ xs.length ≤ c := by
  have hl := World.ownsRow.lt h
  rcases h.2 with ⟨rfl, h0⟩ | ⟨g, cap, cur, rfl, hb, hg, hnc, _⟩
  · exact ⟨none, 0, by rw [h0], fun a h => (by cases h), fun _ => ⟨h0, rfl⟩, by omega⟩
  · exact ⟨_, cap, rfl, fun a ha => (by cases ha; exact ⟨g, rfl, hb, (hl g rfl).2⟩), fun h => (by cases h), hnc⟩
theorem OwnV.cell {tE : TypeId} {base : Nat} {w : World} {g n c : Nat} {xs : List Value} {j : Nat} {e : Value} (h : OwnV tE base w (.slice (some ⟨g, 0, none⟩) n c) xs) (hj : xs[j]? = some e) : w.cell? ⟨g, j, none⟩ = some e := by
  obtain ⟨A, c', hv, _⟩ := h.shape
  injection hv with h1 h2 h3
  subst h2 h3
  have hl : j < xs.length := (List.getElem?_eq_some_iff.1 hj).1
  exact (World.ownsRow.cellAt h j (by omega)).trans hj
/-- what a call leaves where it appended to a row of its own -/
theorem gb_own {w0 w w' : World} {b n sz : Nat} {tE : TypeId} {v : Value} {xs : List Value} (ho : w.ownsRow b tE sz v n xs) (hb : w0.heap.size ≤ b) {r : Option Nat} (h : w0.grownBy w r) (h' : w.grownBy w' v.ownBlock) : w0.grownBy w' r := by
  cases hv : v.ownBlock with
  | none => rw [hv] at h'; exact gb_trans h (gb_none h')
  | some k =>
    rw [hv] at h'
    exact gb_new h h' (Nat.le_trans hb (World.ownsRow.lt ho k hv).1)
theorem infoErr : (Tryd.prog.info? tErr).map (fun i => (i.zero, i.size, i.bytes)) = some (some (.int .i64 0), 1, 8) := by kernel_rfl
/-- append of one error to a row of the call's own -/
theorem wp_appErr {ops : Array Oper} {rest : List Oper} {o : Oper} {a : Act} {w : World} {Q : Exit → Act → World → Prop} (hgd : o.guard = none) (s x : Operand)
    (ho : o.op = .call { callee := .builtin .append, args := #[s, x], argTypes := #[tErrs, tErrs] })
    (base : Nat) (v : Value) (xs : List Value) (e : Int) (g n c : Nat) (hs : a.eval s = v) (hx : a.eval x = .slice (some ⟨g, 0, none⟩) n c) (hn1 : n = 1) (hown : OwnV tErr base w v xs)
    (hc : w.cell? ⟨g, 0, none⟩ = some (.int .i64 e)) (hn : xs.length ≤ 1000000) (hbase : base ≤ w.heap.size)
    (h : ∀ A n c w', OwnV tErr base w' (.slice A n c) (xs ++ [.int .i64 e]) → n = xs.length + 1 → w.grownBy w' v.ownBlock → wpList Tryd.prog ops Q rest (a.put o.dst (.slice A n c)) w') : wpList Tryd.prog ops Q (o :: rest) a w := by
  subst hn1
  obtain ⟨i0, hi, hz0, hz1, hz2⟩ := info_parts infoErr
  have hxs1 : ∀ u ∈ [Value.int .i64 e], u.oneCell' = true := fun u hu => by simp at hu; subst hu; rfl
  refine wpList_append_own w hgd s x tErrs ho base tErr i0 (.int .i64 0) 1 8 Tryd.underlying61 hi hz0 hz1 hz2 rfl (by decide) v xs.length xs hs hown ⟨g, 0, none⟩ 1 c [.int .i64 e] hx rfl (fun j u hu => ?_) hxs1 (by unfold maxLen; omega) (by omega) hbase ?_
  · rw [Addr.add_lit, Nat.zero_add]
    match j with
    | 0 => cases hu; exact hc
    | j + 1 => simp at hu
  · intro v' w' hown' hg _
    have hown2 : OwnV tErr base w' v' (xs ++ [.int .i64 e]) := by
      unfold OwnV
      rw [List.length_append]
      exact hown'
    obtain ⟨A, c, rfl, _⟩ := hown2.shape
    exact h A _ c w' hown2 (by simp) hg
/-- the table's row at an index -/
theorem run_tabidx (T : Array Value) (k : Nat) (r : Rw) (hk : k < 19) (hx : T.extract (k * 4) (k * 4 + 4) = r.cells.toArray) (w : World) : (Instr.index tTab (.agg T) (.int .i64 (k : Int))).run Tryd.prog w = .ok (.agg #[.int .i64 r.e, .int .u32 r.s, .int .i64 r.c, .string r.t]) w := by
  have h0 : (0 : Int) ≤ k ∧ (k : Int) < (19 : Nat) := by omega
  simp only [Instr.index, asIntOf, Sem.run_bind, Sem.run_pure, Result.andThen_ok, run_underlying Tryd.underlying105, if_pos h0]
  simp [part, hx, Rw.cells]
def errV : List Value := rows.map fun r => .int .i64 r.e
set_option maxRecDepth 20000 in
set_option maxHeartbeats 2000000 in
theorem all_c (w : World) (ht : Tab w) : Calls Tryd.prog 43 #[] w fun e w' => ∃ v, e = .returned v ∧ OwnV tErr w.heap.size w' v errV ∧ w.grownBy w' none := by
  obtain ⟨tt, fr, ht⟩ := ht
  have HT := hide ht
  have Hx := hide tab_ext
  obtain ⟨T, hT⟩ : ∃ T, T = tabV := ⟨_, rfl⟩
  rw [← hT] at HT Hx
  have HS := hide infoTab
  rw [← hT] at HS
  clear hT ht
  go_enter Tryd.func43, Tryd.ntmps43
  go_wp2_with (refine wpList_load_row rfl tTab _ rfl _ rfl tt T fr _ HT.out Tryd.underlying105 rfl HS.out ?_)
  go_loopw [1, 5] (fun v i wr => ∃ k : Nat, k ≤ 19 ∧ i = .int .i64 k ∧ OwnV tErr w.heap.size wr v (errV.take k) ∧ w.grownBy wr none) (fun _ i _ => 19 - (intOf i).toNat)
  case atStart => exact ⟨0, by omega, rfl, OwnV.nil _ _ _, gb_refl _ _⟩
  case round =>
    obtain ⟨k, hk, rfl, ho, hg⟩ := hrel
    by_cases hlt : k < 19
    · have hx := Hx.out k hlt
      have hst : errV.take (k + 1) = errV.take k ++ [.int .i64 (rows[k]'hlt).e] := by
        rw [List.take_succ_eq_append_getElem (by show k < 19; exact hlt)]
        simp [errV]
        rfl
      have hln : (errV.take k).length = k := by rw [List.length_take]; show min k 19 = k; omega
      generalize rows[k]'hlt = r at *
      simp only [Rw.cells] at hx
      have HST := hide hst
      clear hst
      generalize errV.take k = xs at *
      obtain ⟨A, c, rfl, hA, hn, hc⟩ := ho.shape
      have HO := hide ho
      rw [hln] at hc
      have HLN := hide hln
      have hkI : (k : Int) < 19 := by omega
      have HG := hide hg
      clear ho hA hn hln hg
      have hix := fun wz => run_tabidx T k r hlt hx wz
      clear hx
      go_wp2_with (at_builtin; refine wp_appErr rfl _ _ rfl w.heap.size _ xs r.e (wr.heap.size + 1) 1 1 rfl rfl rfl ((HO.out.grown (gb_alloc (gb_refl _ none) _)).grown (gb_alloc (gb_refl _ none) _)) ?hcell ?hlen ?hbase ?_)
      case hcell => simp [go_sem]
      case hlen => rw [HLN.out]; omega
      case hbase => have := HG.out.size; simp; omega
      intro A2 n2 c2 w2 ho2 hn2 hg2
      have hg3 := gb_own ((HO.out.grown (gb_alloc (gb_refl _ none) _)).grown (gb_alloc (gb_refl _ none) _)) (Nat.le_refl _) (gb_alloc (gb_alloc HG.out _) _) hg2
      have HO2 := hide ho2
      have HG3 := hide hg3
      clear ho2 hg2 hg3 hn2 hix
      go_wp2_with fail
      go_roundw
      case rel => exact ⟨k + 1, by omega, by go_num, by rw [HST.out]; exact HO2.out, HG3.out⟩
      case measure => simp [intOf]; omega
    · obtain rfl : k = 19 := by omega
      have hall : errV.take 19 = errV := rfl
      rw [hall] at ho
      go_wp2_with fail
      go_ret
      exact ⟨_, rfl, ho, hg⟩
end Go.Tr
