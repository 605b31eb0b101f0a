/- calls: the bytes of what a procedure is asked with, and whether that may be: lay, May, Write. No condition. -/
import Derived.Test.YtblbihodpjfcbaaLay
namespace Go.Tr
open Go.RowKit Go.Proofs
set_option linter.unusedVariables false

structure LS where
  a : AA
  ok : Bool
  l : List UInt8
def LS.step (s : LS) (f : Nat) : LS := ⟨s.a.zeroF f, s.ok && s.a.okF f, s.l ++ s.a.bytesF f⟩
def layAll (s : LS) (row : List Nat) : LS := row.foldl LS.step s
def AA.start (a : AA) : LS := ⟨a, decide (0 < (fieldsOf a.proc).length), []⟩
def AA.laid (a : AA) : LS := layAll a.start (fieldsOf a.proc)
/-- one of which only the procedure is told -/
def zeroA (p : Int) : AA := { proc := p, off := 0, count := 0, size := 0, mode := 0, hi := 0, hg := 0, ji := 0, jg := 0, name := emptyS, name2 := emptyS, data := .slice none 0 0, dl := [] }
def AA.may (a : AA) : Bool := a.laid.ok && sameA a.laid.a (zeroA a.proc)
def AA.bytes (a : AA) : List UInt8 := a.laid.l

theorem AA.zeroF_proc (a : AA) (f : Nat) : (a.zeroF f).proc = a.proc := by
  match f with
  | 0 | 1 | 2 | 3 | 4 | 5 | 6 | 7 | _ + 8 => rfl
theorem AA.zeroF_ok {w : World} {a : AA} (h : a.ok w) (f : Nat) : (a.zeroF f).ok w := by
  match f with
  | 0 | 1 | 4 | 5 | 6 | 7 => exact ⟨h.n1, h.n2, h.d, h.dn⟩
  | 2 => exact ⟨by show 0 ≤ _; omega, h.n2, h.d, h.dn⟩
  | 3 => exact ⟨h.n1, by show 0 ≤ _; omega, h.d, h.dn⟩
  | _ + 8 => exact ⟨h.n1, h.n2, BS.nil w, by show 0 ≤ _; omega⟩
theorem AA.ok.kept {w w' : World} {a : AA} {r : Option Nat} (h : a.ok w) (hg : w.grownBy w' r) (hr : ∀ k, r = some k → ∃ t cs, Blk w k t cs ∧ t ≠ tU8) : a.ok w' := ⟨h.n1, h.n2, h.d.kept hg hr, h.dn⟩
theorem AA.ok.grown {w w' : World} {a : AA} (h : a.ok w) (hg : w.grownBy w' none) : a.ok w' := h.kept hg (fun _ h => by cases h)
theorem padN_le (n : Nat) : padN n ≤ 4 := Nat.le_of_lt (padN_lt n)
theorem textB_length (l : List UInt8) : (textB l).length ≤ l.length + 8 := by
  have := padN_le l.length
  simp [textB, be32_length]
  omega
theorem AA.bytesF_length {w : World} {a : AA} (h : a.ok w) (f : Nat) : (a.bytesF f).length ≤ 10000008 := by
  have h1 := h.n1
  have h2 := h.n2
  have h3 := h.dn
  match f with
  | 0 | 1 | 4 | 5 | 6 | 7 => simp [AA.bytesF, num32, num64, be32_length, be64_length]
  | 2 => have := textB_length (sb a.name); simp only [sb_length] at this; simp only [AA.bytesF]; omega
  | 3 => have := textB_length (sb a.name2); simp only [sb_length] at this; simp only [AA.bytesF]; omega
  | _ + 8 => have := textB_length a.dl; simp only [AA.bytesF]; omega

/-- behind some fields -/
theorem layAll_ok {w : World} : ∀ (row : List Nat) (s : LS), s.a.ok w → (layAll s row).a.ok w
  | [], _, h => h
  | f :: row, s, h => layAll_ok row (s.step f) (AA.zeroF_ok h f)
theorem layAll_len {w : World} : ∀ (row : List Nat) (s : LS), s.a.ok w → (layAll s row).l.length ≤ s.l.length + row.length * 10000008
  | [], _, _ => by simp [layAll]
  | f :: row, s, h => by
    have h1 := layAll_len row (s.step f) (AA.zeroF_ok h f)
    have h2 := AA.bytesF_length h f
    show (layAll (s.step f) row).l.length ≤ _
    have h3 : (s.step f).l.length = s.l.length + (s.a.bytesF f).length := by simp [LS.step]
    simp only [List.length_cons]
    omega
theorem layAll_snoc (s : LS) (row : List Nat) (f : Nat) : layAll s (row ++ [f]) = (layAll s row).step f := by simp [layAll, List.foldl_append]
theorem layAll_take (s : LS) (row : List Nat) (k : Nat) (hk : k < row.length) : layAll s (row.take (k + 1)) = (layAll s (row.take k)).step row[k] := by
  rw [List.take_succ_eq_append_getElem hk, layAll_snoc]
theorem fieldsOf_len (p : Int) : (fieldsOf p).length ≤ 4 := by
  unfold fieldsOf
  repeat (first | (split <;> try (simp; done)) | (simp; done))
theorem fieldsOf_lt (p : Int) : ∀ f ∈ fieldsOf p, f < 9 := by
  unfold fieldsOf
  repeat (first | (split <;> try (simp; done)) | (simp; done))

theorem lt9 {f : Nat} (hf : f < 9) : f = 0 ∨ f = 1 ∨ f = 2 ∨ f = 3 ∨ f = 4 ∨ f = 5 ∨ f = 6 ∨ f = 7 ∨ f = 8 := by omega
theorem way_enters (f : Nat) (hf : f < 9) (args : Array Value) (w : World) : (callFunc (wayFn f) args).run Try.prog w = .ok (.enter (wayFn f) args) w := by
  rcases lt9 hf with rfl | rfl | rfl | rfl | rfl | rfl | rfl | rfl | rfl <;> kernel_rfl

theorem VS.shape {tE : TypeId} {w : World} {v : Value} {xs : List Value} (h : VS tE w v xs) (n : Nat) (hn : xs.length = n) : ∃ A c, v = .slice A n c ∧ n ≤ c := by
  subst hn
  obtain ⟨A, c, h1, h2, _⟩ := h
  exact ⟨A, c, h1, h2⟩
theorem VS.at {tE : TypeId} {w : World} {A : Option Addr} {n c : Nat} {xs : List Value} (h : VS tE w (.slice A n c) xs) (j : Nat) (x : Value) (hx : xs[j]? = some x) : ∃ g o, A = some ⟨g, o, none⟩ ∧ w.cell? ⟨g, o + j, none⟩ = some x := by
  obtain ⟨A', c', hv, _, _, hcell⟩ := h
  injection hv with h1 h2 h3
  subst h1 h2 h3
  have hj := (List.getElem?_eq_some_iff.1 hx).1
  obtain ⟨g, o, cur, fr, hA, hb, hc⟩ := hcell (by omega)
  refine ⟨g, o, hA, ?_⟩
  rw [cell_of_row w g (o + j) cur tE fr hb, hc j hj, ← hx, List.getElem?_eq_getElem hj]

def LayR (a : AA) (w : World) (e : Ending) (w' : World) : Prop :=
  ∃ v, e = .returned (.tuple #[v, .bool a.may]) ∧ OwnB w.heap.size w' v a.bytes ∧ w.grownBy w' none

theorem wayKV_find (L f : Nat) (hf : f < 9) : (wayKV L).find? (fun p => p.1 == (f : Int)) = some ((f : Int), .func (.func (wayFn f)) #[.pointer (some ⟨L, 0, none⟩)] #[]) := by
  match f, hf with
  | 0, _ | 1, _ | 2, _ | 3, _ | 4, _ | 5, _ | 6, _ | 7, _ | 8, _ => rfl

abbrev tArgs : TypeId := 28

structure LoopI (a : AA) (w : World) (L M : Nat) (v : Value) (row : List Nat) (s : LS) (wr : World) : Prop where
  blk : ∃ vb, Blk wr L tLay (s.a.lay vb s.ok) ∧ OwnB w.heap.size wr vb s.l
  box : Blk wr w.heap.size tArgs a.cells.toArray
  map : IMap wr M (wayKV L)
  row : VS tFld wr v (natV row)
  aok : s.a.ok wr
  g : w.grownBy wr none
  new : w.heap.size ≤ L
  len : s.l.length ≤ 500000000

theorem LoopI.step {a : AA} {w : World} {L M : Nat} {v : Value} {row : List Nat} {s : LS} {wr w' : World} {f : Nat} {e : Ending} (h : LoopI a w L M v row s wr) (hl : LaidF L (s.a.zeroF f) (s.ok && s.a.okF f) (s.l ++ s.a.bytesF f) wr e w') (hlen : (s.step f).l.length ≤ 500000000) :
    e = .returned (.tuple #[]) ∧ LoopI a w L M v row (s.step f) w' := by
  obtain ⟨v', he, h1, h2, h3⟩ := hl
  obtain ⟨vb, hb, ho⟩ := h.blk
  refine ⟨he, ⟨v', h1, h2.lower h.g.size⟩, h.box.grown h3 ?_, h.map.grown h3 ?_, h.row.kept h3 ?_, (AA.zeroF_ok h.aok f).kept h3 ?_, gb_new h.g h3 h.new, h.new, hlen⟩
  · intro hh
    exact Blk.ne h.box hb (by decide) (by injection hh)
  · intro hh
    exact h.map.ne hb (by injection hh)
  · intro k hk
    cases hk
    exact ⟨_, _, hb, by decide⟩
  · intro k hk
    cases hk
    exact ⟨_, _, hb, by decide⟩

set_option maxHeartbeats 2000000 in
theorem lay_c (a : AA) (w : World) (ha : a.ok w) : Calls Try.prog 20 #[a.val] w (LayR a w) := by
  have hrl := fieldsOf_len a.proc
  unfold AA.val AA.cells
  go_enter Try.func20, Try.ntmps20
  go_wp2_with fail
  refine (fields_c a.proc _).mono ?_
  rintro e w1 ⟨v1, rfl, hv, hg1⟩
  generalize hrow : fieldsOf a.proc = row at *
  obtain ⟨A, c, rfl, hvc⟩ := hv.shape row.length (by simp [natV])
  have Hrow := hide hrow
  clear hrow
  have hbox : Blk w1 w.heap.size tArgs a.cells.toArray := (Blk.new w tArgs _).grown hg1 (by simp)
  have hg01 : w.grownBy w1 none := gb_trans (gb_alloc (gb_refl w none) _) hg1
  have ha1 := ha.grown hg01
  have hst : (⟨a, decide (0 < row.length), []⟩ : LS) = a.start := by unfold AA.start; rw [Hrow.out]
  have Hst := hide hst
  clear hst
  obtain ⟨k1, k2⟩ := gb_cells hg1
  go_wp2_with fail
  refine (ways_c _ _).mono ?_
  rintro e w2 ⟨M, rfl, hM⟩
  clear k1 k2
  have hI : LoopI a w w1.heap.size M (.slice A row.length c) row ⟨a, decide (0 < row.length), []⟩ w2 :=
    ⟨⟨.slice none 0 0, (Blk.new w1 tLay _).grown hM.g (by simp), OwnB.nil _ _⟩, (hbox.alloc _).grown hM.g (by simp), hM.m, (hv.kept (gb_alloc (gb_refl w1 none) _) (fun _ h => by cases h)).kept hM.g (fun _ h => by cases h),
      (ha1.grown (gb_alloc (gb_refl _ _) _)).grown hM.g, gb_trans (gb_alloc hg01 _) hM.g, hg01.size, by simp⟩
  clear hM hbox hv ha1 hg01 hg1
  rw [Hst.out] at hI
  generalize w1.heap.size = L at *
  go_wp2_with fail
  have hrlt : ∀ f ∈ row, f < 9 := by rw [← Hrow.out]; exact fieldsOf_lt _
  have Hrlt := hide hrlt
  have hsok : a.start.a.ok w2 := hI.aok
  have Hsok := hide hsok
  clear hrlt hsok
  go_loopw [22] (fun i wr => ∃ k : Nat, k ≤ row.length ∧ i = .int .i64 k ∧ LoopI a w L M (.slice A row.length c) row (layAll a.start (row.take k)) wr) (fun i _ => row.length - (intOf i).toNat)
  case atStart => exact ⟨0, Nat.zero_le _, rfl, by simpa [layAll] using hI⟩
  case round =>
    obtain ⟨k, hk, rfl, hI2⟩ := hrel
    by_cases hlt : k < row.length
    · have hkx : (natV row)[k]? = some (.int .i64 (row[k] : Int)) := by simp [natV, hlt]
      have hstep := layAll_take a.start row k hlt
      have hf9 : row[k] < 9 := Hrlt.out _ (List.getElem_mem hlt)
      generalize row[k] = f at hkx hstep hf9
      have Hstep := hide hstep
      clear hstep
      obtain ⟨s, hs⟩ : ∃ s, s = layAll a.start (row.take k) := ⟨_, rfl⟩
      rw [← hs] at hI2
      have Hs := hide hs
      clear hs
      obtain ⟨g, o, rfl, hcell⟩ := hI2.row.at k _ hkx
      have hlook := run_lookup_im (P := Try.prog) false Try.underlying73 Try.underlying54 hI2.map (f : Int) _ (wayKV_find L f hf9)
      have hent := way_enters f hf9
      go_wp2_with fail
      obtain ⟨vb, hb, ho⟩ := hI2.blk
      refine (way_c L s.a vb s.l s.ok wr hb ho.bs (by have := hI2.len; omega) hI2.aok f).mono ?_
      rintro e w3 h3
      have hl3 : (s.step f).l.length ≤ 500000000 := by
        rw [Hs.out, ← Hstep.out]
        have h4 := layAll_len (row.take (k + 1)) a.start Hsok.out
        have h5 : (row.take (k + 1)).length ≤ 4 := by rw [List.length_take]; omega
        have h6 : a.start.l.length = 0 := rfl
        omega
      obtain ⟨rfl, hI3⟩ := hI2.step h3 hl3
      clear h3 hl3
      go_wp2_with fail
      go_roundw
      case rel => exact ⟨k + 1, by omega, by go_num, by rw [Hstep.out, ← Hs.out]; exact hI3⟩
      case measure => simp [intOf]; omega
    · obtain rfl : k = row.length := by omega
      rw [List.take_length] at hI2
      have hlaid : layAll a.start row = a.laid := by unfold AA.laid; rw [Hrow.out]
      rw [hlaid] at hI2
      clear hlaid
      clear hlt hk Hsok Hrlt hI Hst
      obtain ⟨s, hs⟩ : ∃ s, s = a.laid := ⟨_, rfl⟩
      rw [← hs] at hI2
      have Hs := hide hs
      clear hs
      obtain ⟨vb, hb, ho⟩ := hI2.blk
      have hbl := hb.lt
      have hba := hI2.box.lt
      have cL := hb.cell
      have cA := hI2.box.cell 0
      have aok := hI2.aok
      have gr := hI2.g
      unfold AA.lay AA.cells at cL
      unfold AA.cells at cA
      simp only [List.cons_append, List.nil_append, List.getElem?_toArray, List.getElem?_cons_zero] at cL cA
      have cL0 := cL 0
      have cL1 := cL 1
      have cL2 := cL 2
      have cL3 := cL 3
      have cL4 := cL 4
      have cL5 := cL 5
      have cL6 := cL 6
      have cL7 := cL 7
      have cL8 := cL 8
      have cL9 := cL 9
      have cL10 := cL 10
      have cL11 := cL 11
      have cL12 := cL 12
      have cL13 := cL 13
      simp only [List.getElem?_cons_zero, List.getElem?_cons_succ] at cL0 cL1 cL2 cL3 cL4 cL5 cL6 cL7 cL8 cL9 cL10 cL11 cL12 cL13
      have Hb := hide hb
      have HI2 := hide hI2
      clear cL hb hI2
      cases hok : s.ok
      · rw [hok] at cL13
        go_wp2_with fail
        refine Reg.wp_reg [0, 1, 3, 7, 0, 16, 48, 112, 240, 496, 1008, 2032, 4080, 496, 8688, 25072, 65520, 131056, 131071, 524287] [(0, .W), (1, .W), (2, .W), (3, .H), (4, .W), (5, .W), (6, .W), (7, .H), (8, .W), (9, .W), (10, .W), (11, .W), (12, .H), (13, .W), (14, .H), (15, .W), (16, .E true), (17, .W), (18, .W), (19, .W)] (Reg.Old _) (by kernel_rfl) (by kernel_rfl) (fun _ => Reg.Old.drew (Reg.Old.refl _)) ?_
        repeat (first | (refine Reg.wpC_W rfl (fun K hK => ?_); go_simp; refine hK _ ?_; clear hK K) | (refine Reg.wpC_H2 rfl rfl (fun K hK => ?_); apply Exists.intro; refine ⟨fun w' hS => ?_, ?_⟩; (have hS2 := hS.2; clear hS; go_simp; first | done | rfl); go_simp; refine hK _ ?_; clear hK K) | (refine Reg.wpC_N rfl rfl (fun K hK => ?_); go_simp; refine hK _ ?_; clear hK K))
        refine Reg.wpC_E rfl (fun K hK => ?_)
        go_simp
        refine hK _ _ (fun _ => Reg.Old.drew (Reg.Old.refl _)) ?_
        clear hK K
        repeat (refine Reg.wpC_W rfl (fun K hK => ?_); go_simp; refine hK _ ?_; clear hK K)
        refine Reg.wpC_nil ?_
        go_wp2_with fail
        refine bodyPost_ret (v := .tuple #[vb, .bool false]) (by simp [results, Try.results20, go_sem]) rfl ?_
        exact ⟨_, by rw [AA.may, ← Hs.out, hok]; rfl, by rw [AA.bytes, ← Hs.out]; exact ho, gb_drew gr⟩
      · rw [hok] at cL13
        go_wp2_with fail
        refine Reg.wp_reg [0, 1, 3, 7, 0, 16, 48, 112, 240, 496, 1008, 2032, 4080, 496, 8688, 25072, 65520, 131056, 131071, 524287] [(0, .W), (1, .W), (2, .W), (3, .H), (4, .W), (5, .W), (6, .W), (7, .H), (8, .W), (9, .W), (10, .W), (11, .W), (12, .H), (13, .W), (14, .H), (15, .W), (16, .E true), (17, .W), (18, .W), (19, .W)] (Reg.Old _) (by kernel_rfl) (by kernel_rfl) (fun _ => Reg.Old.drew (Reg.Old.refl _)) ?_
        repeat (first | (refine Reg.wpC_W rfl (fun K hK => ?_); go_simp; refine hK _ ?_; clear hK K) | (refine Reg.wpC_H2 rfl rfl (fun K hK => ?_); apply Exists.intro; refine ⟨fun w' hS => ?_, ?_⟩; (have hS2 := hS.2; clear hS; go_simp; first | done | rfl); go_simp; refine hK _ ?_; clear hK K) | (refine Reg.wpC_N rfl rfl (fun K hK => ?_); go_simp; refine hK _ ?_; clear hK K))
        refine Reg.wpC_E rfl (fun K hK => ?_)
        go_simp
        refine (same_c s.a (zeroA a.proc) _ aok.d.drew (BS.nil _)).mono ?_
        rintro e w3 ⟨rfl, hg3⟩
        simp only []
        refine hK _ _ (fun _ => (Reg.Old.drew (Reg.Old.refl _)).grown hg3) ?_
        clear hK K
        repeat (refine Reg.wpC_W rfl (fun K hK => ?_); go_simp; refine hK _ ?_; clear hK K)
        refine Reg.wpC_nil ?_
        go_wp2_with fail
        refine bodyPost_ret (v := .tuple #[vb, .bool (sameA s.a (zeroA a.proc))]) (by simp [results, Try.results20, go_sem]) rfl ?_
        exact ⟨_, by rw [AA.may, ← Hs.out, hok]; rfl, by rw [AA.bytes, ← Hs.out]; exact OwnB.grown (w := wr.drew) ho hg3, gb_trans (gb_drew gr) hg3⟩
end Go.Tr
