/- calls.Read: what a procedure is asked with, of bytes. No condition. -/
import Derived.Test.YtblbihodpjfcbaaCread2
namespace Go.Tr
open Go.RowKit Go.Proofs
set_option linter.unusedVariables false

def rdAll : List Nat → AA → List UInt8 → Except Int (AA × List UInt8)
  | [], a, l => .ok (a, l)
  | f :: row, a, l => match rdF f a l with
    | .error e => .error e
    | .ok (a', l') => rdAll row a' l'
/-- what is read, or the error -/
def readP (p : Int) (l : List UInt8) : Except Int AA :=
  if (fieldsOf p).length = 0 then .error 2 else
    match rdAll (fieldsOf p) (zeroA p) l with
    | .error e => .error e
    | .ok (a, l') => if l'.length = 0 then .ok a else .error 2
def ReadAllR (p : Int) (l : List UInt8) (w : World) (e : Ending) (w' : World) : Prop :=
  w.grownBy w' none ∧ match readP p l with
  | .ok a => ∃ u, e = .returned (.tuple #[(a.at u).val, .int .i64 0]) ∧ BS w' u a.dl
  | .error er => er ≠ 0 ∧ e = .returned (.tuple #[(zeroA 0).val, .int .i64 er])
theorem ReadAllR.err {p : Int} {l : List UInt8} {w w' : World} {er : Int} (h : readP p l = .error er) (he : er ≠ 0) (hg : w.grownBy w' none) : ReadAllR p l w (.returned (.tuple #[(zeroA 0).val, .int .i64 er])) w' := by
  unfold ReadAllR
  rw [h]
  exact ⟨hg, he, rfl⟩
theorem ReadAllR.ok {p : Int} {l : List UInt8} {w w' : World} {a : AA} {u : Value} (h : readP p l = .ok a) (hg : w.grownBy w' none) (hb : BS w' u a.dl) : ReadAllR p l w (.returned (.tuple #[(a.at u).val, .int .i64 0])) w' := by
  unfold ReadAllR
  rw [h]
  exact ⟨hg, u, rfl, hb⟩

/-- a struct of twelve cells was stored -/
theorem put12 {w : World} {T : Nat} {cs : Array Value} (v0 v1 v2 v3 v4 v5 v6 v7 v8 v9 v10 v11 : Value) (hb : Blk w T tArgs cs) (hcs : cs.size = 12) : Blk ((((((((((((w.setCell ⟨T, 0, none⟩ v0).setCell ⟨T, 1, none⟩ v1).setCell ⟨T, 2, none⟩ v2).setCell ⟨T, 3, none⟩ v3).setCell ⟨T, 4, none⟩ v4).setCell ⟨T, 5, none⟩ v5).setCell ⟨T, 6, none⟩ v6).setCell ⟨T, 7, none⟩ v7).setCell ⟨T, 8, none⟩ v8).setCell ⟨T, 9, none⟩ v9).setCell ⟨T, 10, none⟩ v10).setCell ⟨T, 11, none⟩ v11) T tArgs #[v0, v1, v2, v3, v4, v5, v6, v7, v8, v9, v10, v11] ∧ w.grownBy ((((((((((((w.setCell ⟨T, 0, none⟩ v0).setCell ⟨T, 1, none⟩ v1).setCell ⟨T, 2, none⟩ v2).setCell ⟨T, 3, none⟩ v3).setCell ⟨T, 4, none⟩ v4).setCell ⟨T, 5, none⟩ v5).setCell ⟨T, 6, none⟩ v6).setCell ⟨T, 7, none⟩ v7).setCell ⟨T, 8, none⟩ v8).setCell ⟨T, 9, none⟩ v9).setCell ⟨T, 10, none⟩ v10).setCell ⟨T, 11, none⟩ v11) (some T) := by
  obtain ⟨l⟩ := cs
  match l, hcs with
  | [c0, c1, c2, c3, c4, c5, c6, c7, c8, c9, c10, c11], _ =>
    refine ⟨?_, ?_⟩
    · have h := (((((((((((hb.set 0 v0).set 1 v1).set 2 v2).set 3 v3).set 4 v4).set 5 v5).set 6 v6).set 7 v7).set 8 v8).set 9 v9).set 10 v10).set 11 v11
      simp only [List.setIfInBounds_toArray, List.set_cons_zero, List.set_cons_succ] at h
      exact h
    · exact gb_set (gb_set (gb_set (gb_set (gb_set (gb_set (gb_set (gb_set (gb_set (gb_set (gb_set (gb_set (gb_refl _ _) _ _) _ _) _ _) _ _) _ _) _ _) _ _) _ _) _ _) _ _) _ _) _ _
theorem post_put12 {P : Program} {f : Func} {Q : Ending → World → Prop} {act : Act} {w : World} {T : Nat} {cs : Array Value} {v0 v1 v2 v3 v4 v5 v6 v7 v8 v9 v10 v11 : Value} (hb : Blk w T tArgs cs) (hcs : cs.size = 12)
    (h : ∀ w2, Blk w2 T tArgs #[v0, v1, v2, v3, v4, v5, v6, v7, v8, v9, v10, v11] → w.grownBy w2 (some T) → bodyPost P f Q .ret act w2) : bodyPost P f Q .ret act ((((((((((((w.setCell ⟨T, 0, none⟩ v0).setCell ⟨T, 1, none⟩ v1).setCell ⟨T, 2, none⟩ v2).setCell ⟨T, 3, none⟩ v3).setCell ⟨T, 4, none⟩ v4).setCell ⟨T, 5, none⟩ v5).setCell ⟨T, 6, none⟩ v6).setCell ⟨T, 7, none⟩ v7).setCell ⟨T, 8, none⟩ v8).setCell ⟨T, 9, none⟩ v9).setCell ⟨T, 10, none⟩ v10).setCell ⟨T, 11, none⟩ v11) :=
  h _ (put12 v0 v1 v2 v3 v4 v5 v6 v7 v8 v9 v10 v11 hb hcs).1 (put12 v0 v1 v2 v3 v4 v5 v6 v7 v8 v9 v10 v11 hb hcs).2
structure RdI (w : World) (p : Int) (l : List UInt8) (R Ab T : Nat) (v : Value) (row : List Nat) (k : Nat) (a : AA) (l' : List UInt8) (wr : World) : Prop where
  rd : Rd wr R 0 l'
  args : ∃ u, Blk wr Ab tArgs (a.at u).cells.toArray ∧ BS wr u a.dl
  res : Blk wr T tArgs (zeroA 0).cells.toArray
  vs : VS tFld wr v (natV row)
  left : rdAll (row.drop k) a l' = rdAll row (zeroA p) l
  g : w.grownBy wr none
  nR : w.heap.size ≤ R
  nA : w.heap.size ≤ Ab
  ne : T ≠ Ab
theorem RdI.step {w : World} {p : Int} {l : List UInt8} {R Ab T : Nat} {v : Value} {row : List Nat} {k f : Nat} {a a' : AA} {l' l2 : List UInt8} {wr w' : World} {u' : Value} (h : RdI w p l R Ab T v row k a l' wr) (hk : k < row.length) (hf : row[k] = f) (hx : rdF f a l' = .ok (a', l2))
    (hg : gb2 wr w' R Ab) (hr : Rd w' R 0 l2) (hb : Blk w' Ab tArgs (a'.at u').cells.toArray) (hs : BS w' u' a'.dl) : RdI w p l R Ab T v row (k + 1) a' l2 w' := by
  obtain ⟨u, hA, _⟩ := h.args
  obtain ⟨vR, hR, _⟩ := h.rd
  refine ⟨hr, ⟨u', hb, hs⟩, h.res.kept2 hg (Blk.ne h.res hR (by decide)) h.ne, h.vs.kept2 hg hR hA (by decide) (by decide), ?_, gb2.new h.g hg h.nR h.nA, h.nR, h.nA, h.ne⟩
  rw [← h.left]
  conv => rhs; rw [← List.getElem_cons_drop (h := hk)]
  rw [rdAll, hf, hx]
theorem RdI.bad {w : World} {p : Int} {l : List UInt8} {R Ab T : Nat} {v : Value} {row : List Nat} {k f : Nat} {a : AA} {l' : List UInt8} {wr : World} {er : Int} (h : RdI w p l R Ab T v row k a l' wr) (hk : k < row.length) (hf : row[k] = f) (hx : rdF f a l' = .error er) : rdAll row (zeroA p) l = .error er := by
  rw [← h.left, ← List.getElem_cons_drop (h := hk), rdAll, hf, hx]
set_option maxHeartbeats 2000000 in
theorem cReadAll_c (p : Int) (v : Value) (l : List UInt8) (w : World) (hb : BS w v l) (hl : l.length ≤ 100000000) :
    Calls Try.prog 15 #[.int .i64 p, v] w (ReadAllR p l w) := by
  have hrl := fieldsOf_len p
  have hrlt := fieldsOf_lt p
  have hP : readP p l = readP p l := rfl
  conv at hP => rhs; unfold readP
  obtain ⟨A0, c0, rfl, _⟩ := id hb
  go_enter Try.func15, Try.ntmps15
  go_wp2_with fail
  refine (fields_c p _).mono ?_
  rintro e w1 ⟨v1, rfl, hv, hg1⟩
  generalize hrow : fieldsOf p = row at *
  clear hrow
  obtain ⟨A, c, rfl, hvc⟩ := hv.shape row.length (by simp [natV])
  have g1 : w.grownBy w1 none := gb_trans (gb_alloc (gb_refl _ _) _) hg1
  have hb1 : BS w1 (.slice A0 l.length c0) l := hb.grown g1
  have hres : Blk w1 w.heap.size tArgs (zeroA 0).cells.toArray := (Blk.new w tArgs _).grown hg1 (by simp)
  clear hg1 hb
  by_cases h0 : row.length = 0
  · rw [if_pos h0] at hP
    have HP := hide hP
    have hT := hres.lt
    obtain ⟨e0, e1, e2, e3, e4, e5, e6, e7, e8, e9, e10, e11⟩ := Blk.args (a := zeroA 0) (u := .slice none 0 0) hres
    have f1 := hres.frozen
    have HR := hide hres
    clear hP hres hv hb1
    go_wp2_with fail
    refine post_put12 HR.out rfl fun w2 hb2 hg2 => ?_
    have d0 := hb2.cell 0
    have d1 := hb2.cell 1
    have d2 := hb2.cell 2
    have d3 := hb2.cell 3
    have d4 := hb2.cell 4
    have d5 := hb2.cell 5
    have d6 := hb2.cell 6
    have d7 := hb2.cell 7
    have d8 := hb2.cell 8
    have d9 := hb2.cell 9
    have d10 := hb2.cell 10
    have d11 := hb2.cell 11
    simp only [List.getElem?_toArray, List.getElem?_cons_zero, List.getElem?_cons_succ] at d0 d1 d2 d3 d4 d5 d6 d7 d8 d9 d10 d11
    refine bodyPost_ret (v := .tuple #[(zeroA 0).val, .int .i64 2]) (by simp [results, Try.results15, go_sem, d0, d1, d2, d3, d4, d5, d6, d7, d8, d9, d10, d11]; rfl) rfl ?_
    exact ReadAllR.err HP.out (by decide) (gb_new g1 hg2 (Nat.le_refl _))
  · rw [if_neg h0] at hP
    have hvc0 : row.length ≠ 0 := h0
    have HP := hide hP
    have hT := hres.lt
    clear hP
    go_wp2_with fail
    refine (read_c (.slice A0 l.length c0) l _ hb1 hl).mono ?_
    rintro e w2 ⟨R, rfl, hrd, hg2, hnR⟩
    replace hres := hres.grown hg2 (by simp)
    replace hv := hv.kept hg2 (fun _ h => by cases h)
    have g2 := gb_trans g1 hg2
    have hRl := hrd.lt
    have hT2 := hres.lt
    have HR := hide hres
    have HV := hide hv
    have HD := hide hrd
    clear hres hv hrd hb1 hg2
    go_wp2_with fail
    have hb3 : Blk (w2.alloc (.cells (zeroA p).cells.toArray tArgs)) w2.heap.size tArgs (zeroA p).cells.toArray := Blk.new w2 tArgs _
    have hg23 : w2.grownBy (w2.alloc (.cells (zeroA p).cells.toArray tArgs)) none := gb_alloc (gb_refl _ _) _
    have hI : RdI w p l R w2.heap.size w.heap.size (.slice A row.length c) row 0 (zeroA p) l (w2.alloc (.cells (zeroA p).cells.toArray tArgs)) :=
      ⟨HD.out.kept hg23 (fun _ h => by cases h), ⟨.slice none 0 0, hb3, BS.nil _⟩, HR.out.grown hg23 (by simp), HV.out.kept hg23 (fun _ h => by cases h), rfl, gb_trans g2 hg23, Nat.le_trans g1.size hnR, g2.size, by omega⟩
    clear hb3 hg23 HR HV HD hRl hT2 hT g2
    have hA0 : w.heap.size ≤ w2.heap.size := hI.nA
    generalize hAb0 : w2.heap.size = Ab at *
    generalize hT0 : w.heap.size = T at *
    go_loopw [25] (fun i wr => ∃ (k : Nat) (a' : AA) (l' : List UInt8), k ≤ row.length ∧ i = .int .i64 k ∧ RdI w p l R Ab T (.slice A row.length c) row k a' l' wr) (fun i _ => row.length - (intOf i).toNat)
    case atStart => exact ⟨0, _, _, Nat.zero_le _, rfl, hI⟩
    case round =>
      obtain ⟨k, a', l', hk, rfl, hI2⟩ := hrel
      by_cases hlt : k < row.length
      · have hkx : (natV row)[k]? = some (.int .i64 (row[k] : Int)) := by simp [natV, hlt]
        have hf9 : row[k] < 9 := hrlt _ (List.getElem_mem hlt)
        have hfe : row[k] = row[k] := rfl
        generalize hfd : row[k] = f at hkx hf9
        have Hfd := hide hfd
        clear hfd hfe
        obtain ⟨g, o, rfl, hcell⟩ := hI2.vs.at k _ hkx
        obtain ⟨u, hAb, hu⟩ := hI2.args
        go_wp2_with fail
        refine (cread_c R Ab f hf9 a' u l' wr hI2.rd hAb hu).mono ?_
        rintro e w4 ⟨hg4, h4⟩
        rcases hx : rdF f a' l' with er | ⟨a2, l2⟩
        · rw [hx] at h4
          obtain ⟨her, rfl⟩ := h4
          have hbad := hI2.bad hlt Hfd.out hx
          have hP := HP.out
          rw [hbad] at hP
          have HP2 := hide hP
          obtain ⟨vR, hRb, _⟩ := hI2.rd
          have hT4 := hI2.res.kept2 hg4 (Blk.ne hI2.res hRb (by decide)) hI2.ne
          have g4 := gb2.new hI2.g hg4 hI2.nR hI2.nA
          have hTl := hT4.lt
          obtain ⟨e0, e1, e2, e3, e4, e5, e6, e7, e8, e9, e10, e11⟩ := Blk.args (a := zeroA 0) (u := .slice none 0 0) hT4
          have f1 := hT4.frozen
          have HT4 := hide hT4
          clear hT4 hP HP hbad
          go_wp2_with fail
          refine post_put12 HT4.out rfl fun w5 hb2 hg5 => ?_
          have d0 := hb2.cell 0
          have d1 := hb2.cell 1
          have d2 := hb2.cell 2
          have d3 := hb2.cell 3
          have d4 := hb2.cell 4
          have d5 := hb2.cell 5
          have d6 := hb2.cell 6
          have d7 := hb2.cell 7
          have d8 := hb2.cell 8
          have d9 := hb2.cell 9
          have d10 := hb2.cell 10
          have d11 := hb2.cell 11
          simp only [List.getElem?_toArray, List.getElem?_cons_zero, List.getElem?_cons_succ] at d0 d1 d2 d3 d4 d5 d6 d7 d8 d9 d10 d11
          refine bodyPost_ret (v := .tuple #[(zeroA 0).val, .int .i64 er]) (by simp [results, Try.results15, go_sem, d0, d1, d2, d3, d4, d5, d6, d7, d8, d9, d10, d11]; rfl) rfl ?_
          exact ReadAllR.err HP2.out her (gb_new g4 hg5 (by omega))
        · rw [hx] at h4
          obtain ⟨rfl, hr4, u4, hb4, hs4⟩ := h4
          have hI4 := hI2.step hlt Hfd.out hx hg4 hr4 hb4 hs4
          go_wp2_with fail
          go_roundw
          case rel => exact ⟨k + 1, a2, l2, by omega, by go_num, hI4⟩
          case measure => simp [intOf]; omega
      · obtain rfl : k = row.length := by omega
        have hend := hI2.left
        rw [List.drop_length, rdAll] at hend
        have hP := HP.out
        rw [← hend] at hP
        simp only [] at hP
        clear hend HP
        go_wp2_with fail
        refine (rEnd_c R l' wr hI2.rd).mono ?_
        rintro e w4 ⟨rfl, rfl⟩
        have hT4 := hI2.res
        have hTl := hT4.lt
        obtain ⟨e0, e1, e2, e3, e4, e5, e6, e7, e8, e9, e10, e11⟩ := Blk.args (a := zeroA 0) (u := .slice none 0 0) hT4
        have f1 := hT4.frozen
        have HT4 := hide hT4
        by_cases hz : l'.length = 0
        · rw [if_pos hz] at hP
          have HP2 := hide hP
          have he : endE l' = 0 := by unfold endE; rw [if_pos hz]
          rw [he]
          obtain ⟨u, hAb, hu⟩ := hI2.args
          obtain ⟨Au, cu, rfl, _⟩ := id hu
          obtain ⟨b0, b1, b2, b3, b4, b5, b6, b7, b8, b9, b10, b11⟩ := Blk.args hAb
          have HAb := hide hAb
          have HU := hide hu
          have HI := hide hI2
          clear hT4 hP hAb hu hI2
          go_wp2_with fail
          refine post_put12 HT4.out rfl fun w5 hb2 hg5 => ?_
          have d0 := hb2.cell 0
          have d1 := hb2.cell 1
          have d2 := hb2.cell 2
          have d3 := hb2.cell 3
          have d4 := hb2.cell 4
          have d5 := hb2.cell 5
          have d6 := hb2.cell 6
          have d7 := hb2.cell 7
          have d8 := hb2.cell 8
          have d9 := hb2.cell 9
          have d10 := hb2.cell 10
          have d11 := hb2.cell 11
          simp only [List.getElem?_toArray, List.getElem?_cons_zero, List.getElem?_cons_succ] at d0 d1 d2 d3 d4 d5 d6 d7 d8 d9 d10 d11
          refine bodyPost_ret (v := .tuple #[(a'.at (.slice Au a'.dl.length cu)).val, .int .i64 0]) (by simp [results, Try.results15, go_sem, d0, d1, d2, d3, d4, d5, d6, d7, d8, d9, d10, d11]; rfl) rfl ?_
          exact ReadAllR.ok HP2.out (gb_new HI.out.g hg5 (by omega)) (HU.out.kept hg5 (fun k hk => by cases hk; exact ⟨_, _, HT4.out, by decide⟩))
        · rw [if_neg hz] at hP
          have HP2 := hide hP
          have he : endE l' = 2 := by unfold endE; rw [if_neg hz]
          rw [he]
          have HI := hide hI2
          clear hT4 hP hI2
          go_wp2_with fail
          refine post_put12 HT4.out rfl fun w5 hb2 hg5 => ?_
          have d0 := hb2.cell 0
          have d1 := hb2.cell 1
          have d2 := hb2.cell 2
          have d3 := hb2.cell 3
          have d4 := hb2.cell 4
          have d5 := hb2.cell 5
          have d6 := hb2.cell 6
          have d7 := hb2.cell 7
          have d8 := hb2.cell 8
          have d9 := hb2.cell 9
          have d10 := hb2.cell 10
          have d11 := hb2.cell 11
          simp only [List.getElem?_toArray, List.getElem?_cons_zero, List.getElem?_cons_succ] at d0 d1 d2 d3 d4 d5 d6 d7 d8 d9 d10 d11
          refine bodyPost_ret (v := .tuple #[(zeroA 0).val, .int .i64 2]) (by simp [results, Try.results15, go_sem, d0, d1, d2, d3, d4, d5, d6, d7, d8, d9, d10, d11]; rfl) rfl ?_
          exact ReadAllR.err HP2.out (by decide) (gb_new HI.out.g hg5 (by omega))
end Go.Tr
