/- The document's Read. No condition. Printed by gen_rread.py. -/
import Derived.Test.YtblbihodpjfcbaaFields
import Derived.Test.YtblbihodpjfcbaaCread3
import Derived.Test.YtblbihodpjfcbaaRef2
import Derived.Deep.CutBlock
namespace Go.Tr
open Go.RowKit Go.Proofs
set_option linter.unusedVariables false

theorem rdN_err' {n i : Nat} {l : List UInt8} (hi : i ≤ l.length) (h : l.length < i + n) : rdN n (l.drop i) = .error 3 := by
  unfold rdN
  rw [if_pos (by rw [List.length_drop]; omega)]
theorem rdN_ok' {n i : Nat} {l : List UInt8} (h : ¬ l.length < i + n) : rdN n (l.drop i) = .ok (beN ((l.drop i).take n), l.drop (i + n)) := by
  unfold rdN
  rw [if_neg (by rw [List.length_drop]; omega), List.drop_drop]
structure RfI (w : World) (p : Int) (l : List UInt8) (F Ab T : Nat) (v : Value) (row : List Nat) (k : Nat) (a : AA) (i : Nat) (wr : World) : Prop where
  rf : Rf wr F v l i 0
  args : ∃ u, Blk wr Ab tArgs (a.at u).cells.toArray ∧ BS wr u a.dl
  res : Blk wr T tArgs (zeroA 0).cells.toArray
  left : rdAll (row.drop k) a (l.drop i) = rdAll row (zeroA p) l
  g : w.grownBy wr none
  nF : w.heap.size ≤ F
  nA : w.heap.size ≤ Ab
  ne : T ≠ Ab
/-- behind a field -/
def FldR (F Ab : Nat) (v : Value) (l : List UInt8) (f : Nat) (a : AA) (i : Nat) (wr wx : World) : Prop :=
  gb2 wr wx F Ab ∧ ∃ (a2 : AA) (i2 : Nat) (e2 : Int), Rf wx F v l i2 e2 ∧ (∃ u, Blk wx Ab tArgs (a2.at u).cells.toArray ∧ BS wx u a2.dl) ∧
    ((e2 = 0 ∧ rdF f a (l.drop i) = .ok (a2, l.drop i2)) ∨ (e2 ≠ 0 ∧ rdF f a (l.drop i) = .error e2))
theorem Rf.setA {w : World} {F g : Nat} {v : Value} {l : List UInt8} {i : Nat} {e : Int} {cs : Array Value} (h : Rf w F v l i e) (hb : Blk w g tArgs cs) (u : Value) (j : Nat) : Rf (w.setCell ⟨g, j, none⟩ u) F v l i e :=
  h.kept (gb_set (gb_refl w (some g)) _ _) fun k hk => by cases hk; exact ⟨_, _, hb, by decide, by decide⟩
theorem post_put12d {P : Program} {f : Func} {Q : Ending → World → Prop} {act : Act} {w : World} {T : Nat} {cs : Array Value} {v0 v1 v2 v3 v4 v5 v6 v7 v8 v9 v10 v11 : Value} (hb : Blk w T tArgs cs) (hcs : cs.size = 12)
    (h : ∀ w2, Blk w2 T tArgs #[v0, v1, v2, v3, v4, v5, v6, v7, v8, v9, v10, v11] → w.grownBy w2 (some T) → bodyPost P f Q .ret act w2) : bodyPost P f Q .ret act (World.drew ((((((((((((w.setCell ⟨T, 0, none⟩ v0).setCell ⟨T, 1, none⟩ v1).setCell ⟨T, 2, none⟩ v2).setCell ⟨T, 3, none⟩ v3).setCell ⟨T, 4, none⟩ v4).setCell ⟨T, 5, none⟩ v5).setCell ⟨T, 6, none⟩ v6).setCell ⟨T, 7, none⟩ v7).setCell ⟨T, 8, none⟩ v8).setCell ⟨T, 9, none⟩ v9).setCell ⟨T, 10, none⟩ v10).setCell ⟨T, 11, none⟩ v11)) :=
  h _ (put12 v0 v1 v2 v3 v4 v5 v6 v7 v8 v9 v10 v11 hb hcs).1.drew (gb_drew (put12 v0 v1 v2 v3 v4 v5 v6 v7 v8 v9 v10 v11 hb hcs).2)
theorem keptF {w w' : World} {F T : Nat} {x : Value} (hg : w.grownBy w' (some T)) (hne : F ≠ T) (hF : F < w.heap.size) (hc : w.cell? ⟨F, 2, none⟩ = some x) : F < w'.heap.size ∧ w'.cell? ⟨F, 2, none⟩ = some x :=
  ⟨Nat.lt_of_lt_of_le hF hg.size, (World.cell?_of_block (w := w) (hg.block F hF (by simpa using hne))).trans hc⟩
theorem FldR.ok {F Ab f i i2 : Nat} {v : Value} {l : List UInt8} {a a2 : AA} {wr wx : World} {u : Value} (hg : gb2 wr wx F Ab) (hr : Rf wx F v l i2 0) (hb : Blk wx Ab tArgs (a2.at u).cells.toArray) (hs : BS wx u a2.dl) (h : rdF f a (l.drop i) = .ok (a2, l.drop i2)) : FldR F Ab v l f a i wr wx :=
  ⟨hg, a2, i2, 0, hr, ⟨u, hb, hs⟩, Or.inl ⟨rfl, h⟩⟩
theorem FldR.err {F Ab f i i2 : Nat} {v : Value} {l : List UInt8} {a a2 : AA} {wr wx : World} {u : Value} {e2 : Int} (he : e2 ≠ 0) (hg : gb2 wr wx F Ab) (hr : Rf wx F v l i2 e2) (hb : Blk wx Ab tArgs (a2.at u).cells.toArray) (hs : BS wx u a2.dl) (h : rdF f a (l.drop i) = .error e2) : FldR F Ab v l f a i wr wx :=
  ⟨hg, a2, i2, e2, hr, ⟨u, hb, hs⟩, Or.inr ⟨he, h⟩⟩
theorem RfI.step {w : World} {p : Int} {l : List UInt8} {F Ab T : Nat} {v : Value} {row : List Nat} {k f : Nat} {a a' : AA} {i i2 : Nat} {wr w' : World} {u' : Value} (h : RfI w p l F Ab T v row k a i wr) (hk : k < row.length) (hf : row[k] = f) (hx : rdF f a (l.drop i) = .ok (a', l.drop i2))
    (hg : gb2 wr w' F Ab) (hr : Rf w' F v l i2 0) (hb : Blk w' Ab tArgs (a'.at u').cells.toArray) (hs : BS w' u' a'.dl) : RfI w p l F Ab T v row (k + 1) a' i2 w' := by
  refine ⟨hr, ⟨u', hb, hs⟩, h.res.kept2 hg (Blk.ne h.res h.rf.blk (by decide)) h.ne, ?_, gb2.new h.g hg h.nF h.nA, h.nF, h.nA, h.ne⟩
  rw [← h.left]
  conv => rhs; rw [← List.getElem_cons_drop (h := hk)]
  rw [rdAll, hf, hx]
theorem RfI.bad {w : World} {p : Int} {l : List UInt8} {F Ab T : Nat} {v : Value} {row : List Nat} {k f : Nat} {a : AA} {i : Nat} {wr : World} {er : Int} (h : RfI w p l F Ab T v row k a i wr) (hk : k < row.length) (hf : row[k] = f) (hx : rdF f a (l.drop i) = .error er) : rdAll row (zeroA p) l = .error er := by
  rw [← h.left, ← List.getElem_cons_drop (h := hk), rdAll, hf, hx]
set_option maxRecDepth 20000 in
set_option maxHeartbeats 4000000 in
theorem rReadAll_c (p : Int) (v : Value) (l : List UInt8) (w : World) (hb : BS w v l) (hl : l.length ≤ 100000000) :
    Calls Try.prog 16 #[.int .i64 p, v] w (ReadAllR p l w) := by
  have hrl := fieldsOf_len p
  have hrlt := fieldsOf_lt p
  have hP : readP p l = readP p l := rfl
  conv at hP => rhs; unfold readP
  obtain ⟨A0, c0, rfl, _⟩ := id hb
  go_enter Try.func16, Try.ntmps16
  go_wp2_with fail
  refine (Fields_c p _).mono ?_
  rintro e w1 ⟨rfl, hg1⟩
  have hls := letS_size p
  have hsi : ∀ k (h : k < (fieldsOf p).length), (letS p).data[k]? = some (letterOf ((fieldsOf p)[k])) := by
    intro k h
    show ((fieldsOf p).map letterOf).toArray[k]? = _
    simp [h]
  have hse : (fieldsOf p).length = 0 → letS p = ⟨#[]⟩ := by
    intro h
    unfold letS
    rw [List.eq_nil_of_length_eq_zero h]
    rfl
  generalize letS p = s at *
  generalize hrow : fieldsOf p = row at *
  clear hrow
  have g1 : w.grownBy w1 none := gb_trans (gb_alloc (gb_refl _ _) _) hg1
  have hb1 : BS w1 (.slice A0 l.length c0) l := hb.grown g1
  have hres : Blk w1 w.heap.size tArgs (zeroA 0).cells.toArray := (Blk.new w tArgs _).grown hg1 (by simp)
  clear hg1 hb
  by_cases h0 : row.length = 0
  · rw [if_pos h0] at hP
    have hs0 := hse h0
    subst hs0
    have HP := hide hP
    have hT := hres.lt
    obtain ⟨e0, e1, e2, e3, e4, e5, e6, e7, e8, e9, e10, e11⟩ := Blk.args (a := zeroA 0) (u := .slice none 0 0) hres
    have f1 := hres.frozen
    have HR := hide hres
    clear hP hres hb1 hsi hse
    go_wp2_with fail
    refine post_put12 HR.out rfl fun w2 hb2 hg2 => ?_
    have d0 := hb2.cell 0
    have d1 := hb2.cell 1
    have d2 := hb2.cell 2
    have d3 := hb2.cell 3
    have d4 := hb2.cell 4
    have d5 := hb2.cell 5
    have d6 := hb2.cell 6
    have d7 := hb2.cell 7
    have d8 := hb2.cell 8
    have d9 := hb2.cell 9
    have d10 := hb2.cell 10
    have d11 := hb2.cell 11
    simp only [List.getElem?_toArray, List.getElem?_cons_zero, List.getElem?_cons_succ] at d0 d1 d2 d3 d4 d5 d6 d7 d8 d9 d10 d11
    refine bodyPost_ret (v := .tuple #[(zeroA 0).val, .int .i64 2]) (by simp [results, Try.results16, go_sem, d0, d1, d2, d3, d4, d5, d6, d7, d8, d9, d10, d11]; rfl) rfl ?_
    exact ReadAllR.err HP.out (by decide) (gb_new g1 hg2 (Nat.le_refl _))
  · rw [if_neg h0] at hP
    have HP := hide hP
    have hsne : ¬ s.size = 0 := by omega
    have hsne2 : s.toList.isEmpty = false := by
      rw [ByteArray.toList_eq]
      cases hq : s.data.toList with
      | nil => exact absurd (by show s.data.size = 0; rw [← Array.length_toList, hq]; rfl) hsne
      | cons x t => rfl
    have Hsi := hide hsi
    have Hls := hide hls
    have hb3 : Blk ((w1.alloc (.cells #[.slice A0 l.length c0, .int .i64 0, .int .i64 0] tRf)).alloc (.cells (zeroA p).cells.toArray tArgs)) (w1.heap.size + 1) tArgs (zeroA p).cells.toArray := by
      have := Blk.new (w1.alloc (.cells #[.slice A0 l.length c0, .int .i64 0, .int .i64 0] tRf)) tArgs (zeroA p).cells.toArray
      simpa using this
    have hg23 : w1.grownBy ((w1.alloc (.cells #[.slice A0 l.length c0, .int .i64 0, .int .i64 0] tRf)).alloc (.cells (zeroA p).cells.toArray tArgs)) none := gb_alloc (gb_alloc (gb_refl _ _) _) _
    have hres1 := hres.lt
    have hI : RfI w p l w1.heap.size (w1.heap.size + 1) w.heap.size (.slice A0 l.length c0) row 0 (zeroA p) 0 ((w1.alloc (.cells #[.slice A0 l.length c0, .int .i64 0, .int .i64 0] tRf)).alloc (.cells (zeroA p).cells.toArray tArgs)) :=
      ⟨⟨(Blk.new w1 tRf _).alloc _, hb1.grown hg23, Nat.zero_le _, hl⟩, ⟨.slice none 0 0, hb3, BS.nil _⟩, hres.grown hg23 (by simp), rfl, gb_trans g1 hg23, g1.size, by have := g1.size; omega, by omega⟩
    clear hP hse hsi hls hb3 hg23 hb1 hres hsne h0 hres1
    go_wp2_with fail
    clear hsne2
    generalize hF0 : w1.heap.size = F at *
    generalize hAb0 : F + 1 = Ab at *
    generalize hT0 : w.heap.size = T at *
    clear hF0 hAb0 g1
    go_loopw [9] (fun i wr => ∃ (k : Nat) (a' : AA) (j : Nat), k ≤ row.length ∧ i = .int .i64 k ∧ RfI w p l F Ab T (.slice A0 l.length c0) row k a' j wr) (fun i _ => row.length - (intOf i).toNat)
    case atStart => exact ⟨0, _, _, Nat.zero_le _, rfl, hI⟩
    case round =>
      clear hI
      obtain ⟨k, a', j, hk, rfl, hI2⟩ := hrel
      have hls := Hls.out
      by_cases hlt : k < row.length
      · have hlts : k < s.size := by omega
        have hidx := Hsi.out k hlt
        have hf9 : row[k] < 9 := hrlt _ (List.getElem_mem hlt)
        generalize hfd : row[k] = f at hidx hf9
        have Hfd := hide hfd
        clear hfd hls
        have hlet : (s[k]'hlts).toNat = (letterOf f).toNat := by
          have h1 : s.data[k]? = some (s[k]'hlts) := Array.getElem?_eq_getElem hlts
          rw [hidx] at h1
          injection h1 with h1
          rw [← h1]
        clear hidx
        obtain ⟨u, hAb, hu⟩ := hI2.args
        have hrf := hI2.rf
        have hle := hrf.le
        have hne : Ab ≠ F := Blk.ne hAb hrf.blk (by decide)
        have hns : (some Ab : Option Nat) ≠ some F := by simpa using hne
        have hkF : ∀ k, some F = some k → ∃ t cs, Blk wr k t cs ∧ t ≠ tU8 := fun k hk => by cases hk; exact ⟨_, _, hrf.blk, by decide⟩
        have HAb := hide hAb
        have HU := hide hu
        have HRF := hide hrf
        have HI := hide hI2
        have HkF := hide hkF
        clear hI2 hAb hu hrf hkF
        go_upto_block 2 with fail
        go_cut [10] from 21 to 106 (fun x wx => FldR F Ab (.slice A0 l.length c0) l f a' j wr wx)
        case first =>
          rcases lt9 hf9 with rfl | rfl | rfl | rfl | rfl | rfl | rfl | rfl | rfl
          · have hl2 : (s[k]'hlts).toNat = 104 := hlet.trans (by decide)
            clear hlet
            go_wp2_with fail
            refine (fU32_c F _ l j wr HRF.out).mono ?_
            rintro e w4 ⟨hg4, h4⟩
            have b1 := HAb.out.grown hg4 hns
            have s1 := HU.out.kept hg4 HkF.out
            have hAl := b1.lt
            obtain ⟨c0, c1, c2, c3, c4, c5, c6, c7, c8, c9, c10, c11⟩ := Blk.args (a := a') (u := u) b1
            have f1 := b1.frozen
            have B1 := hide b1
            have S1 := hide s1
            clear b1 s1
            by_cases hs : l.length < j + 4
            · simp only [if_pos hs] at h4
              obtain ⟨rfl, h4⟩ := h4
              have H4 := hide h4
              clear h4
              go_wp2_with fail
              refine (fU32_bad_c F _ l j 3 (by decide) _ (H4.out.setA B1.out _ _)).mono ?_
              rintro e w5 ⟨rfl, rfl⟩
              go_wp2_with fail
              go_meet
              exact FldR.err (a2 := { a' with hi := 0, hg := 0 }) (u := u) (by decide) (gb2.trans (gb2.left hg4) (gb2.right (gb_set (gb_set (gb_refl _ _) _ _) _ _))) ((H4.out.setA B1.out _ _).setA (B1.out.set _ _) _ _) ((B1.out.set 5 _).set 6 _) (BS.set (BS.set S1.out B1.out (by decide) _ _) (B1.out.set _ _) (by decide) _ _) (by unfold rdF rdH; simp only [rdN_err' hle hs])
            · simp only [if_neg hs] at h4
              have hx := rdN_ok' hs
              generalize beN ((l.drop j).take 4) = x at h4 hx
              have hxl := rdN4_lt hx
              obtain ⟨rfl, h4⟩ := h4
              have H4 := hide h4
              have HX := hide hx
              clear h4 hx
              go_wp2_with fail
              have H5 := H4.out.setA B1.out (.int .i64 x) 5
              have B5 : Blk (w4.setCell ⟨Ab, 5, none⟩ (.int .i64 x)) Ab tArgs (({ a' with hi := x } : AA).at u).cells.toArray := B1.out.set 5 _
              have S5 := BS.set S1.out B1.out (by decide) 5 (.int .i64 x)
              have G5 : gb2 wr (w4.setCell ⟨Ab, 5, none⟩ (.int .i64 x)) F Ab := gb2.trans (gb2.left hg4) (gb2.right (gb_set (gb_refl _ _) _ _))
              clear hAl c0 c1 c2 c3 c4 c5 c6 c7 c8 c9 c10 c11 f1
              generalize w4.setCell ⟨Ab, 5, none⟩ (.int .i64 x) = wm at *
              refine (fU32_c F _ l (j + 4) _ H5).mono ?_
              rintro e w5 ⟨hg5, h5⟩
              have hkF5 : ∀ k, some F = some k → ∃ t cs, Blk wm k t cs ∧ t ≠ tU8 := fun k hk => by cases hk; exact ⟨_, _, H5.blk, by decide⟩
              have b1 := B5.grown hg5 hns
              have s1 := S5.kept hg5 hkF5
              clear hkF5 H5 B5 S5 S1 B1
              have hAl := b1.lt
              obtain ⟨c0, c1, c2, c3, c4, c5, c6, c7, c8, c9, c10, c11⟩ := Blk.args (a := { a' with hi := x }) (u := u) b1
              have f1 := b1.frozen
              have B1 := hide b1
              have S1 := hide s1
              clear b1 s1
              by_cases hs5 : l.length < j + 4 + 4
              · simp only [if_pos hs5] at h5
                obtain ⟨rfl, h5⟩ := h5
                have H6 := hide h5
                clear h5
                go_wp2_with fail
                go_meet
                exact FldR.err (a2 := { a' with hi := x, hg := 0 }) (u := u) (by decide) (gb2.trans G5 (gb2.trans (gb2.left hg5) (gb2.right (gb_set (gb_refl _ _) _ _)))) (H6.out.setA B1.out _ _) (B1.out.set 6 _) (BS.set S1.out B1.out (by decide) _ _) (by unfold rdF rdH; simp only [HX.out, rdN_err' (by omega) hs5])
              · simp only [if_neg hs5] at h5
                have hy := rdN_ok' hs5
                generalize beN ((l.drop (j + 4)).take 4) = y at h5 hy
                have hyl := rdN4_lt hy
                obtain ⟨rfl, h5⟩ := h5
                have H6 := hide h5
                have HY := hide hy
                clear h5 hy
                go_wp2_with fail
                go_meet
                exact FldR.ok (a2 := { a' with hi := x, hg := y }) (u := u) (gb2.trans G5 (gb2.trans (gb2.left hg5) (gb2.right (gb_set (gb_refl _ _) _ _)))) (H6.out.setA B1.out _ _) (B1.out.set 6 _) (BS.set S1.out B1.out (by decide) _ _) (by unfold rdF rdH; simp only [HX.out, HY.out])
          · have hl2 : (s[k]'hlts).toNat = 105 := hlet.trans (by decide)
            clear hlet
            go_wp2_with fail
            refine (fU32_c F _ l j wr HRF.out).mono ?_
            rintro e w4 ⟨hg4, h4⟩
            have b1 := HAb.out.grown hg4 hns
            have s1 := HU.out.kept hg4 HkF.out
            have hAl := b1.lt
            obtain ⟨c0, c1, c2, c3, c4, c5, c6, c7, c8, c9, c10, c11⟩ := Blk.args (a := a') (u := u) b1
            have f1 := b1.frozen
            have B1 := hide b1
            have S1 := hide s1
            clear b1 s1
            by_cases hs : l.length < j + 4
            · simp only [if_pos hs] at h4
              obtain ⟨rfl, h4⟩ := h4
              have H4 := hide h4
              clear h4
              go_wp2_with fail
              refine (fU32_bad_c F _ l j 3 (by decide) _ (H4.out.setA B1.out _ _)).mono ?_
              rintro e w5 ⟨rfl, rfl⟩
              go_wp2_with fail
              go_meet
              exact FldR.err (a2 := { a' with ji := 0, jg := 0 }) (u := u) (by decide) (gb2.trans (gb2.left hg4) (gb2.right (gb_set (gb_set (gb_refl _ _) _ _) _ _))) ((H4.out.setA B1.out _ _).setA (B1.out.set _ _) _ _) ((B1.out.set 7 _).set 8 _) (BS.set (BS.set S1.out B1.out (by decide) _ _) (B1.out.set _ _) (by decide) _ _) (by unfold rdF rdH; simp only [rdN_err' hle hs])
            · simp only [if_neg hs] at h4
              have hx := rdN_ok' hs
              generalize beN ((l.drop j).take 4) = x at h4 hx
              have hxl := rdN4_lt hx
              obtain ⟨rfl, h4⟩ := h4
              have H4 := hide h4
              have HX := hide hx
              clear h4 hx
              go_wp2_with fail
              have H5 := H4.out.setA B1.out (.int .i64 x) 7
              have B5 : Blk (w4.setCell ⟨Ab, 7, none⟩ (.int .i64 x)) Ab tArgs (({ a' with ji := x } : AA).at u).cells.toArray := B1.out.set 7 _
              have S5 := BS.set S1.out B1.out (by decide) 7 (.int .i64 x)
              have G5 : gb2 wr (w4.setCell ⟨Ab, 7, none⟩ (.int .i64 x)) F Ab := gb2.trans (gb2.left hg4) (gb2.right (gb_set (gb_refl _ _) _ _))
              clear hAl c0 c1 c2 c3 c4 c5 c6 c7 c8 c9 c10 c11 f1
              generalize w4.setCell ⟨Ab, 7, none⟩ (.int .i64 x) = wm at *
              refine (fU32_c F _ l (j + 4) _ H5).mono ?_
              rintro e w5 ⟨hg5, h5⟩
              have hkF5 : ∀ k, some F = some k → ∃ t cs, Blk wm k t cs ∧ t ≠ tU8 := fun k hk => by cases hk; exact ⟨_, _, H5.blk, by decide⟩
              have b1 := B5.grown hg5 hns
              have s1 := S5.kept hg5 hkF5
              clear hkF5 H5 B5 S5 S1 B1
              have hAl := b1.lt
              obtain ⟨c0, c1, c2, c3, c4, c5, c6, c7, c8, c9, c10, c11⟩ := Blk.args (a := { a' with ji := x }) (u := u) b1
              have f1 := b1.frozen
              have B1 := hide b1
              have S1 := hide s1
              clear b1 s1
              by_cases hs5 : l.length < j + 4 + 4
              · simp only [if_pos hs5] at h5
                obtain ⟨rfl, h5⟩ := h5
                have H6 := hide h5
                clear h5
                go_wp2_with fail
                go_meet
                exact FldR.err (a2 := { a' with ji := x, jg := 0 }) (u := u) (by decide) (gb2.trans G5 (gb2.trans (gb2.left hg5) (gb2.right (gb_set (gb_refl _ _) _ _)))) (H6.out.setA B1.out _ _) (B1.out.set 8 _) (BS.set S1.out B1.out (by decide) _ _) (by unfold rdF rdH; simp only [HX.out, rdN_err' (by omega) hs5])
              · simp only [if_neg hs5] at h5
                have hy := rdN_ok' hs5
                generalize beN ((l.drop (j + 4)).take 4) = y at h5 hy
                have hyl := rdN4_lt hy
                obtain ⟨rfl, h5⟩ := h5
                have H6 := hide h5
                have HY := hide hy
                clear h5 hy
                go_wp2_with fail
                go_meet
                exact FldR.ok (a2 := { a' with ji := x, jg := y }) (u := u) (gb2.trans G5 (gb2.trans (gb2.left hg5) (gb2.right (gb_set (gb_refl _ _) _ _)))) (H6.out.setA B1.out _ _) (B1.out.set 8 _) (BS.set S1.out B1.out (by decide) _ _) (by unfold rdF rdH; simp only [HX.out, HY.out])
          · have hl2 : (s[k]'hlts).toNat = 110 := hlet.trans (by decide)
            clear hlet
            go_wp2_with fail
            refine (fText_c F 64 (by omega) _ l j wr HRF.out).mono ?_
            rintro e w4 ⟨hg4, h4⟩
            have b1 := HAb.out.grown hg4 hns
            have s1 := HU.out.kept hg4 HkF.out
            have hAl := b1.lt
            obtain ⟨c0, c1, c2, c3, c4, c5, c6, c7, c8, c9, c10, c11⟩ := Blk.args (a := a') (u := u) b1
            have f1 := b1.frozen
            have B1 := hide b1
            have S1 := hide s1
            clear b1 s1
            rcases hx : rdText 64 (l.drop j) with er | ⟨d, l1⟩
            · rw [hx] at h4
              obtain ⟨rfl, i2, h4⟩ := h4
              have her : er ≠ 0 := by rcases rdText_err hx with h | h | h <;> omega
              have hback := run_convback w4 none 0 0 [] (BS.nil _)
              have H4 := hide h4
              have HX := hide hx
              clear h4 hx
              go_wp2_with fail
              go_meet
              exact FldR.err (a2 := { a' with name := ⟨#[]⟩ }) (u := u) her (gb2.trans (gb2.left hg4) (gb2.right (gb_set (gb_refl _ _) _ _))) (H4.out.setA B1.out _ _) (B1.out.set 9 _) (BS.set S1.out B1.out (by decide) _ _) (by unfold rdF; simp only [HX.out])
            · rw [hx] at h4
              obtain ⟨v4, rfl, hv4, i2, rfl, h4⟩ := h4
              obtain ⟨Av, cv, rfl, _⟩ := id hv4
              have hback := run_convback w4 _ _ _ d hv4
              have H4 := hide h4
              have HX := hide hx
              have V4 := hide hv4
              clear h4 hx hv4
              go_wp2_with fail
              go_meet
              exact FldR.ok (a2 := { a' with name := ⟨d.toArray⟩ }) (u := u) (gb2.trans (gb2.left hg4) (gb2.right (gb_set (gb_refl _ _) _ _))) (H4.out.setA B1.out _ _) (B1.out.set 9 _) (BS.set S1.out B1.out (by decide) _ _) (by unfold rdF; simp only [HX.out])
          · have hl2 : (s[k]'hlts).toNat = 106 := hlet.trans (by decide)
            clear hlet
            go_wp2_with fail
            refine (fText_c F 64 (by omega) _ l j wr HRF.out).mono ?_
            rintro e w4 ⟨hg4, h4⟩
            have b1 := HAb.out.grown hg4 hns
            have s1 := HU.out.kept hg4 HkF.out
            have hAl := b1.lt
            obtain ⟨c0, c1, c2, c3, c4, c5, c6, c7, c8, c9, c10, c11⟩ := Blk.args (a := a') (u := u) b1
            have f1 := b1.frozen
            have B1 := hide b1
            have S1 := hide s1
            clear b1 s1
            rcases hx : rdText 64 (l.drop j) with er | ⟨d, l1⟩
            · rw [hx] at h4
              obtain ⟨rfl, i2, h4⟩ := h4
              have her : er ≠ 0 := by rcases rdText_err hx with h | h | h <;> omega
              have hback := run_convback w4 none 0 0 [] (BS.nil _)
              have H4 := hide h4
              have HX := hide hx
              clear h4 hx
              go_wp2_with fail
              go_meet
              exact FldR.err (a2 := { a' with name2 := ⟨#[]⟩ }) (u := u) her (gb2.trans (gb2.left hg4) (gb2.right (gb_set (gb_refl _ _) _ _))) (H4.out.setA B1.out _ _) (B1.out.set 10 _) (BS.set S1.out B1.out (by decide) _ _) (by unfold rdF; simp only [HX.out])
            · rw [hx] at h4
              obtain ⟨v4, rfl, hv4, i2, rfl, h4⟩ := h4
              obtain ⟨Av, cv, rfl, _⟩ := id hv4
              have hback := run_convback w4 _ _ _ d hv4
              have H4 := hide h4
              have HX := hide hx
              have V4 := hide hv4
              clear h4 hx hv4
              go_wp2_with fail
              go_meet
              exact FldR.ok (a2 := { a' with name2 := ⟨d.toArray⟩ }) (u := u) (gb2.trans (gb2.left hg4) (gb2.right (gb_set (gb_refl _ _) _ _))) (H4.out.setA B1.out _ _) (B1.out.set 10 _) (BS.set S1.out B1.out (by decide) _ _) (by unfold rdF; simp only [HX.out])
          · have hl2 : (s[k]'hlts).toNat = 111 := hlet.trans (by decide)
            clear hlet
            go_wp2_with fail
            refine (fU64_c F _ l j wr HRF.out).mono ?_
            rintro e w4 ⟨hg4, h4⟩
            have b1 := HAb.out.grown hg4 hns
            have s1 := HU.out.kept hg4 HkF.out
            have hT4 := HI.out.res.grown hg4 (by simpa using Blk.ne HI.out.res HRF.out.blk (by decide))
            have hAl := b1.lt
            obtain ⟨c0, c1, c2, c3, c4, c5, c6, c7, c8, c9, c10, c11⟩ := Blk.args (a := a') (u := u) b1
            have f1 := b1.frozen
            have B1 := hide b1
            have S1 := hide s1
            clear b1 s1
            by_cases hs : l.length < j + 8
            · simp only [if_pos hs] at h4
              obtain ⟨rfl, h4⟩ := h4
              have H4 := hide h4
              clear h4 hT4
              go_wp2_with fail
              go_meet
              exact FldR.err (a2 := { a' with off := 0 }) (u := u) (by decide) (gb2.trans (gb2.left hg4) (gb2.right (gb_set (gb_refl _ _) _ _))) (H4.out.setA B1.out _ _) (B1.out.set 1 _) (BS.set S1.out B1.out (by decide) _ _) (by unfold rdF; simp only [rdN_err' hle hs])
            · simp only [if_neg hs] at h4
              have hx := rdN_ok' hs
              generalize beN ((l.drop j).take 8) = x at h4 hx
              have hxl := rdN8_lt hx
              obtain ⟨rfl, h4⟩ := h4
              by_cases hbig : 4611686018427387904 < x
              · have hF : rdF 4 a' (l.drop j) = .error 4 := by unfold rdF; simp only [hx, if_pos hbig]
                have hbad := HI.out.bad hlt Hfd.out hF
                have hP := HP.out
                rw [hbad] at hP
                have HP2 := hide hP
                have g4 := gb2.new HI.out.g (gb2.left hg4) HI.out.nF HI.out.nA
                clear hP HP hbad hF h4 hx c0 c1 c2 c3 c4 c5 c6 c7 c8 c9 c10 c11 f1
                have hTl := hT4.lt
                obtain ⟨e0, e1, e2, e3, e4, e5, e6, e7, e8, e9, e10, e11⟩ := Blk.args (a := zeroA 0) (u := .slice none 0 0) hT4
                have fT := hT4.frozen
                have HT4 := hide hT4
                clear hT4
                go_wp2_with fail
                refine post_put12 HT4.out rfl fun w5 hb2 hg5 => ?_
                have d0 := hb2.cell 0
                have d1 := hb2.cell 1
                have d2 := hb2.cell 2
                have d3 := hb2.cell 3
                have d4 := hb2.cell 4
                have d5 := hb2.cell 5
                have d6 := hb2.cell 6
                have d7 := hb2.cell 7
                have d8 := hb2.cell 8
                have d9 := hb2.cell 9
                have d10 := hb2.cell 10
                have d11 := hb2.cell 11
                simp only [List.getElem?_toArray, List.getElem?_cons_zero, List.getElem?_cons_succ] at d0 d1 d2 d3 d4 d5 d6 d7 d8 d9 d10 d11
                refine bodyPost_ret (v := .tuple #[(zeroA 0).val, .int .i64 4]) (by simp [results, Try.results16, go_sem, d0, d1, d2, d3, d4, d5, d6, d7, d8, d9, d10, d11]; rfl) rfl ?_
                exact ReadAllR.err HP2.out (by decide) (gb_new g4 hg5 (by omega))
              · have hF : rdF 4 a' (l.drop j) = .ok ({ a' with off := x }, l.drop (j + 8)) := by unfold rdF; simp only [hx, if_neg hbig]
                have H4 := hide h4
                have HX := hide hF
                clear h4 hx hF hT4
                go_wp2_with fail
                go_meet
                exact FldR.ok (a2 := { a' with off := x }) (u := u) (gb2.trans (gb2.left hg4) (gb2.right (gb_set (gb_refl _ _) _ _))) (H4.out.setA B1.out _ _) (B1.out.set 1 _) (BS.set S1.out B1.out (by decide) _ _) HX.out
          · have hl2 : (s[k]'hlts).toNat = 99 := hlet.trans (by decide)
            clear hlet
            go_wp2_with fail
            refine (fU32_c F _ l j wr HRF.out).mono ?_
            rintro e w4 ⟨hg4, h4⟩
            have b1 := HAb.out.grown hg4 hns
            have s1 := HU.out.kept hg4 HkF.out
            have hAl := b1.lt
            obtain ⟨c0, c1, c2, c3, c4, c5, c6, c7, c8, c9, c10, c11⟩ := Blk.args (a := a') (u := u) b1
            have f1 := b1.frozen
            have B1 := hide b1
            have S1 := hide s1
            clear b1 s1
            by_cases hs : l.length < j + 4
            · simp only [if_pos hs] at h4
              obtain ⟨rfl, h4⟩ := h4
              have H4 := hide h4
              clear h4
              go_wp2_with fail
              go_meet
              exact FldR.err (a2 := { a' with count := 0 }) (u := u) (by decide) (gb2.trans (gb2.left hg4) (gb2.right (gb_set (gb_refl _ _) _ _))) (H4.out.setA B1.out _ _) (B1.out.set 2 _) (BS.set S1.out B1.out (by decide) _ _) (by unfold rdF; simp only [rdN_err' hle hs])
            · simp only [if_neg hs] at h4
              have hx := rdN_ok' hs
              generalize beN ((l.drop j).take 4) = x at h4 hx
              have hxl := rdN4_lt hx
              obtain ⟨rfl, h4⟩ := h4
              have H4 := hide h4
              have HX := hide hx
              clear h4 hx
              go_wp2_with fail
              go_meet
              exact FldR.ok (a2 := { a' with count := x }) (u := u) (gb2.trans (gb2.left hg4) (gb2.right (gb_set (gb_refl _ _) _ _))) (H4.out.setA B1.out _ _) (B1.out.set 2 _) (BS.set S1.out B1.out (by decide) _ _) (by unfold rdF; simp only [HX.out])
          · have hl2 : (s[k]'hlts).toNat = 115 := hlet.trans (by decide)
            clear hlet
            go_wp2_with fail
            refine (fU32_c F _ l j wr HRF.out).mono ?_
            rintro e w4 ⟨hg4, h4⟩
            have b1 := HAb.out.grown hg4 hns
            have s1 := HU.out.kept hg4 HkF.out
            have hAl := b1.lt
            obtain ⟨c0, c1, c2, c3, c4, c5, c6, c7, c8, c9, c10, c11⟩ := Blk.args (a := a') (u := u) b1
            have f1 := b1.frozen
            have B1 := hide b1
            have S1 := hide s1
            clear b1 s1
            by_cases hs : l.length < j + 4
            · simp only [if_pos hs] at h4
              obtain ⟨rfl, h4⟩ := h4
              have H4 := hide h4
              clear h4
              go_wp2_with fail
              go_meet
              exact FldR.err (a2 := { a' with size := 0 }) (u := u) (by decide) (gb2.trans (gb2.left hg4) (gb2.right (gb_set (gb_refl _ _) _ _))) (H4.out.setA B1.out _ _) (B1.out.set 3 _) (BS.set S1.out B1.out (by decide) _ _) (by unfold rdF; simp only [rdN_err' hle hs])
            · simp only [if_neg hs] at h4
              have hx := rdN_ok' hs
              generalize beN ((l.drop j).take 4) = x at h4 hx
              have hxl := rdN4_lt hx
              obtain ⟨rfl, h4⟩ := h4
              have H4 := hide h4
              have HX := hide hx
              clear h4 hx
              go_wp2_with fail
              go_meet
              exact FldR.ok (a2 := { a' with size := x }) (u := u) (gb2.trans (gb2.left hg4) (gb2.right (gb_set (gb_refl _ _) _ _))) (H4.out.setA B1.out _ _) (B1.out.set 3 _) (BS.set S1.out B1.out (by decide) _ _) (by unfold rdF; simp only [HX.out])
          · have hl2 : (s[k]'hlts).toNat = 109 := hlet.trans (by decide)
            clear hlet
            go_wp2_with fail
            refine (fU32_c F _ l j wr HRF.out).mono ?_
            rintro e w4 ⟨hg4, h4⟩
            have b1 := HAb.out.grown hg4 hns
            have s1 := HU.out.kept hg4 HkF.out
            have hAl := b1.lt
            obtain ⟨c0, c1, c2, c3, c4, c5, c6, c7, c8, c9, c10, c11⟩ := Blk.args (a := a') (u := u) b1
            have f1 := b1.frozen
            have B1 := hide b1
            have S1 := hide s1
            clear b1 s1
            by_cases hs : l.length < j + 4
            · simp only [if_pos hs] at h4
              obtain ⟨rfl, h4⟩ := h4
              have H4 := hide h4
              clear h4
              go_wp2_with fail
              go_meet
              exact FldR.err (a2 := { a' with mode := 0 }) (u := u) (by decide) (gb2.trans (gb2.left hg4) (gb2.right (gb_set (gb_refl _ _) _ _))) (H4.out.setA B1.out _ _) (B1.out.set 4 _) (BS.set S1.out B1.out (by decide) _ _) (by unfold rdF; simp only [rdN_err' hle hs])
            · simp only [if_neg hs] at h4
              have hx := rdN_ok' hs
              generalize beN ((l.drop j).take 4) = x at h4 hx
              have hxl := rdN4_lt hx
              obtain ⟨rfl, h4⟩ := h4
              have H4 := hide h4
              have HX := hide hx
              clear h4 hx
              go_wp2_with fail
              go_meet
              exact FldR.ok (a2 := { a' with mode := x }) (u := u) (gb2.trans (gb2.left hg4) (gb2.right (gb_set (gb_refl _ _) _ _))) (H4.out.setA B1.out _ _) (B1.out.set 4 _) (BS.set S1.out B1.out (by decide) _ _) (by unfold rdF; simp only [HX.out])
          · have hl2 : (s[k]'hlts).toNat = 100 := hlet.trans (by decide)
            clear hlet
            go_wp2_with fail
            refine (fText_c F 2048 (by omega) _ l j wr HRF.out).mono ?_
            rintro e w4 ⟨hg4, h4⟩
            have b1 := HAb.out.grown hg4 hns
            have s1 := HU.out.kept hg4 HkF.out
            have hAl := b1.lt
            obtain ⟨c0, c1, c2, c3, c4, c5, c6, c7, c8, c9, c10, c11⟩ := Blk.args (a := a') (u := u) b1
            have f1 := b1.frozen
            have B1 := hide b1
            have S1 := hide s1
            clear b1 s1
            rcases hx : rdText 2048 (l.drop j) with er | ⟨d, l1⟩
            · rw [hx] at h4
              obtain ⟨rfl, i2, h4⟩ := h4
              have her : er ≠ 0 := by rcases rdText_err hx with h | h | h <;> omega
              have H4 := hide h4
              have HX := hide hx
              clear h4 hx
              go_wp2_with fail
              go_meet
              exact FldR.err (a2 := { a' with dl := [] }) (u := .slice none 0 0) her (gb2.trans (gb2.left hg4) (gb2.right (gb_set (gb_refl _ _) _ _))) (H4.out.setA B1.out _ _) (B1.out.set 11 _) (BS.nil _) (by unfold rdF; simp only [HX.out])
            · rw [hx] at h4
              obtain ⟨v4, rfl, hv4, i2, rfl, h4⟩ := h4
              obtain ⟨Av, cv, rfl, _⟩ := id hv4
              have H4 := hide h4
              have HX := hide hx
              have V4 := hide hv4
              clear h4 hx hv4
              go_wp2_with fail
              go_meet
              exact FldR.ok (a2 := { a' with dl := d }) (gb2.trans (gb2.left hg4) (gb2.right (gb_set (gb_refl _ _) _ _))) (H4.out.setA B1.out _ _) (B1.out.set 11 _) (BS.set V4.out B1.out (by decide) _ _) (by unfold rdF; simp only [HX.out])
        case rest =>
          obtain ⟨hg4, a2, i2, er2, hr, ⟨u2, hb2, hs2⟩, hor⟩ := hcut
          have hFl := hr.blk.lt
          have cF := hr.blk.cell 2
          simp only [List.getElem?_toArray, List.getElem?_cons_zero, List.getElem?_cons_succ] at cF
          rcases hor with ⟨rfl, hx⟩ | ⟨he, hx⟩
          · have hI4 := HI.out.step hlt Hfd.out hx hg4 hr hb2 hs2
            have HI4 := hide hI4
            clear hI4 hr hb2 hs2 hx
            go_wp2_with fail
            go_roundw
            case rel => exact ⟨k + 1, a2, i2, by omega, by go_num, HI4.out⟩
            case measure => simp [intOf]; omega
          · have hbad := HI.out.bad hlt Hfd.out hx
            have hP := HP.out
            rw [hbad] at hP
            have HP2 := hide hP
            have hT4 := HI.out.res.kept2 hg4 (Blk.ne HI.out.res HRF.out.blk (by decide)) HI.out.ne
            have g4 := gb2.new HI.out.g hg4 HI.out.nF HI.out.nA
            have hFT : F ≠ T := Blk.ne hr.blk hT4 (by decide)
            clear hP HP hbad hx hr hb2 hs2
            have hTl := hT4.lt
            obtain ⟨e0, e1, e2, e3, e4, e5, e6, e7, e8, e9, e10, e11⟩ := Blk.args (a := zeroA 0) (u := .slice none 0 0) hT4
            have fT := hT4.frozen
            have HT4 := hide hT4
            clear hT4
            have heB : (er2 == 0) = false := by simpa using he
            go_wp2_with fail
            refine Reg.wp_reg [0, 0, 2, 6, 14, 1, 63] [(0, .W), (1, .W), (2, .W), (3, .W), (4, .H), (5, .E true), (6, .W)] (fun w' => F < w'.heap.size ∧ w'.cell? ⟨F, 2, none⟩ = some (.int .i64 er2)) (by kernel_rfl) (by kernel_rfl) (fun _ => ⟨hFl, cF⟩) ?_
            repeat (first | (refine Reg.wpC_W rfl (fun K hK => ?_); go_simp; refine hK _ ?_; clear hK K) | (refine Reg.wpC_H2 rfl rfl (fun K hK => ?_); apply Exists.intro; refine ⟨fun w' hS => ?_, ?_⟩; (have hS2 := hS.2; clear hS; go_simp; first | done | rfl); go_simp; refine hK _ ?_; clear hK K) | (refine Reg.wpC_N rfl rfl (fun K hK => ?_); go_simp; refine hK _ ?_; clear hK K))
            refine Reg.wpC_E rfl (fun K hK => ?_)
            go_simp
            refine hK _ _ (fun _ => keptF (gb_drew (put12 _ _ _ _ _ _ _ _ _ _ _ _ HT4.out rfl).2) hFT hFl cF) ?_
            clear hK K
            repeat (first | (refine Reg.wpC_W rfl (fun K hK => ?_); go_simp; refine hK _ ?_; clear hK K) | (refine Reg.wpC_H2 rfl rfl (fun K hK => ?_); apply Exists.intro; refine ⟨fun w' hS => ?_, ?_⟩; (have hS2 := hS.2; clear hS; go_simp; first | done | rfl); go_simp; refine hK _ ?_; clear hK K) | (refine Reg.wpC_N rfl rfl (fun K hK => ?_); go_simp; refine hK _ ?_; clear hK K))
            refine Reg.wpC_nil ?_
            go_wp2_with fail
            refine post_put12d HT4.out rfl fun w5 hb2 hg5 => ?_
            have d0 := hb2.cell 0
            have d1 := hb2.cell 1
            have d2 := hb2.cell 2
            have d3 := hb2.cell 3
            have d4 := hb2.cell 4
            have d5 := hb2.cell 5
            have d6 := hb2.cell 6
            have d7 := hb2.cell 7
            have d8 := hb2.cell 8
            have d9 := hb2.cell 9
            have d10 := hb2.cell 10
            have d11 := hb2.cell 11
            simp only [List.getElem?_toArray, List.getElem?_cons_zero, List.getElem?_cons_succ] at d0 d1 d2 d3 d4 d5 d6 d7 d8 d9 d10 d11
            refine bodyPost_ret (v := .tuple #[(zeroA 0).val, .int .i64 er2]) (by simp [results, Try.results16, go_sem, d0, d1, d2, d3, d4, d5, d6, d7, d8, d9, d10, d11]; rfl) rfl ?_
            exact ReadAllR.err HP2.out he (gb_new g4 hg5 (by omega))
      · obtain rfl : k = row.length := by omega
        have hend := hI2.left
        rw [List.drop_length, rdAll] at hend
        have hP := HP.out
        rw [← hend] at hP
        simp only [] at hP
        clear hend HP
        have hks : ¬ row.length < s.size := by omega
        go_wp2_with fail
        refine (fLeft_c F _ l j wr hI2.rf).mono ?_
        rintro e w4 ⟨rfl, rfl⟩
        have hT4 := hI2.res
        have hll : (l.drop j).length ≤ 100000000 := by rw [List.length_drop]; omega
        obtain ⟨m, hm⟩ : ∃ m, m = (l.drop j).length := ⟨_, rfl⟩
        rw [← hm] at hll hP ⊢
        clear hm
        have hTl := hT4.lt
        obtain ⟨e0, e1, e2, e3, e4, e5, e6, e7, e8, e9, e10, e11⟩ := Blk.args (a := zeroA 0) (u := .slice none 0 0) hT4
        have fT := hT4.frozen
        have HT4 := hide hT4
        clear hT4
        by_cases hz : m = 0
        · rw [if_pos hz] at hP
          have HP2 := hide hP
          subst hz
          obtain ⟨u, hAb, hu⟩ := hI2.args
          obtain ⟨Au, cu, rfl, _⟩ := id hu
          obtain ⟨b0, b1, b2, b3, b4, b5, b6, b7, b8, b9, b10, b11⟩ := Blk.args hAb
          have HU := hide hu
          have HI := hide hI2
          clear hP hAb hu hI2
          go_wp2_with fail
          refine post_put12d HT4.out rfl fun w5 hb2 hg5 => ?_
          have d0 := hb2.cell 0
          have d1 := hb2.cell 1
          have d2 := hb2.cell 2
          have d3 := hb2.cell 3
          have d4 := hb2.cell 4
          have d5 := hb2.cell 5
          have d6 := hb2.cell 6
          have d7 := hb2.cell 7
          have d8 := hb2.cell 8
          have d9 := hb2.cell 9
          have d10 := hb2.cell 10
          have d11 := hb2.cell 11
          simp only [List.getElem?_toArray, List.getElem?_cons_zero, List.getElem?_cons_succ] at d0 d1 d2 d3 d4 d5 d6 d7 d8 d9 d10 d11
          refine bodyPost_ret (v := .tuple #[(a'.at (.slice Au a'.dl.length cu)).val, .int .i64 0]) (by simp [results, Try.results16, go_sem, d0, d1, d2, d3, d4, d5, d6, d7, d8, d9, d10, d11]; rfl) rfl ?_
          exact ReadAllR.ok HP2.out (gb_new HI.out.g hg5 (by omega)) (HU.out.kept hg5 (fun k hk => by cases hk; exact ⟨_, _, HT4.out, by decide⟩))
        · rw [if_neg hz] at hP
          have HP2 := hide hP
          have hz2 : 0 < m := by omega
          have HI := hide hI2
          clear hP hI2
          go_wp2_with fail
          refine post_put12d HT4.out rfl fun w5 hb2 hg5 => ?_
          have d0 := hb2.cell 0
          have d1 := hb2.cell 1
          have d2 := hb2.cell 2
          have d3 := hb2.cell 3
          have d4 := hb2.cell 4
          have d5 := hb2.cell 5
          have d6 := hb2.cell 6
          have d7 := hb2.cell 7
          have d8 := hb2.cell 8
          have d9 := hb2.cell 9
          have d10 := hb2.cell 10
          have d11 := hb2.cell 11
          simp only [List.getElem?_toArray, List.getElem?_cons_zero, List.getElem?_cons_succ] at d0 d1 d2 d3 d4 d5 d6 d7 d8 d9 d10 d11
          refine bodyPost_ret (v := .tuple #[(zeroA 0).val, .int .i64 2]) (by simp [results, Try.results16, go_sem, d0, d1, d2, d3, d4, d5, d6, d7, d8, d9, d10, d11]; rfl) rfl ?_
          exact ReadAllR.err HP2.out (by decide) (gb_new HI.out.g hg5 (by omega))
end Go.Tr
