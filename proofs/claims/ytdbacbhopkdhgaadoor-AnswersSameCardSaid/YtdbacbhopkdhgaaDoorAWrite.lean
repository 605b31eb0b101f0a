/- answers.Write: an answer's bytes. No condition. Printed by gen_awrite.py. -/
import Derived.Test.YtdbacbhopkdhgaaDoorALay
namespace Go.Tr
open Go.RowKit Go.Proofs
set_option linter.unusedVariables false
structure WI (w : World) (R : Nat) (r : RR) (u v : Value) (wr : World) : Prop where
  g : w.grownBy wr none
  bR : Blk wr R tRes (r.cells u v).toArray
  ok : r.ok wr u v
theorem WI.grown {w : World} {R : Nat} {r : RR} {u v : Value} {wr w' : World} (h : WI w R r u v wr) (hg : wr.grownBy w' none) : WI w R r u v w' := ⟨gb_trans h.g hg, h.bR.grown hg (by simp), h.ok.grown hg⟩
theorem ents_small {el : List Ent} (h : mayEntsB el = true) : el.length ≤ 64 ∧ ∀ e ∈ el, e.name.size ≤ 32 := by
  unfold mayEntsB at h
  simp only [Bool.and_eq_true, decide_eq_true_eq, List.all_eq_true] at h
  refine ⟨h.1, fun e he => ?_⟩
  have := h.2 e he
  unfold entB nameB nameHd at this
  simp only [Bool.and_eq_true, decide_eq_true_eq] at this
  exact this.1.1.2.1
theorem ents_len {el : List Ent} (h1 : ∀ e ∈ el, e.name.size ≤ 32) : ∀ (k : Nat), ((el.take k).flatMap entBytes).length ≤ 48 * k := by
  intro k
  have gen : ∀ (l : List Ent), (∀ e ∈ l, e.name.size ≤ 32) → (l.flatMap entBytes).length ≤ 48 * l.length := by
    intro l
    induction l with
    | nil => intro _; simp
    | cons e t ih =>
      intro h
      have h2 := h e (by simp)
      have h3 := ih (fun x hx => h x (by simp [hx]))
      have h4 : (entBytes e).length ≤ 48 := by
        unfold entBytes hdB
        simp only [List.length_append, num32_length, textB, be32_length, List.length_replicate, sb_length]
        unfold padN
        omega
      simp only [List.flatMap_cons, List.length_append, List.length_cons]
      omega
  refine Nat.le_trans (gen (el.take k) (fun e he => h1 e (List.mem_of_mem_take he))) ?_
  rw [List.length_take]
  omega
set_option maxRecDepth 20000 in
set_option maxHeartbeats 4000000 in
theorem awrite_c (p : Int) (r : RR) (u v : Value) (w : World) (ha : r.ok w u v) (hs : r.small) (ht : Tab w) : Calls Tryd.prog 14 #[.int .i64 p, r.val u v] w (AWriteR p r w) := by
  obtain ⟨Au, cu, rfl, _⟩ := id ha.d
  obtain ⟨Av, cv, rfl, hAv, hNv, hcv⟩ := OwnE.shape ha.e
  have HA := hide ha
  have HT := hide ht
  have HS := hide hs
  have HAV := hide hAv
  have HNV := hide hNv
  have I0 : WI w w.heap.size r (.slice Au r.dl.length cu) (.slice Av r.el.length cv) (w.alloc (.cells (r.cells (.slice Au r.dl.length cu) (.slice Av r.el.length cv)).toArray tRes)) :=
    ⟨gb_alloc (gb_refl _ _) _, Blk.new _ _ _, ha.grown (gb_alloc (gb_refl _ _) _)⟩
  have HI0 := hide I0
  clear ha ht hs I0 hAv hNv
  unfold RR.val RR.cells
  go_enter Tryd.func14, Tryd.ntmps14
  go_wp2_with fail
  refine (amay_c p r _ _ _ HI0.out.ok HS.out (HT.out.grown HI0.out.g)).mono ?_
  rintro e w1 ⟨rfl, hg1⟩
  have HI := hide (HI0.out.grown hg1)
  clear hg1 HI0
  obtain ⟨bm, hbm⟩ : ∃ bm, mayR p r = bm := ⟨_, rfl⟩
  have HBM := hide hbm
  rw [hbm]
  clear hbm
  cases bm
  · go_wp2_with fail
    refine bodyPost_ret (v := .tuple #[.slice none 0 0, .int .i64 1]) (by simp [results, Tryd.results14, go_sem]) rfl ?_
    exact AWriteR.no HBM.out HI.out.g
  have lR := HI.out.bR.lt
  obtain ⟨r0, r1, r2, r3, r4, r5, r6, r7, r8, r9⟩ := Blk.res HI.out.bR
  go_wp2_with fail
  refine (status_c r.errno _ (HT.out.grown HI.out.g)).mono ?_
  rintro e w2 ⟨rfl, hg2⟩
  have HI2 := hide (HI.out.grown hg2)
  have hst := statOf_bd r.errno
  obtain ⟨st, hst2⟩ : ∃ st, statOf r.errno = st := ⟨_, rfl⟩
  rw [hst2] at hst ⊢
  have HST := hide hst2
  clear hst2 hg2 lR r0 r1 r2 r3 r4 r5 r6 r7 r8 r9
  go_wp2_with fail
  refine (U32_c _ [] st _ (BS.nil _) (by simp) hst.1 hst.2).mono ?_
  rintro e w3 ⟨A3, n3, c3, rfl, ho3, hg3⟩
  rw [List.nil_append] at ho3
  have HO3 := hide ho3
  have HI3 := hide (HI2.out.grown hg3)
  have hsz3 := HI2.out.g.size
  have lR := HI3.out.bR.lt
  obtain ⟨r0, r1, r2, r3, r4, r5, r6, r7, r8, r9⟩ := Blk.res HI3.out.bR
  clear ho3 hg3 HI HI2
  by_cases hz : r.errno = 0
  case neg =>
    have hfin : be32 st.toNat = resB p r := by unfold resB; rw [if_neg hz, HST.out, List.append_nil]
    have HF := hide hfin
    have hzb : (r.errno != 0) = true := by simpa using hz
    clear hfin hz
    go_wp2_with fail
    refine bodyPost_ret (v := .tuple #[.slice A3 n3 c3, .int .i64 0]) (by simp [results, Tryd.results14, go_sem]) rfl ?_
    exact AWriteR.yes HBM.out HO3.out HF.out hsz3 HI3.out.g
  case pos =>
    have hfin : be32 st.toNat ++ bodyB (kindN p) r = resB p r := by unfold resB; rw [if_pos hz, HST.out]
    have hpk : p ∈ procN ∧ mayKB (kindN p) r = true := by
      have h := HBM.out
      unfold mayR at h
      rw [if_pos hz] at h
      simp only [Bool.and_eq_true, decide_eq_true_eq] at h
      exact ⟨h.1, h.2.2⟩
    have HF := hide hfin
    have hc : p = 1 ∨ p = 2 ∨ p = 3 ∨ p = 6 ∨ p = 7 ∨ p = 8 ∨ p = 9 ∨ p = 12 ∨ p = 13 ∨ p = 14 ∨ p = 16 := by simpa [procN] using hpk.1
    have HK := hide hpk.2
    have hzb : (r.errno != 0) = false := by simp [hz]
    have hs4 : (be32 st.toNat).length = 4 := rfl
    have hsd := HS.out.d
    clear hfin hz hpk
    rcases hc with rfl | rfl | rfl | rfl | rfl | rfl | rfl | rfl | rfl | rfl | rfl
    · go_wp2_with fail
      refine (layAttr_c _ _ r.att _ HO3.out.bs (by omega)).mono ?_
      rintro e w4 ⟨A4, n4, c4, rfl, ho4, hg4⟩
      have HO4 := hide ho4
      have HI4 := hide (HI3.out.grown hg4)
      clear ho4 hg4
      go_wp2_with fail
      refine bodyPost_ret (v := .tuple #[.slice A4 n4 c4, .int .i64 0]) (by simp [results, Tryd.results14, go_sem]) rfl ?_
      exact AWriteR.yes HBM.out HO4.out HF.out HI3.out.g.size HI4.out.g
    · go_wp2_with fail
      refine (layAttr_c _ _ r.att _ HO3.out.bs (by omega)).mono ?_
      rintro e w4 ⟨A4, n4, c4, rfl, ho4, hg4⟩
      have HO4 := hide ho4
      have HI4 := hide (HI3.out.grown hg4)
      clear ho4 hg4
      go_wp2_with fail
      refine bodyPost_ret (v := .tuple #[.slice A4 n4 c4, .int .i64 0]) (by simp [results, Tryd.results14, go_sem]) rfl ?_
      exact AWriteR.yes HBM.out HO4.out HF.out HI3.out.g.size HI4.out.g
    · go_wp2_with fail
      refine (layAttr_c _ _ r.att _ HO3.out.bs (by omega)).mono ?_
      rintro e w4 ⟨A4, n4, c4, rfl, ho4, hg4⟩
      have HO4 := hide ho4
      have HI4 := hide (HI3.out.grown hg4)
      clear ho4 hg4
      go_wp2_with fail
      refine bodyPost_ret (v := .tuple #[.slice A4 n4 c4, .int .i64 0]) (by simp [results, Tryd.results14, go_sem]) rfl ?_
      exact AWriteR.yes HBM.out HO4.out HF.out HI3.out.g.size HI4.out.g
    · go_wp2_with fail
      refine (Text_c _ _ _ _ _ HO3.out.bs HI3.out.ok.d (by omega) (by omega)).mono ?_
      rintro e w4 ⟨A4, n4, c4, rfl, ho4, hg4⟩
      have HO4 := hide ho4
      have HI4 := hide (HI3.out.grown hg4)
      clear ho4 hg4 lR r0 r1 r2 r3 r4 r5 r6 r7 r8 r9
      have lR := HI4.out.bR.lt
      obtain ⟨r0, r1, r2, r3, r4, r5, r6, r7, r8, r9⟩ := Blk.res HI4.out.bR
      have hl4 : (textB r.dl).length ≤ 1000010 := by
        have := HS.out.d
        simp only [textB, List.length_append, be32_length, List.length_replicate]
        unfold padN
        omega
      go_wp2_with fail
      refine (xbool_c _ _ r.eof _ HO4.out.bs (by rw [List.length_append]; omega)).mono ?_
      rintro e w5 ⟨A5, n5, c5, rfl, ho5, hg5⟩
      have HO5 := hide ho5
      have HI5 := hide (HI4.out.grown hg5)
      clear ho5 hg5
      go_wp2_with fail
      refine bodyPost_ret (v := .tuple #[.slice A5 n5 c5, .int .i64 0]) (by simp [results, Tryd.results14, go_sem]) rfl ?_
      exact AWriteR.yes HBM.out HO5.out (by rw [List.append_assoc]; exact HF.out) HI4.out.g.size HI5.out.g
    · have wc := wrapU r.count
      have hc1 : 0 ≤ r.count % 4294967296 := by omega
      have hc2 : r.count % 4294967296 < 4294967296 := by omega
      go_wp2_with fail
      refine (U32_c _ _ (r.count % 4294967296) _ HO3.out.bs (by omega) hc1 hc2).mono ?_
      rintro e w4 ⟨A4, n4, c4, rfl, ho4, hg4⟩
      have HO4 := hide ho4
      have HI4 := hide (HI3.out.grown hg4)
      clear ho4 hg4 lR r0 r1 r2 r3 r4 r5 r6 r7 r8 r9
      have lR := HI4.out.bR.lt
      obtain ⟨r0, r1, r2, r3, r4, r5, r6, r7, r8, r9⟩ := Blk.res HI4.out.bR
      clear wc
      go_wp2_with fail
      refine (layAttr_c _ _ r.att _ HO4.out.bs (by rw [List.length_append, hs4, be32_length]; omega)).mono ?_
      rintro e w5 ⟨A5, n5, c5, rfl, ho5, hg5⟩
      have HO5 := hide ho5
      have HI5 := hide (HI4.out.grown hg5)
      clear ho5 hg5
      go_wp2_with fail
      refine bodyPost_ret (v := .tuple #[.slice A5 n5 c5, .int .i64 0]) (by simp [results, Tryd.results14, go_sem]) rfl ?_
      exact AWriteR.yes HBM.out HO5.out (by rw [List.append_assoc]; exact HF.out) HI4.out.g.size HI5.out.g
    · go_wp2_with fail
      refine (layAttr_c _ _ r.att _ HO3.out.bs (by omega)).mono ?_
      rintro e w4 ⟨A4, n4, c4, rfl, ho4, hg4⟩
      have HO4 := hide ho4
      have HI4 := hide (HI3.out.grown hg4)
      clear ho4 hg4
      go_wp2_with fail
      refine bodyPost_ret (v := .tuple #[.slice A4 n4 c4, .int .i64 0]) (by simp [results, Tryd.results14, go_sem]) rfl ?_
      exact AWriteR.yes HBM.out HO4.out HF.out HI3.out.g.size HI4.out.g
    · go_wp2_with fail
      refine (layAttr_c _ _ r.att _ HO3.out.bs (by omega)).mono ?_
      rintro e w4 ⟨A4, n4, c4, rfl, ho4, hg4⟩
      have HO4 := hide ho4
      have HI4 := hide (HI3.out.grown hg4)
      clear ho4 hg4
      go_wp2_with fail
      refine bodyPost_ret (v := .tuple #[.slice A4 n4 c4, .int .i64 0]) (by simp [results, Tryd.results14, go_sem]) rfl ?_
      exact AWriteR.yes HBM.out HO4.out HF.out HI3.out.g.size HI4.out.g
    · go_wp2_with fail
      refine bodyPost_ret (v := .tuple #[.slice A3 n3 c3, .int .i64 0]) (by simp [results, Tryd.results14, go_sem]) rfl ?_
      exact AWriteR.yes HBM.out HO3.out (by have h := HF.out; rw [← h]; exact (List.append_nil _).symm) hsz3 HI3.out.g
    · go_wp2_with fail
      refine bodyPost_ret (v := .tuple #[.slice A3 n3 c3, .int .i64 0]) (by simp [results, Tryd.results14, go_sem]) rfl ?_
      exact AWriteR.yes HBM.out HO3.out (by have h := HF.out; rw [← h]; exact (List.append_nil _).symm) hsz3 HI3.out.g
    · go_wp2_with fail
      refine bodyPost_ret (v := .tuple #[.slice A3 n3 c3, .int .i64 0]) (by simp [results, Tryd.results14, go_sem]) rfl ?_
      exact AWriteR.yes HBM.out HO3.out (by have h := HF.out; rw [← h]; exact (List.append_nil _).symm) hsz3 HI3.out.g
    · have hes := ents_small (el := r.el) (by have h := HK.out; unfold mayKB at h; simp only [show kindN 16 = 5 from rfl, Bool.and_eq_true] at h; exact h.1)
      have hes1 := hes.1
      have HES := hide hes.2
      have HEL := hide (ents_len hes.2)
      clear hes
      obtain ⟨n, hn⟩ : ∃ n, r.el.length = n := ⟨_, rfl⟩
      have HN := hide hn
      rw [hn] at hes1 hcv r9 ⊢
      clear hn
      have wn : IntKind.wrap .u32 (n : Int) = (n : Int) := by rw [IntKind.wrap_u32]; omega
      go_wp2_with fail
      refine (U32_c _ _ (n : Int) _ HO3.out.bs (by omega) (by omega) (by omega)).mono ?_
      rintro e w4 ⟨A4, n4, c4, rfl, ho4, hg4⟩
      have HO4 := hide ho4
      have HI4 := hide (HI3.out.grown hg4)
      have HG34 := hide hg4.size
      clear ho4 hg4 lR r0 r1 r2 r3 r4 r5 r6 r7 r8 r9 wn
      have lR := HI4.out.bR.lt
      obtain ⟨r0, r1, r2, r3, r4, r5, r6, r7, r8, r9⟩ := Blk.res HI4.out.bR
      rw [HN.out] at r9
      go_wp2_with fail
      clear lR r0 r1 r2 r3 r4 r5 r6 r7 r8 r9
      go_loopw [6, 64] (fun v6 i wr => ∃ k : Nat, k ≤ n ∧ i = .int .i64 k ∧ OwnB w3.heap.size wr v6 (be32 st.toNat ++ be32 (n : Int).toNat ++ (r.el.take k).flatMap entBytes) ∧ WI w w.heap.size r (.slice Au r.dl.length cu) (.slice Av r.el.length cv) wr ∧ w3.heap.size ≤ wr.heap.size) (fun _ i _ => n - (intOf i).toNat)
      case atStart => exact ⟨0, Nat.zero_le _, rfl, by simp only [List.take_zero, List.flatMap_nil, List.append_nil]; exact HO4.out, HI4.out, HG34.out⟩
      case round =>
        obtain ⟨k, hk, rfl, ho, hI, h3r⟩ := hrel
        obtain ⟨A6, c6, hv6⟩ := ho.shape
        subst hv6
        have hlen : ((be32 st.toNat ++ be32 (n : Int).toNat ++ (r.el.take k).flatMap entBytes)).length ≤ 4000 := by
          have := HEL.out k
          rw [List.length_append, List.length_append, hs4, be32_length]
          omega
        have HO6 := hide ho
        have HI6 := hide hI
        have hw3 : w.heap.size ≤ w3.heap.size := HI3.out.g.size
        generalize hlb : (be32 st.toNat ++ be32 (n : Int).toNat ++ (r.el.take k).flatMap entBytes) = lb at *
        have HLB := hide hlb
        clear ho hI hlb
        by_cases hlt : k < n
        · obtain ⟨e, he⟩ : ∃ e, r.el[k]? = some e := ⟨_, List.getElem?_eq_getElem (by rw [HN.out]; exact hlt)⟩
          cases Av with
          | none => have := (HNV.out rfl).1; have := HN.out; omega
          | some a1 =>
          obtain ⟨g1, rfl, _, l1⟩ := HAV.out _ rfl
          obtain ⟨x0, x1, x2⟩ := OwnE.cell HI6.out.ok.e he
          have hsz := HES.out e (List.mem_of_getElem? he)
          have HE1 := hide he
          have hkI : (k : Int) < (n : Int) := by omega
          clear he
          have kc := run_conv
          go_wp2_with fail
          refine (Text_c _ _ lb (sb e.name) _ ((HO6.out.bs.alloc _).grown (convW_gb _ _)) (convW_bs' _ _ _ (by simp)) (by omega) (by rw [sb_length]; omega)).mono ?_
          rintro ee w7 ⟨A7, n7, c7, rfl, ho7, hg7⟩
          have hg7' := gb_trans (gb_trans (gb_alloc (gb_refl wr none) (.cells e.cells.toArray tEnt)) (convW_gb _ _)) hg7
          have hbx := ((Blk.new wr tEnt e.cells.toArray).grown (convW_gb _ e.name) (by simp)).grown hg7 (by simp)
          have y0 := hbx.cell 0
          have y1 := hbx.cell 1
          have y2 := hbx.cell 2
          simp only [Ent.cells, List.getElem?_toArray, List.getElem?_cons_zero, List.getElem?_cons_succ] at y0 y1 y2
          have ly := hbx.lt
          have hbase : w3.heap.size ≤ (convW (wr.alloc (.cells e.cells.toArray tEnt)) e.name).heap.size := by simp [go_sem]; omega
          have HO7 := hide (ho7.lower hbase)
          have HI7 := hide (HI6.out.grown hg7')
          have h7 := Nat.le_trans h3r hg7'.size
          clear ho7 hg7 hg7' hbx kc x0 x1 x2 hbase
          go_wp2_with fail
          refine (layHandle_c _ _ e.ino e.gen _ HO7.out.bs (by rw [List.length_append]; have : (textB (sb e.name)).length ≤ 40 := by { simp only [textB, List.length_append, be32_length, List.length_replicate, sb_length]; unfold padN; omega }; omega)).mono ?_
          rintro ee w8 ⟨A8, n8, c8, rfl, ho8, hg8⟩
          have HO8 := hide (ho8.lower h7)
          have HI8 := hide (HI7.out.grown hg8)
          have h8 := Nat.le_trans h7 hg8.size
          clear ho8 hg8
          go_wp2_with fail
          go_roundw
          case rel =>
            refine ⟨k + 1, by omega, by go_num, ?_, HI8.out, h8⟩
            have h := HO8.out
            rw [List.take_add_one, HE1.out, List.flatMap_append, ← List.append_assoc, HLB.out]
            simp only [Option.toList_some, List.flatMap_cons, List.flatMap_nil, List.append_nil, entBytes]
            rw [← List.append_assoc]
            exact h
          case measure => simp [intOf]; omega
        · obtain rfl : k = n := by omega
          have hall : lb = be32 st.toNat ++ be32 (k : Int).toNat ++ r.el.flatMap entBytes := by
            rw [← HLB.out, List.take_of_length_le (by rw [HN.out]; exact Nat.le_refl _)]
          have HALL := hide hall
          clear hall
          have lR := HI6.out.bR.lt
          obtain ⟨r0, r1, r2, r3, r4, r5, r6, r7, r8, r9⟩ := Blk.res HI6.out.bR
          clear r9
          go_wp2_with fail
          refine (xbool_c _ lb r.eof _ HO6.out.bs (by omega)).mono ?_
          rintro ee w7 ⟨A7, n7, c7, rfl, ho7, hg7⟩
          have HO7 := hide ho7
          have HI7 := hide (HI6.out.grown hg7)
          clear ho7 hg7
          go_wp2_with fail
          refine bodyPost_ret (v := .tuple #[.slice A7 n7 c7, .int .i64 0]) (by simp [results, Tryd.results14, go_sem]) rfl ?_
          refine AWriteR.yes HBM.out HO7.out ?_ HI6.out.g.size HI7.out.g
          rw [← HF.out, HALL.out]
          show _ = _ ++ (num32 (r.el.length : Int) ++ (r.el.flatMap entBytes ++ boolBy r.eof))
          rw [HN.out]
          have hm : num32 (k : Int) = be32 (k : Int).toNat := by
            unfold num32
            rw [show ((k : Int) % 4294967296) = (k : Int) by omega]
          rw [hm]
          simp only [List.append_assoc]
end Go.Tr
