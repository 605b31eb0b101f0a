/- An answer of an argument, cut to what the statement says. No condition. -/
import Derived.Test.YtdbacbhopkdhgaaDoorAKind
import Derived.DataReads
namespace Go.Tr
open Go.RowKit Go.Proofs
set_option linter.unusedVariables false
theorem if_wanted {c : Bool} {p q : Prop} (h : c = true) (hp : p) : if c = true then p else q := by rw [if_pos h]; exact hp
/-- append of one entry, as an operation -/
theorem app_wpE {o : Oper} {a : Act} {w : World} {K : Act → World → Prop} {Q : Exit → Act → World → Prop} (s x : Operand)
    (ho : o.op = .call { callee := .builtin .append, args := #[s, x], argTypes := #[tEnts, tEnts] })
    (base : Nat) (v : Value) (el : List Ent) (e : Ent) (g n c : Nat) (hs : a.eval s = v) (hx : a.eval x = .slice (some ⟨g, 0, none⟩) n c) (hn1 : n = 1) (hown : OwnE base w v el)
    (hc : w.cell? ⟨g, 0, none⟩ = some (.string e.name) ∧ w.cell? ⟨g, 1, none⟩ = some (.int .i64 e.ino) ∧ w.cell? ⟨g, 2, none⟩ = some (.int .i64 e.gen)) (hn : el.length ≤ 1000000) (hbase : base ≤ w.heap.size)
    (h : ∀ A n c w', OwnE base w' (.slice A n c) (el ++ [e]) → n = el.length + 1 → w.grownBy w' v.ownBlock → K (a.put o.dst (.slice A n c)) w') : o.wp Tryd.prog a w K Q := by
  subst hn1
  obtain ⟨i0, hi, hz0, hz1, hz2⟩ := info_parts infoEnt
  refine wp_append_own w s x tEnts ho base tEnt i0 (.agg #[.string emptyS, .int .i64 0, .int .i64 0]) 3 32 Tryd.underlying28 hi hz0 hz1 hz2 rfl (by decide) v el.length (ev el) hs hown ⟨g, 0, none⟩ 1 c e.cells hx rfl (fun j u hu => ?_) (by simpa [ev] using ev_one [e]) (by unfold maxLen; omega) (by omega) hbase ?_
  · rw [Addr.add_lit, Nat.zero_add]
    match j with
    | 0 => cases hu; exact hc.1
    | 1 => cases hu; exact hc.2.1
    | 2 => cases hu; exact hc.2.2
    | j + 3 => simp [Ent.cells] at hu
  · intro v' w' hown' hg _
    have hown2 : OwnE base w' v' (el ++ [e]) := by
      unfold OwnE
      rw [ev_append, List.length_append]
      have : ev [e] = e.cells := by simp [ev]
      rw [this]
      exact hown'
    obtain ⟨A, c, rfl, _⟩ := hown2.shape
    exact h A _ c w' hown2 (by simp) hg
/-- entries of an argument: where there are any, they lie below block B -/
def ER (B : Nat) (w : World) (v : Value) (el : List Ent) : Prop :=
  ∃ A c, v = .slice A el.length c ∧ el.length ≤ c ∧ (A = none → el.length = 0) ∧ (0 < el.length → ∃ b o, A = some ⟨b, o, none⟩ ∧ b < B ∧ ∀ (j : Nat) (e : Ent), el[j]? = some e →
    w.cell? ⟨b, o + j * 3, none⟩ = some (.string e.name) ∧ w.cell? ⟨b, o + j * 3 + 1, none⟩ = some (.int .i64 e.ino) ∧ w.cell? ⟨b, o + j * 3 + 2, none⟩ = some (.int .i64 e.gen))
theorem ER.kept {B : Nat} {w w' : World} {v : Value} {el : List Ent} {r : Option Nat} (h : ER B w v el) (hB : B ≤ w.heap.size) (hg : w.grownBy w' r) (hr : ∀ k, r = some k → B ≤ k) : ER B w' v el := by
  obtain ⟨A, c, hv, hc, hn, hcell⟩ := h
  refine ⟨A, c, hv, hc, hn, fun h0 => ?_⟩
  obtain ⟨b, o, hA, hb, hj⟩ := hcell h0
  have hk : ∀ i : Nat, w'.cell? ⟨b, i, none⟩ = w.cell? ⟨b, i, none⟩ := fun i => World.cell?_of_block (w := w) (hg.block b (Nat.lt_of_lt_of_le hb hB) fun hh => by
    have := hr _ hh.symm
    omega)
  exact ⟨b, o, hA, hb, fun j e he => by rw [hk, hk, hk]; exact hj j e he⟩
def i64ok (x : Int) : Prop := -9223372036854775808 ≤ x ∧ x ≤ 9223372036854775807
/-- an answer of an argument -/
structure RRaw (w : World) (r : RR) (u v : Value) : Prop where
  ints : i64ok r.errno ∧ i64ok r.att.ino ∧ i64ok r.att.gen ∧ i64ok r.att.kind ∧ i64ok r.att.mode ∧ i64ok r.att.size ∧ i64ok r.count
  d : ∃ B, B ≤ w.heap.size ∧ BR B w u r.dl ∧ ER B w v r.el
  dn : r.dl.length ≤ 9223372036854775807
  en : ∀ e ∈ r.el, e.name.size ≤ 9223372036854775807 ∧ i64ok e.ino ∧ i64ok e.gen
theorem RRaw.grown {w w' : World} {r : RR} {u v : Value} (h : RRaw w r u v) (hg : w.grownBy w' none) : RRaw w' r u v :=
  ⟨h.ints, (by obtain ⟨B, h1, h2, h3⟩ := h.d; exact ⟨B, Nat.le_trans h1 hg.size, h2.kept h1 hg (fun _ h => by cases h), h3.kept h1 hg (fun _ h => by cases h)⟩), h.dn, h.en⟩
def shE (e : Ent) : Ent := { e with name := shortS e.name 40 }
def fewA (r : RR) : RR := { r with dl := r.dl.take 70, el := (r.el.take 6).map shE }
/-- a call hands back an answer with memory of its own -/
def ResR (q : RR) (w : World) (e : Ending) (w' : World) : Prop := ∃ u v, e = .returned (q.val u v) ∧ OwnB w.heap.size w' u q.dl ∧ OwnE w.heap.size w' v q.el ∧ w.grownBy w' none
theorem ten {z : Array Value} (h : z.size = 10) : ∃ c0 c1 c2 c3 c4 c5 c6 c7 c8 c9, z = #[c0, c1, c2, c3, c4, c5, c6, c7, c8, c9] := by
  obtain ⟨l⟩ := z
  match l, h with
  | [c0, c1, c2, c3, c4, c5, c6, c7, c8, c9], _ => exact ⟨c0, c1, c2, c3, c4, c5, c6, c7, c8, c9, rfl⟩
theorem put10 {w : World} {T : Nat} {t : TypeId} {cs : Array Value} (v0 v1 v2 v3 v4 v5 v6 v7 v8 v9 : Value) (hb : Blk w T t cs) (hcs : cs.size = 10) : Blk ((((((((((w.setCell ⟨T, 0, none⟩ v0).setCell ⟨T, 1, none⟩ v1).setCell ⟨T, 2, none⟩ v2).setCell ⟨T, 3, none⟩ v3).setCell ⟨T, 4, none⟩ v4).setCell ⟨T, 5, none⟩ v5).setCell ⟨T, 6, none⟩ v6).setCell ⟨T, 7, none⟩ v7).setCell ⟨T, 8, none⟩ v8).setCell ⟨T, 9, none⟩ v9) T t #[v0, v1, v2, v3, v4, v5, v6, v7, v8, v9] ∧ w.grownBy ((((((((((w.setCell ⟨T, 0, none⟩ v0).setCell ⟨T, 1, none⟩ v1).setCell ⟨T, 2, none⟩ v2).setCell ⟨T, 3, none⟩ v3).setCell ⟨T, 4, none⟩ v4).setCell ⟨T, 5, none⟩ v5).setCell ⟨T, 6, none⟩ v6).setCell ⟨T, 7, none⟩ v7).setCell ⟨T, 8, none⟩ v8).setCell ⟨T, 9, none⟩ v9) (some T) := by
  obtain ⟨c0, c1, c2, c3, c4, c5, c6, c7, c8, c9, rfl⟩ := ten hcs
  refine ⟨?_, gb_set (gb_set (gb_set (gb_set (gb_set (gb_set (gb_set (gb_set (gb_set (gb_set (gb_refl _ _) _ _) _ _) _ _) _ _) _ _) _ _) _ _) _ _) _ _) _ _⟩
  have h := ((((((((((hb.set 0 v0).set 1 v1).set 2 v2).set 3 v3).set 4 v4).set 5 v5).set 6 v6).set 7 v7).set 8 v8).set 9 v9)
  simp only [List.setIfInBounds_toArray, List.set_cons_zero, List.set_cons_succ] at h
  exact h
theorem post_put10 {P : Program} {f : Func} {Q : Ending → World → Prop} {act : Act} {w : World} {T : Nat} {t : TypeId} {cs : Array Value} {v0 v1 v2 v3 v4 v5 v6 v7 v8 v9 : Value} (hb : Blk w T t cs) (hcs : cs.size = 10)
    (h : ∀ w2, Blk w2 T t #[v0, v1, v2, v3, v4, v5, v6, v7, v8, v9] → w.grownBy w2 (some T) → bodyPost P f Q .ret act w2) : bodyPost P f Q .ret act ((((((((((w.setCell ⟨T, 0, none⟩ v0).setCell ⟨T, 1, none⟩ v1).setCell ⟨T, 2, none⟩ v2).setCell ⟨T, 3, none⟩ v3).setCell ⟨T, 4, none⟩ v4).setCell ⟨T, 5, none⟩ v5).setCell ⟨T, 6, none⟩ v6).setCell ⟨T, 7, none⟩ v7).setCell ⟨T, 8, none⟩ v8).setCell ⟨T, 9, none⟩ v9) :=
  h _ (put10 v0 v1 v2 v3 v4 v5 v6 v7 v8 v9 hb hcs).1 (put10 v0 v1 v2 v3 v4 v5 v6 v7 v8 v9 hb hcs).2
structure FewI (w : World) (B Rb : Nat) (r : RR) (u v u1 : Value) (wr : World) : Prop where
  g : w.grownBy wr none
  b1 : Blk wr Rb tRes (r.cells u1 v).toArray
  b2 : Blk wr (Rb + 1) tRes ((zeroR 0).cells (.slice none 0 0) (.slice none 0 0)).toArray
  er : ER B wr v r.el
  ob : OwnB w.heap.size wr u1 (r.dl.take 70)
theorem FewI.grown {w : World} {B Rb : Nat} {r : RR} {u v u1 : Value} {wr w' : World} (h : FewI w B Rb r u v u1 wr) (hB : B ≤ w.heap.size) (hg : wr.grownBy w' none) : FewI w B Rb r u v u1 w' :=
  ⟨gb_trans h.g hg, h.b1.grown hg (by simp), h.b2.grown hg (by simp), h.er.kept (Nat.le_trans hB h.g.size) hg (fun _ h => by cases h), h.ob.grown hg⟩
/-- behind an append to the call's own row of entries -/
theorem FewI.own {w : World} {B Rb : Nat} {r : RR} {u v u1 x : Value} {el : List Ent} {wr w' : World} (h : FewI w B Rb r u v u1 wr) (hB : B ≤ w.heap.size) (ho : OwnE w.heap.size wr x el) (hg : wr.grownBy w' x.ownBlock) : FewI w B Rb r u v u1 w' := by
  have hk : ∀ k, x.ownBlock = some k → ∃ cs fr, wr.heap[k]? = some (.cells cs tEnt fr) := by
    intro k hk
    rcases ho.2 with ⟨rfl, _⟩ | ⟨g, cap, cur, rfl, _, hgg, _⟩
    · cases hk
    · cases hk; exact ⟨cur, (0, 0), hgg⟩
  have hne : ∀ g t cs, Blk wr g t cs → t ≠ tEnt → some g ≠ x.ownBlock := by
    intro g t cs hb ht hh
    obtain ⟨cs', fr, h2⟩ := hk g hh.symm
    unfold Blk at hb
    rw [hb] at h2
    injection h2 with h2
    injection h2 with _ h2
    exact ht h2
  have hlow : ∀ k, x.ownBlock = some k → B ≤ k := fun k hk => Nat.le_trans hB (World.ownsRow.lt ho k hk).1
  refine ⟨gb_own ho (Nat.le_refl _) h.g hg, h.b1.grown hg (hne _ _ _ h.b1 (by decide)), h.b2.grown hg (hne _ _ _ h.b2 (by decide)), h.er.kept (Nat.le_trans hB h.g.size) hg hlow, ?_⟩
  refine World.ownsRow.kept h.ob hg ?_
  rcases h.ob.2 with ⟨rfl, _⟩ | ⟨g, cap, cur, rfl, _, hgg, _⟩
  · exact .inl rfl
  · exact .inr (hne g tU8 cur hgg (by decide))
set_option maxRecDepth 20000 in
set_option maxHeartbeats 4000000 in
theorem few_c15 (r : RR) (u v : Value) (w : World) (hr : RRaw w r u v) : Calls Tryd.prog 10 #[r.val u v] w (ResR (fewA r) w) := by
  obtain ⟨B, hB, hd, he⟩ := hr.d
  obtain ⟨Au, cu, hue, _⟩ := id hd
  subst hue
  obtain ⟨Av, cv, hve, hcv, hNv, hcellv⟩ := id he
  subst hve
  have hdn := hr.dn
  have HEN := hide hr.en
  have HD := hide hd
  have HE := hide he
  have HN := hide hNv
  have HC := hide hcellv
  have b0 : ∀ z, Blk ((w.alloc (.cells (r.cells (.slice Au r.dl.length cu) (.slice Av r.el.length cv)).toArray tRes)).alloc (.cells z tRes)) w.heap.size tRes (r.cells (.slice Au r.dl.length cu) (.slice Av r.el.length cv)).toArray ∧ Blk ((w.alloc (.cells (r.cells (.slice Au r.dl.length cu) (.slice Av r.el.length cv)).toArray tRes)).alloc (.cells z tRes)) (w.heap.size + 1) tRes z ∧ w.grownBy ((w.alloc (.cells (r.cells (.slice Au r.dl.length cu) (.slice Av r.el.length cv)).toArray tRes)).alloc (.cells z tRes)) none := fun z =>
    ⟨(Blk.new _ _ _).alloc _, (by have h := Blk.new (w.alloc (.cells (r.cells (.slice Au r.dl.length cu) (.slice Av r.el.length cv)).toArray tRes)) tRes z; simpa using h), gb_alloc (gb_alloc (gb_refl _ _) _) _⟩
  have HB0 := hide (b0 ((zeroR 0).cells (.slice none 0 0) (.slice none 0 0)).toArray)
  clear hr hd he b0 hNv hcellv
  unfold RR.val RR.cells
  go_enter Tryd.func10, Tryd.ntmps10
  go_wp2_with fail
  refine (few_r B _ r.dl 70 (by omega) _ (HD.out.kept hB HB0.out.2.2 (fun _ h => by cases h)) hdn).mono ?_
  rintro e w1 ⟨A1, n1, c1, rfl, ho1, hg1⟩
  have hsz1 := HB0.out.2.2.size
  have b1 := HB0.out.1.grown hg1 (by simp)
  have b2 := HB0.out.2.1.grown hg1 (by simp)
  have l1 := b1.lt
  have l2 := b2.lt
  have f1 := b1.frozen
  obtain ⟨r0, r1, r2, r3, r4, r5, r6, r7, r8, r9⟩ := Blk.res b1
  have g1 := gb_trans HB0.out.2.2 hg1
  have I0 : FewI w B w.heap.size r (.slice Au r.dl.length cu) (.slice Av r.el.length cv) (.slice A1 n1 c1) (w1.setCell ⟨w.heap.size, 6, none⟩ (.slice A1 n1 c1)) :=
    ⟨gb_set_new g1 (Nat.le_refl _) _ _, b1.set 6 _, b2.far (by simp) _, HE.out.kept hB (gb_set_new g1 (Nat.le_refl _) _ _) (fun _ h => by cases h), (ho1.lower hsz1).kept (gb_set (gb_refl _ _) _ _) (fun k hk => by cases hk; exact ⟨_, _, b1, by decide⟩)⟩
  have HI0 := hide I0
  clear I0 b1 b2 ho1 hg1 g1 HB0 HD HE
  go_wp2_with fail
  clear l1 l2 f1 r0 r1 r2 r3 r4 r5 r6 r7 r8 r9
  obtain ⟨Rb, hRb⟩ : ∃ Rb, w.heap.size = Rb := ⟨_, rfl⟩
  have hBR : B ≤ w.heap.size := hB
  have HRB := hide hRb
  rw [hRb] at HI0 ⊢
  clear hRb hB
  go_loopw [3, 4] (fun l i wr => ∃ k : Nat, k ≤ r.el.length ∧ k ≤ 6 ∧ i = .int .i64 k ∧ OwnE w.heap.size wr l ((r.el.take k).map shE) ∧ FewI w B Rb r (.slice Au r.dl.length cu) (.slice Av r.el.length cv) (.slice A1 n1 c1) wr) (fun _ i _ => 6 - (intOf i).toNat)
  case atStart => exact ⟨0, Nat.zero_le _, by omega, rfl, OwnE.nil _ _, HI0.out⟩
  case round =>
    obtain ⟨k, hk, hk6, rfl, ho, hI⟩ := hrel
    obtain ⟨Al, cl, rfl, _, _, _⟩ := ho.shape
    have hll : ((r.el.take k).map shE).length ≤ 6 := by rw [List.length_map, List.length_take]; omega
    have HO := hide ho
    have HI := hide hI
    have lR := hI.b1.lt
    obtain ⟨r0, r1, r2, r3, r4, r5, r6, r7, r8, r9⟩ := Blk.res hI.b1
    generalize hls : (r.el.take k).map shE = ls at *
    have HLS := hide hls
    clear ho hI hls
    by_cases hlt : k < r.el.length
    case neg =>
      have hkI : ¬ ((k : Int) < (r.el.length : Int)) := by omega
      have hfin : ls = (fewA r).el := by
        rw [← HLS.out]
        show _ = (r.el.take 6).map shE
        rw [show r.el.take k = r.el.take 6 from ?hh]
        case hh => rw [List.take_of_length_le (by omega), List.take_of_length_le (by omega)]
      have HF := hide hfin
      have lT := HI.out.b2.lt
      obtain ⟨z0, z1, z2, z3, z4, z5, z6, z7, z8, z9⟩ := Blk.res HI.out.b2
      have fR := HI.out.b1.frozen
      have fT := HI.out.b2.frozen
      clear hfin
      go_wp2_with fail
      have b2s : Blk (wr.setCell ⟨Rb, 9, none⟩ (.slice Al ls.length cl)) (Rb + 1) tRes ((zeroR 0).cells (.slice none 0 0) (.slice none 0 0)).toArray := HI.out.b2.far (by simp) _
      refine post_put10 b2s rfl fun wz hb2 hgz => ?_
      have d0 := hb2.cell 0
      have d1 := hb2.cell 1
      have d2 := hb2.cell 2
      have d3 := hb2.cell 3
      have d4 := hb2.cell 4
      have d5 := hb2.cell 5
      have d6 := hb2.cell 6
      have d7 := hb2.cell 7
      have d8 := hb2.cell 8
      have d9 := hb2.cell 9
      simp only [List.getElem?_toArray, List.getElem?_cons_zero, List.getElem?_cons_succ] at d0 d1 d2 d3 d4 d5 d6 d7 d8 d9
      refine bodyPost_ret (v := (fewA r).val (.slice A1 n1 c1) (.slice Al ls.length cl)) (by simp [results, Tryd.results10, go_sem, d0, d1, d2, d3, d4, d5, d6, d7, d8, d9]; rfl) rfl ?_
      have k1 : ∀ k, some Rb = some k → ∃ t cs, Blk wr k t cs ∧ t ≠ tU8 := fun k hk => by cases hk; exact ⟨_, _, HI.out.b1, by decide⟩
      have k2 : ∀ k, some (Rb + 1) = some k → ∃ t cs, Blk (wr.setCell ⟨Rb, 9, none⟩ (.slice Al ls.length cl)) k t cs ∧ t ≠ tU8 := fun k hk => by cases hk; exact ⟨_, _, b2s, by decide⟩
      have k3 : ∀ k, some Rb = some k → ∃ t cs, Blk wr k t cs ∧ t ≠ tEnt := fun k hk => by cases hk; exact ⟨_, _, HI.out.b1, by decide⟩
      have k4 : ∀ k, some (Rb + 1) = some k → ∃ t cs, Blk (wr.setCell ⟨Rb, 9, none⟩ (.slice Al ls.length cl)) k t cs ∧ t ≠ tEnt := fun k hk => by cases hk; exact ⟨_, _, b2s, by decide⟩
      have hrb := HRB.out
      exact ⟨_, _, rfl, (HI.out.ob.kept (gb_set (gb_refl _ _) _ _) k1).kept hgz k2, by rw [← HF.out]; exact (HO.out.kept (gb_set (gb_refl _ _) _ _) k3).kept hgz k4, gb_new (gb_set_new HI.out.g (by omega) _ _) hgz (by omega)⟩
    case pos =>
      have hkI : ((k : Int) < (r.el.length : Int)) := by omega
      by_cases hlt6 : k < 6
      case neg =>
        have hk6I : ¬ ((k : Int) < 6) := by omega
        have hfin : ls = (fewA r).el := by
          rw [← HLS.out]
          show _ = (r.el.take 6).map shE
          rw [show r.el.take k = r.el.take 6 from ?hh]
          case hh => rw [show k = 6 by omega]
        have HF := hide hfin
        have lT := HI.out.b2.lt
        obtain ⟨z0, z1, z2, z3, z4, z5, z6, z7, z8, z9⟩ := Blk.res HI.out.b2
        have fR := HI.out.b1.frozen
        have fT := HI.out.b2.frozen
        clear hfin
        go_wp2_with fail
        have b2s : Blk (wr.setCell ⟨Rb, 9, none⟩ (.slice Al ls.length cl)) (Rb + 1) tRes ((zeroR 0).cells (.slice none 0 0) (.slice none 0 0)).toArray := HI.out.b2.far (by simp) _
        refine post_put10 b2s rfl fun wz hb2 hgz => ?_
        have d0 := hb2.cell 0
        have d1 := hb2.cell 1
        have d2 := hb2.cell 2
        have d3 := hb2.cell 3
        have d4 := hb2.cell 4
        have d5 := hb2.cell 5
        have d6 := hb2.cell 6
        have d7 := hb2.cell 7
        have d8 := hb2.cell 8
        have d9 := hb2.cell 9
        simp only [List.getElem?_toArray, List.getElem?_cons_zero, List.getElem?_cons_succ] at d0 d1 d2 d3 d4 d5 d6 d7 d8 d9
        refine bodyPost_ret (v := (fewA r).val (.slice A1 n1 c1) (.slice Al ls.length cl)) (by simp [results, Tryd.results10, go_sem, d0, d1, d2, d3, d4, d5, d6, d7, d8, d9]; rfl) rfl ?_
        have k1 : ∀ k, some Rb = some k → ∃ t cs, Blk wr k t cs ∧ t ≠ tU8 := fun k hk => by cases hk; exact ⟨_, _, HI.out.b1, by decide⟩
        have k2 : ∀ k, some (Rb + 1) = some k → ∃ t cs, Blk (wr.setCell ⟨Rb, 9, none⟩ (.slice Al ls.length cl)) k t cs ∧ t ≠ tU8 := fun k hk => by cases hk; exact ⟨_, _, b2s, by decide⟩
        have k3 : ∀ k, some Rb = some k → ∃ t cs, Blk wr k t cs ∧ t ≠ tEnt := fun k hk => by cases hk; exact ⟨_, _, HI.out.b1, by decide⟩
        have k4 : ∀ k, some (Rb + 1) = some k → ∃ t cs, Blk (wr.setCell ⟨Rb, 9, none⟩ (.slice Al ls.length cl)) k t cs ∧ t ≠ tEnt := fun k hk => by cases hk; exact ⟨_, _, b2s, by decide⟩
        have hrb := HRB.out
        exact ⟨_, _, rfl, (HI.out.ob.kept (gb_set (gb_refl _ _) _ _) k1).kept hgz k2, by rw [← HF.out]; exact (HO.out.kept (gb_set (gb_refl _ _) _ _) k3).kept hgz k4, gb_new (gb_set_new HI.out.g (by omega) _ _) hgz (by omega)⟩
      case pos =>
        have hk6I : (k : Int) < 6 := by omega
        obtain ⟨e, he⟩ : ∃ e, r.el[k]? = some e := ⟨_, List.getElem?_eq_getElem hlt⟩
        obtain ⟨_, _, hve2, _, _, hcc⟩ := HI.out.er
        injection hve2 with e1 e2 e3
        subst e1 e3
        obtain ⟨b, o, rfl, hbB, hj⟩ := hcc (by omega)
        obtain ⟨x0, x1, x2⟩ := hj k e he
        have lb : b < wr.heap.size := Nat.lt_of_lt_of_le hbB (Nat.le_trans hBR HI.out.g.size)
        have hen := (HEN.out e (List.mem_of_getElem? he)).1
        have HE1 := hide he
        have kcv : k < cv := Nat.lt_of_lt_of_le hlt hcv
        clear he hcc hj
        go_wp2_with fail
        refine Reg.wp_reg [0, 0, 2, 0, 14, 30, 62, 126, 0, 256, 0, 1792, 3840, 7936, 16382, 32766, 65535, 131071] [(0, .W), (1, .W), (2, .H), (3, .W), (4, .W), (5, .W), (6, .H), (7, .Q), (8, .W), (9, .H), (10, .W), (11, .W), (12, .W), (13, .H), (14, .W), (15, .E false), (16, .E false), (17, .W)] (Reg.Old _) (by kernel_rfl) (by kernel_rfl) (fun _ => Reg.Old.drew (Reg.Old.refl _)) ?_
        repeat (first | (refine Reg.wpC_W rfl (fun K hK => ?_); go_simp; refine hK _ ?_; clear hK K) | (refine Reg.wpC_H2 rfl rfl (fun K hK => ?_); apply Exists.intro; refine ⟨fun w' hS => ?_, ?_⟩; (have hS2 := hS.2; clear hS; go_simp; first | done | rfl); go_simp; refine hK _ ?_; clear hK K) | (refine Reg.wpC_N rfl rfl (fun K hK => ?_); go_simp; refine hK _ ?_; clear hK K))
        refine Reg.wpC_Q2 rfl rfl (fun K hK => ?_)
        refine ⟨.string (shortS e.name 40), fun w' hS => ?qt, ?_⟩
        case qt => (unfold Oper.quietAt; go_simp; exact ⟨rfl, (short_str_c e.name 40 (by omega) w' hen).mono fun e w'' h => h⟩)
        go_simp
        refine hK _ ?_
        clear hK K
        repeat (first | (refine Reg.wpC_W rfl (fun K hK => ?_); go_simp; refine hK _ ?_; clear hK K) | (refine Reg.wpC_H2 rfl rfl (fun K hK => ?_); apply Exists.intro; refine ⟨fun w' hS => ?_, ?_⟩; (have hS2 := hS.2; clear hS; go_simp; first | done | rfl); go_simp; refine hK _ ?_; clear hK K) | (refine Reg.wpC_N rfl rfl (fun K hK => ?_); go_simp; refine hK _ ?_; clear hK K))
        refine Reg.wpC_E rfl (fun K hK => ?_)
        go_simp
        refine hK _ _ (fun _ => ?so) ?_
        case so => exact ((Reg.Old.refl _).alloc _).drew
        clear hK K
        repeat (first | (refine Reg.wpC_W rfl (fun K hK => ?_); go_simp; refine hK _ ?_; clear hK K) | (refine Reg.wpC_H2 rfl rfl (fun K hK => ?_); apply Exists.intro; refine ⟨fun w' hS => ?_, ?_⟩; (have hS2 := hS.2; clear hS; go_simp; first | done | rfl); go_simp; refine hK _ ?_; clear hK K) | (refine Reg.wpC_N rfl rfl (fun K hK => ?_); go_simp; refine hK _ ?_; clear hK K))
        refine Reg.wpC_E rfl (fun K hK => ?_)
        refine if_wanted rfl ?_
        have hO' := (HO.out.grown (gb_alloc (gb_refl wr none) (.cells #[.string (shortS e.name 40), .int .i64 e.ino, .int .i64 e.gen] tEnt))).grown (gb_drew (gb_refl _ none))
        have hbn := (Blk.new wr tEnt #[.string (shortS e.name 40), .int .i64 e.ino, .int .i64 e.gen]).drew
        have hgw := HI.out.g.size
        refine app_wpE _ _ rfl w.heap.size _ ls (shE e) wr.heap.size 1 1 rfl rfl rfl hO' ⟨hbn.cell 0, hbn.cell 1, hbn.cell 2⟩ (by omega) (by simp; omega) ?_
        intro A2 n2 c2 w2 ho2 hn2 hg2
        have I2 := (HI.out.grown hBR (gb_drew (gb_alloc (gb_refl wr none) (.cells #[.string (shortS e.name 40), .int .i64 e.ino, .int .i64 e.gen] tEnt)))).own hBR hO' hg2
        have HI2 := hide I2
        have HO2 := hide ho2
        clear hO' hbn ho2 hg2 I2 hn2
        refine hK _ _ (fun h => by cases h) ?_
        clear hK K
        repeat (first | (refine Reg.wpC_W rfl (fun K hK => ?_); go_simp; refine hK _ ?_; clear hK K) | (refine Reg.wpC_H2 rfl rfl (fun K hK => ?_); apply Exists.intro; refine ⟨fun w' hS => ?_, ?_⟩; (have hS2 := hS.2; clear hS; go_simp; first | done | rfl); go_simp; refine hK _ ?_; clear hK K) | (refine Reg.wpC_N rfl rfl (fun K hK => ?_); go_simp; refine hK _ ?_; clear hK K))
        refine Reg.wpC_nil ?_
        go_wp2_with fail
        go_roundw
        case rel =>
          refine ⟨k + 1, by omega, by omega, by go_num, ?_, HI2.out⟩
          rw [List.take_add_one, HE1.out, List.map_append, HLS.out]
          exact HO2.out
        case measure => simp [intOf]; omega
end Go.Tr
