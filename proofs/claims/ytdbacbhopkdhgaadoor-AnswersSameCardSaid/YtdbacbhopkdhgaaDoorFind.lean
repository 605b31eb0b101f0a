/- The table of errors searched. No condition. -/
import Derived.Test.YtdbacbhopkdhgaaDoorCodes
namespace Go.Tr
open Go.RowKit Go.Proofs
set_option linter.unusedVariables false
def Rw.val (r : Rw) : Value := .agg #[.int .i64 r.e, .int .u32 r.s, .int .i64 r.c, .string r.t]
def ioRow : Rw := rows[15]
def findR (q : Rw → Bool) : Rw := (rows.find? q).getD ioRow
def FindR (r : Rw) (w : World) (e : Ending) (w' : World) : Prop := e = .returned r.val ∧ w.grownBy w' none
theorem Blk.row {w : World} {g : Nat} {r : Rw} (h : Blk w g tRow r.cells.toArray) : w.cell? ⟨g, 0, none⟩ = some (.int .i64 r.e) ∧ w.cell? ⟨g, 1, none⟩ = some (.int .u32 r.s) ∧ w.cell? ⟨g, 2, none⟩ = some (.int .i64 r.c) ∧ w.cell? ⟨g, 3, none⟩ = some (.string r.t) := ⟨h.cell 0, h.cell 1, h.cell 2, h.cell 3⟩
theorem four {z : Array Value} (h : z.size = 4) : ∃ a b c d, z = #[a, b, c, d] := by
  obtain ⟨l⟩ := z
  match l, h with
  | [a, b, c, d], _ => exact ⟨a, b, c, d, rfl⟩
theorem put4 {w : World} {T : Nat} {t : TypeId} {cs : Array Value} (v0 v1 v2 v3 : Value) (hb : Blk w T t cs) (hcs : cs.size = 4) : Blk ((((w.setCell ⟨T, 0, none⟩ v0).setCell ⟨T, 1, none⟩ v1).setCell ⟨T, 2, none⟩ v2).setCell ⟨T, 3, none⟩ v3) T t #[v0, v1, v2, v3] ∧ w.grownBy ((((w.setCell ⟨T, 0, none⟩ v0).setCell ⟨T, 1, none⟩ v1).setCell ⟨T, 2, none⟩ v2).setCell ⟨T, 3, none⟩ v3) (some T) := by
  obtain ⟨a, b, c, d, rfl⟩ := four hcs
  refine ⟨?_, gb_set (gb_set (gb_set (gb_set (gb_refl _ _) _ _) _ _) _ _) _ _⟩
  have h := (((hb.set 0 v0).set 1 v1).set 2 v2).set 3 v3
  simp only [List.setIfInBounds_toArray, List.set_cons_zero, List.set_cons_succ] at h
  exact h
theorem post_put4 {P : Program} {f : Func} {Q : Ending → World → Prop} {act : Act} {w : World} {T : Nat} {t : TypeId} {cs : Array Value} {v0 v1 v2 v3 : Value} (hb : Blk w T t cs) (hcs : cs.size = 4)
    (h : ∀ w2, Blk w2 T t #[v0, v1, v2, v3] → w.grownBy w2 (some T) → bodyPost P f Q .ret act w2) : bodyPost P f Q .ret act ((((w.setCell ⟨T, 0, none⟩ v0).setCell ⟨T, 1, none⟩ v1).setCell ⟨T, 2, none⟩ v2).setCell ⟨T, 3, none⟩ v3) :=
  h _ (put4 v0 v1 v2 v3 hb hcs).1 (put4 v0 v1 v2 v3 hb hcs).2
theorem rows_drop (k : Nat) (hk : k < 19) : rows.drop k = (rows[k]'hk) :: rows.drop (k + 1) := List.drop_eq_getElem_cons (by exact hk)
theorem rows_io (k : Nat) (hk : k < 19) : (rows[k]'hk).e = 21 → k = 15 := by
  match k, hk with
  | 0, _ => first | (intro h; cases h; done) | (intro _; rfl)
  | 1, _ => first | (intro h; cases h; done) | (intro _; rfl)
  | 2, _ => first | (intro h; cases h; done) | (intro _; rfl)
  | 3, _ => first | (intro h; cases h; done) | (intro _; rfl)
  | 4, _ => first | (intro h; cases h; done) | (intro _; rfl)
  | 5, _ => first | (intro h; cases h; done) | (intro _; rfl)
  | 6, _ => first | (intro h; cases h; done) | (intro _; rfl)
  | 7, _ => first | (intro h; cases h; done) | (intro _; rfl)
  | 8, _ => first | (intro h; cases h; done) | (intro _; rfl)
  | 9, _ => first | (intro h; cases h; done) | (intro _; rfl)
  | 10, _ => first | (intro h; cases h; done) | (intro _; rfl)
  | 11, _ => first | (intro h; cases h; done) | (intro _; rfl)
  | 12, _ => first | (intro h; cases h; done) | (intro _; rfl)
  | 13, _ => first | (intro h; cases h; done) | (intro _; rfl)
  | 14, _ => first | (intro h; cases h; done) | (intro _; rfl)
  | 15, _ => first | (intro h; cases h; done) | (intro _; rfl)
  | 16, _ => first | (intro h; cases h; done) | (intro _; rfl)
  | 17, _ => first | (intro h; cases h; done) | (intro _; rfl)
  | 18, _ => first | (intro h; cases h; done) | (intro _; rfl)
  | n + 19, h => exact absurd h (by omega)
theorem rows_io2 (k : Nat) (hk : k < 19) : k = 15 → (rows[k]'hk) = ioRow ∧ (rows[k]'hk).e = 21 := by
  intro h
  subst h
  exact ⟨rfl, rfl⟩
theorem isErr_c (r : Rw) (e0 : Int) (E : Nat) (w : World) (hE : Blk w E tErr #[.int .i64 e0]) : Calls Tryd.prog 87 #[r.val, .pointer (some ⟨E, 0, none⟩)] w fun e w' => e = .returned (.bool (r.e == e0)) ∧ w.grownBy w' none := by
  have l := hE.lt
  have c := hE.cell 0
  simp only [List.getElem?_toArray, List.getElem?_cons_zero] at c
  unfold Rw.val
  go_enter Tryd.func87, Tryd.ntmps87
  go_wp2_with fail
  go_ret
  exact ⟨rfl, gb_alloc (gb_refl _ _) _⟩
set_option maxRecDepth 20000 in
set_option maxHeartbeats 2000000 in
theorem findErr_c (e0 : Int) (E : Nat) (w : World) (hE : Blk w E tErr #[.int .i64 e0]) (ht : Tab w) : Calls Tryd.prog 86 #[.func (.func 87) #[] #[.pointer (some ⟨E, 0, none⟩)]] w (FindR (findR fun r => r.e == e0) w) := by
  obtain ⟨tt, fr, ht⟩ := ht
  have hT1 : ∀ o1 o2, ((w.alloc o1).alloc o2).heap[0]? = some (.cells tabV tt fr) := fun o1 o2 => (Below.heap_alloc _ o2 _ (by simp)).trans ((Below.heap_alloc w o1 _ (Array.getElem?_eq_some_iff.1 ht).1).trans ht)
  have HT := hide hT1
  have Hx := hide tab_ext
  obtain ⟨T, hT⟩ : ∃ T, T = tabV := ⟨_, rfl⟩
  rw [← hT] at HT Hx
  have HS := hide infoTab
  rw [← hT] at HS
  clear hT ht hT1
  have b1 : ∀ z, Blk ((w.alloc (.cells z tRow)).alloc (.cells z tRow)) w.heap.size tRow z ∧ Blk ((w.alloc (.cells z tRow)).alloc (.cells z tRow)) (w.heap.size + 1) tRow z ∧ w.grownBy ((w.alloc (.cells z tRow)).alloc (.cells z tRow)) none := fun z =>
    ⟨(Blk.new w tRow z).alloc _, (by have h := Blk.new (w.alloc (.cells z tRow)) tRow z; simpa using h), gb_alloc (gb_alloc (gb_refl _ _) _) _⟩
  have HB := hide b1
  have HE := hide hE
  clear b1 hE
  go_enter Tryd.func86, Tryd.ntmps86
  go_wp2_with (refine wpList_load_row rfl tTab _ rfl _ rfl tt T fr _ (HT.out _ _) Tryd.underlying105 rfl HS.out ?_)
  have hb := HB.out #[.int .i64 0, .int .u32 0, .int .i64 0, .string ⟨#[]⟩]
  have HB2 := hide hb
  clear hb HB HT
  obtain ⟨B, hB⟩ : ∃ B, w.heap.size = B := ⟨_, rfl⟩
  have hw : B ≤ w.heap.size := Nat.le_of_eq hB.symm
  have hw2 : w.heap.size ≤ B := Nat.le_of_eq hB
  rw [hB] at HB2 ⊢
  clear hB
  go_loopw [7] (fun i wr => ∃ k : Nat, k ≤ 19 ∧ i = .int .i64 k ∧ rows.find? (fun r => r.e == e0) = (rows.drop k).find? (fun r => r.e == e0) ∧ (∃ z, Blk wr B tRow z ∧ z.size = 4) ∧ (∃ z : Rw, Blk wr (B + 1) tRow z.cells.toArray ∧ (15 < k → z = ioRow)) ∧ w.grownBy wr none) (fun i _ => 19 - (intOf i).toNat)
  case atStart => exact ⟨0, by omega, rfl, rfl, ⟨_, HB2.out.1, rfl⟩, ⟨⟨0, 0, 0, ⟨#[]⟩⟩, HB2.out.2.1, fun h => absurd h (by omega)⟩, HB2.out.2.2⟩
  case round =>
    obtain ⟨k, hk, rfl, hf, ⟨zr, br, hzs⟩, ⟨zo, bo, hzo⟩, hg⟩ := hrel
    clear HB2
    by_cases hlt : k < 19
    · have hx := Hx.out k hlt
      have hdr := rows_drop k hlt
      have hio := rows_io k hlt
      have hio2 := rows_io2 k hlt
      generalize rows[k]'hlt = r at *
      simp only [Rw.cells] at hx
      have hix := fun wz => run_tabidx T k r hlt hx wz
      have hE2 := HE.out.grown hg (by simp)
      have HE2 := hide hE2
      have HG := hide hg
      have HBR := hide br
      have HBO := hide bo
      have HF := hide hf
      have HDR := hide hdr
      have HIO := hide hio
      have HIO2 := hide hio2
      have HZO := hide hzo
      have HZS := hide hzs
      have hkI : (k : Int) < 19 := by omega
      clear hx hE2 hg br bo hf hdr hio hio2 hzo hzs
      go_wp2_with fail
      refine (isErr_c r e0 E _ ((HE2.out.alloc _))).mono ?_
      rintro e w5 ⟨rfl, hg5⟩
      have bR := (Blk.new wr tRow r.cells.toArray).grown hg5 (by simp)
      have bB := (HBR.out.alloc (.cells r.cells.toArray tRow)).grown hg5 (by simp)
      have bO := (HBO.out.alloc (.cells r.cells.toArray tRow)).grown hg5 (by simp)
      have g5 := gb_trans (gb_alloc HG.out _) hg5
      have lR := bR.lt
      have lB := bB.lt
      have lO := bO.lt
      obtain ⟨r0, r1, r2, r3⟩ := Blk.row bR
      obtain ⟨o0, o1, o2, o3⟩ := Blk.row bO
      obtain ⟨z0, z1, z2, z3, rfl⟩ := four HZS.out
      have q0 := bB.cell 0
      have q1 := bB.cell 1
      have q2 := bB.cell 2
      have q3 := bB.cell 3
      simp only [List.getElem?_toArray, List.getElem?_cons_zero, List.getElem?_cons_succ] at q0 q1 q2 q3
      have fB := bB.frozen
      have fO := bO.frozen
      have HBB := hide bB
      have HBO5 := hide bO
      have HG5 := hide g5
      clear bR bB bO g5 hg5
      by_cases hq : r.e = e0
      · have hqb : (r.e == e0) = true := by simp [hq]
        rw [hqb]
        have HQ := hide hq
        clear hqb hq
        go_wp2_with fail
        refine post_put4 HBB.out rfl fun w6 hb6 hg6 => ?_
        have d0 := hb6.cell 0
        have d1 := hb6.cell 1
        have d2 := hb6.cell 2
        have d3 := hb6.cell 3
        simp only [List.getElem?_toArray, List.getElem?_cons_zero, List.getElem?_cons_succ] at d0 d1 d2 d3
        refine bodyPost_ret (v := r.val) (by simp [results, Tryd.results86, go_sem, d0, d1, d2, d3]; rfl) rfl ?_
        have hfr : findR (fun r => r.e == e0) = r := by
          unfold findR
          rw [HF.out, HDR.out, List.find?_cons_of_pos (by simpa using HQ.out)]
          rfl
        rw [hfr]
        exact ⟨rfl, gb_new HG5.out hg6 hw2⟩
      · have hqb : (r.e == e0) = false := by simpa using hq
        rw [hqb]
        clear hqb
        have hnext : rows.find? (fun r => r.e == e0) = (rows.drop (k + 1)).find? (fun r => r.e == e0) := by rw [HF.out, HDR.out, List.find?_cons_of_neg (by simpa using hq)]
        have HN := hide hnext
        clear hnext
        by_cases hk15 : k = 15
        · have hr := (HIO2.out hk15).1
          have hre := (HIO2.out hk15).2
          have HRE := hide hre
          have hbe : (r.e == 21) = true := by simp [hre]
          have HR := hide hr
          have HK := hide hk15
          clear hr hre hk15
          go_wp2_with fail
          have hO9 := put4 (.int .i64 r.e) (.int .u32 r.s) (.int .i64 r.c) (.string r.t) HBO5.out rfl
          go_roundw
          case rel => exact ⟨k + 1, by omega, by go_num, HN.out, ⟨_, HBB.out.grown hO9.2 (by simp), rfl⟩, ⟨r, hO9.1, fun _ => HR.out⟩, gb_new HG5.out hO9.2 (by omega)⟩
          case measure => simp [intOf]; omega
        · have hne : ¬ r.e = 21 := fun h => hk15 (HIO.out h)
          have hbe : (r.e == 21) = false := by simpa using hne
          go_wp2_with fail
          go_roundw
          case rel => exact ⟨k + 1, by omega, by go_num, HN.out, ⟨_, HBB.out, rfl⟩, ⟨zo, HBO5.out, fun h => HZO.out (by omega)⟩, HG5.out⟩
          case measure => simp [intOf]; omega
    · obtain rfl : k = 19 := by omega
      have hnone : findR (fun r => r.e == e0) = zo := by
        unfold findR
        rw [hf, hzo (by omega)]
        rfl
      have HN := hide hnone
      have lB := br.lt
      have lO := bo.lt
      obtain ⟨o0, o1, o2, o3⟩ := Blk.row bo
      obtain ⟨z0, z1, z2, z3, rfl⟩ := four hzs
      have q0 := br.cell 0
      have q1 := br.cell 1
      have q2 := br.cell 2
      have q3 := br.cell 3
      simp only [List.getElem?_toArray, List.getElem?_cons_zero, List.getElem?_cons_succ] at q0 q1 q2 q3
      have fB := br.frozen
      have HBB := hide br
      have HG := hide hg
      clear hnone br bo hf hzo hg hzs
      go_wp2_with fail
      refine post_put4 HBB.out rfl fun w6 hb6 hg6 => ?_
      have d0 := hb6.cell 0
      have d1 := hb6.cell 1
      have d2 := hb6.cell 2
      have d3 := hb6.cell 3
      simp only [List.getElem?_toArray, List.getElem?_cons_zero, List.getElem?_cons_succ] at d0 d1 d2 d3
      refine bodyPost_ret (v := zo.val) (by simp [results, Tryd.results86, go_sem, d0, d1, d2, d3]; rfl) rfl ?_
      rw [HN.out]
      exact ⟨rfl, gb_new HG.out hg6 hw2⟩
def StatusR (n : Int) (w : World) (e : Ending) (w' : World) : Prop := e = .returned (.int .u32 n) ∧ w.grownBy w' none
def statOf (e : Int) : Int := (findR fun r => r.e == e).s
theorem of_c (e0 : Int) (w : World) (ht : Tab w) : Calls Tryd.prog 68 #[.int .i64 e0] w (FindR (findR fun r => r.e == e0) w) := by
  have h1 : ∀ z, Blk ((w.alloc (.cells #[.int .i64 e0] tErr)).alloc (.cells z tRow)) w.heap.size tErr #[.int .i64 e0] ∧ Blk ((w.alloc (.cells #[.int .i64 e0] tErr)).alloc (.cells z tRow)) (w.heap.size + 1) tRow z ∧ w.grownBy ((w.alloc (.cells #[.int .i64 e0] tErr)).alloc (.cells z tRow)) none := fun z =>
    ⟨(Blk.new w tErr _).alloc _, (by have h := Blk.new (w.alloc (.cells #[.int .i64 e0] tErr)) tRow z; simpa using h), gb_alloc (gb_alloc (gb_refl _ _) _) _⟩
  have H1 := hide h1
  have HT := hide ht
  clear h1 ht
  go_enter Tryd.func68, Tryd.ntmps68
  go_wp2_with fail
  refine (findErr_c e0 w.heap.size _ (H1.out _).1 (HT.out.grown (H1.out _).2.2)).mono ?_
  rintro e w5 ⟨rfl, hg5⟩
  have hb := (H1.out #[.int .i64 0, .int .u32 0, .int .i64 0, .string ⟨#[]⟩]).2.1.grown hg5 (by simp)
  have g5 := gb_trans (H1.out #[.int .i64 0, .int .u32 0, .int .i64 0, .string ⟨#[]⟩]).2.2 hg5
  obtain ⟨r, hr⟩ : ∃ r, (findR fun r => r.e == e0) = r := ⟨_, rfl⟩
  rw [hr]
  have HR := hide hr
  clear hr
  have lB := hb.lt
  have q0 := hb.cell 0
  have q1 := hb.cell 1
  have q2 := hb.cell 2
  have q3 := hb.cell 3
  simp only [List.getElem?_toArray, List.getElem?_cons_zero, List.getElem?_cons_succ] at q0 q1 q2 q3
  have fB := hb.frozen
  have HB := hide hb
  have HG := hide g5
  clear hb g5 hg5
  unfold Rw.val
  go_wp2_with fail
  refine post_put4 HB.out rfl fun w6 hb6 hg6 => ?_
  have d0 := hb6.cell 0
  have d1 := hb6.cell 1
  have d2 := hb6.cell 2
  have d3 := hb6.cell 3
  simp only [List.getElem?_toArray, List.getElem?_cons_zero, List.getElem?_cons_succ] at d0 d1 d2 d3
  refine bodyPost_ret (v := r.val) (by simp [results, Tryd.results68, go_sem, d0, d1, d2, d3]; rfl) rfl ?_
  rw [HR.out]
  exact ⟨rfl, gb_new HG.out hg6 (by omega)⟩
theorem run_field_s (r : Rw) (w : World) : (Instr.field tRow r.val 1).run Tryd.prog w = .ok (.int .u32 r.s) w := by
  simp [Instr.field, Rw.val, asAgg, go_sem]
theorem run_field_e (r : Rw) (w : World) : (Instr.field tRow r.val 0).run Tryd.prog w = .ok (.int .i64 r.e) w := by
  simp [Instr.field, Rw.val, asAgg, go_sem]
set_option maxRecDepth 20000 in
theorem status_c (e0 : Int) (w : World) (ht : Tab w) : Calls Tryd.prog 36 #[.int .i64 e0] w fun e w' => e = .returned (.int .u32 (statOf e0)) ∧ w.grownBy w' none := by
  go_enter Tryd.func36, Tryd.ntmps36
  go_wp2_with fail
  refine (of_c e0 _ ht).mono ?_
  rintro e w5 ⟨rfl, hg5⟩
  obtain ⟨r, hr⟩ : ∃ r, (findR fun r => r.e == e0) = r := ⟨_, rfl⟩
  have hst : statOf e0 = r.s := by unfold statOf; rw [hr]
  rw [hr]
  have HST := hide hst
  clear hr hst
  have hfl := fun wz => run_field_s r wz
  unfold Rw.val at hfl ⊢
  go_wp2_with fail
  go_ret
  exact ⟨by rw [HST.out]; rfl, hg5⟩
/-! ### the document's -/
def statL : List Int := rows.map (·.s)
def codeN (e : Int) : Nat := (errL.findIdx? (· == e)).getD 15
def uints (xs : List Int) : List Value := xs.map (Value.int .u32)
abbrev tU32 : TypeId := 52
theorem stats_c (w : World) : Calls Tryd.prog 75 #[] w fun e w' => ∃ v, e = .returned v ∧ OwnV tU32 w.heap.size w' v (uints statL) ∧ w.grownBy w' none := by
  go_enter Tryd.func75, Tryd.ntmps75
  go_wp2_with fail
  go_ret
  exact ⟨_, rfl, OwnV.lit _ (uints statL) _ _ rfl rfl rfl (by decide), gb_alloc (gb_refl _ _) _⟩
def CodeR (n : Nat) (w : World) (e : Ending) (w' : World) : Prop := e = .returned (.int .i64 (n : Int)) ∧ w.grownBy w' none
theorem errL_len : errL.length = 19 := rfl
set_option maxHeartbeats 2000000 in
theorem code_c (x : Int) (w : World) : Calls Tryd.prog 76 #[.int .i64 x] w (CodeR (codeN x) w) := by
  go_enter Tryd.func76, Tryd.ntmps76
  go_wp2_with fail
  refine (rall_c _).mono ?_
  rintro e w1 ⟨v, rfl, ho, hg⟩
  obtain ⟨xs, hxs⟩ : ∃ xs, xs = errL := ⟨_, rfl⟩
  have hlen0 : xs.length = 19 := by rw [hxs]; rfl
  have hcode : codeN x = (xs.findIdx? (· == x)).getD 15 := by rw [hxs]; rfl
  rw [← hxs] at ho
  obtain ⟨A, c, rfl, hA, hn, hc⟩ := ho.shape
  have hlen : (ints xs).length = 19 := by rw [← hlen0]; simp [ints]
  rw [hlen] at hc hn ho ⊢
  cases A with
  | none => have := (hn rfl).1; omega
  | some a1 =>
  obtain ⟨g1, rfl, _, l1⟩ := hA _ rfl
  have HO := hide ho
  have HL := hide hlen0
  have HC := hide hcode
  generalize codeN x = cn at *
  clear ho hA hn hlen hlen0 hcode hxs
  go_wp2_with fail
  go_loop [4] (fun i => ∃ k : Nat, k ≤ 19 ∧ i = .int .i64 k ∧ ∀ j, j < k → xs[j]? ≠ some x) (fun i => 19 - (intOf i).toNat)
  case atStart => exact ⟨0, Nat.zero_le _, rfl, fun j hj => absurd hj (by omega)⟩
  case round =>
    obtain ⟨k, hk, rfl, hno⟩ := hrel
    have HNo := hide hno
    clear hno
    by_cases hlt : k < 19
    · have hkx : k < xs.length := by rw [HL.out]; exact hlt
      obtain ⟨y, hy⟩ : ∃ y, xs[k]? = some y := ⟨_, List.getElem?_eq_getElem hkx⟩
      have hcell := OwnV.cell (e := .int .i64 y) (j := k) HO.out (by simp [ints, hy])
      have hkI : (k : Int) < 19 := by omega
      have HY := hide hy
      clear hy
      by_cases hxy : x = y
      · subst hxy
        have hc : cn = k := by
          rw [HC.out]
          have : xs.findIdx? (· == x) = some k := by
            rw [List.findIdx?_eq_some_iff_getElem]
            have hy := HY.out
            rw [List.getElem?_eq_getElem hkx] at hy
            injection hy with hy
            refine ⟨hkx, by simp [hy], fun j hj => ?_⟩
            have := HNo.out j hj
            rw [List.getElem?_eq_getElem (by omega)] at this
            simp only [ne_eq, Option.some.injEq] at this
            simpa using this
          rw [this]
          rfl
        subst hc
        go_wp2_with fail
        go_ret
        exact ⟨rfl, hg⟩
      · have hxy2 : ¬ y = x := fun h => hxy h.symm
        go_wp2_with fail
        go_round
        case rel =>
          refine ⟨k + 1, by omega, by go_num, fun j hj => ?_⟩
          by_cases hjk : j < k
          · exact HNo.out j hjk
          · obtain rfl : j = k := by omega
            rw [HY.out]
            intro h
            injection h with h
            exact hxy2 h
        case measure => simp [intOf]; omega
    · obtain rfl : k = 19 := by omega
      have hc : cn = 15 := by
        rw [HC.out]
        have : xs.findIdx? (· == x) = none := by
          rw [List.findIdx?_eq_none_iff]
          intro z hz
          obtain ⟨j, hj, hjz⟩ := List.mem_iff_getElem.1 hz
          have := HNo.out j (by have := HL.out; omega)
          rw [List.getElem?_eq_getElem hj] at this
          simp only [ne_eq, Option.some.injEq, hjz] at this
          simpa using this
        rw [this]
        rfl
      subst hc
      go_wp2_with fail
      go_ret
      exact ⟨rfl, hg⟩
theorem codeN_lt (x : Int) : codeN x < 19 := by
  unfold codeN
  cases h : errL.findIdx? (· == x) with
  | none => decide
  | some i =>
    rw [List.findIdx?_eq_some_iff_getElem] at h
    exact h.1
theorem statOf_eq (x : Int) : statL[codeN x]? = some (statOf x) := by
  by_cases hx : x ∈ errL
  · have : x = 0 ∨ x = 8 ∨ x = 9 ∨ x = 10 ∨ x = 11 ∨ x = 12 ∨ x = 13 ∨ x = 14 ∨ x = 15 ∨ x = 16 ∨ x = 20 ∨ x = 17 ∨ x = 18 ∨ x = 19 ∨ x = 22 ∨ x = 21 ∨ x = 7 ∨ x = 5 ∨ x = 2 := by simpa [errL, rows] using hx
    rcases this with h | h | h | h | h | h | h | h | h | h | h | h | h | h | h | h | h | h | h <;> subst h <;> rfl
  · have h1 : errL.findIdx? (· == x) = none := by
      rw [List.findIdx?_eq_none_iff]
      intro z hz
      simp only [beq_eq_false_iff_ne, ne_eq]
      rintro rfl
      exact hx hz
    have h2 : rows.find? (fun r => r.e == x) = none := by
      rw [List.find?_eq_none]
      intro r hr
      simp only [beq_iff_eq]
      rintro rfl
      exact hx (List.mem_map.2 ⟨r, hr, rfl⟩)
    unfold codeN statOf findR
    rw [h1, h2]
    rfl
theorem rstatus_c (x : Int) (w : World) : Calls Tryd.prog 47 #[.int .i64 x] w fun e w' => e = .returned (.int .u32 (statOf x)) ∧ w.grownBy w' none := by
  have hs := statOf_eq x
  have hl := codeN_lt x
  go_enter Tryd.func47, Tryd.ntmps47
  go_wp2_with fail
  refine (stats_c _).mono ?_
  rintro e w1 ⟨v, rfl, ho, hg⟩
  obtain ⟨xs, hxs⟩ : ∃ xs, xs = statL := ⟨_, rfl⟩
  have hlen0 : xs.length = 19 := by rw [hxs]; rfl
  rw [← hxs] at ho hs
  obtain ⟨A, c, rfl, hA, hn, hc⟩ := ho.shape
  have hlen : (uints xs).length = 19 := by rw [← hlen0]; simp [uints]
  rw [hlen] at hc hn ho ⊢
  cases A with
  | none => have := (hn rfl).1; omega
  | some a1 =>
  obtain ⟨g1, rfl, _, l1⟩ := hA _ rfl
  have HO := hide ho
  have HS := hide hs
  clear ho hA hn hlen hlen0 hxs hs
  go_wp2_with fail
  refine (code_c x _).mono ?_
  rintro e w2 ⟨rfl, hg2⟩
  have hcell := OwnV.cell (e := .int .u32 (statOf x)) (j := codeN x) (HO.out.grown hg2) (by simp [uints, HS.out])
  generalize codeN x = k at *
  obtain ⟨sx, hsx⟩ : ∃ sx, statOf x = sx := ⟨_, rfl⟩
  rw [hsx] at hcell
  have HSX := hide hsx
  clear hsx
  have hkI : (k : Int) < 19 := by omega
  go_wp2_with fail
  go_ret
  exact ⟨by rw [HSX.out]; rfl, gb_trans hg hg2⟩
end Go.Tr
