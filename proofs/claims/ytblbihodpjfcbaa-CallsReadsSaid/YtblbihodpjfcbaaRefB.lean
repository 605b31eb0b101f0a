/- The document's bytes of what a procedure is asked with. No condition. -/
import Derived.Test.YtblbihodpjfcbaaRefW
import Derived.Test.YtblbihodpjfcbaaFields
namespace Go.Tr
open Go.RowKit Go.Proofs
set_option linter.unusedVariables false

/-- append to a row of the call's own, as a run -/
theorem run_app (ty : TypeId) (base : Nat) (w : World) (v vx : Value) (l1 l2 : List UInt8) (hown : OwnB base w v l1) (hbs : BS w vx l2) (hn : (l1 ++ l2).length ≤ 1000000000) (hbase : base ≤ w.heap.size) :
    ∃ A n c w', (Builtin.append_ #[tBs, tBs] ty #[v, vx]).run Try.prog w = .ok (.slice A n c) w' ∧ OwnB base w' (.slice A n c) (l1 ++ l2) ∧ w.grownBy w' v.ownBlock := by
  obtain ⟨i0, hi, hz0, hz1, hz2⟩ := info_parts infoU8
  have hlen : (l1 ++ l2).length = l1.length + l2.length := List.length_append
  obtain ⟨A2, c2, rfl, hc2, hn2, hcell2⟩ := hbs
  rcases A2 with _ | ad
  · have h0 : l2 = [] := List.eq_nil_of_length_eq_zero (by have := hn2 rfl; omega)
    subst h0
    have hc0 := hn2 rfl
    subst hc0
    obtain ⟨A, c, hv⟩ := hown.shape
    refine ⟨A, l1.length, c, w, ?_, by rw [List.append_nil, ← hv]; exact hown, gb_refl _ _⟩
    rw [← hv]
    exact run_append_owned_none w base tBs ty tU8 i0 1 Try.underlying23 hi v l1.length (bv l1) hown
  · have hb : BS w (.slice (some ad) l2.length c2) l2 := ⟨some ad, c2, rfl, hc2, hn2, hcell2⟩
    obtain ⟨v', w', hrun, hown', hg, _⟩ := run_append_own (P := Try.prog) w base tBs ty tU8 i0 (.int .u8 0) 1 1 Try.underlying23 hi hz0 hz1 hz2 rfl (by decide) v l1.length (bv l1) hown ad l2.length c2 (bv l2) (by simp [bv]) (hb.cells.2.2.2 ad rfl) (bv_one l2) (by unfold maxLen; omega) (by omega) hbase
    rw [← bv_append, ← hlen] at hown'
    obtain ⟨A, c, rfl⟩ := OwnB.shape (l := l1 ++ l2) hown'
    exact ⟨A, _, c, w', hrun, hown', hg⟩
theorem if_wanted {c : Bool} {p q : Prop} (hc : c = true) (h : p) : if c = true then p else q := by
  rw [if_pos hc]
  exact h
/-- the same at a region's step -/
theorem app_wp {o : Oper} {a : Act} {w : World} {K : Act → World → Prop} {Q : Exit → Act → World → Prop} (s x : Operand)
    (ho : o.op = .call { callee := .builtin .append, args := #[s, x], argTypes := #[tBs, tBs] })
    (base : Nat) (v vx : Value) (l1 l2 : List UInt8) (hs : a.eval s = v) (hx : a.eval x = vx) (hown : OwnB base w v l1) (hbs : BS w vx l2) (hn : (l1 ++ l2).length ≤ 1000000000) (hbase : base ≤ w.heap.size)
    (h : ∀ A n c w', OwnB base w' (.slice A n c) (l1 ++ l2) → w.grownBy w' v.ownBlock → K (a.put o.dst (.slice A n c)) w') : o.wp Try.prog a w K Q := by
  obtain ⟨A, n, c, w', hrun, h1, h2⟩ := run_app o.type base w v vx l1 l2 hown hbs hn hbase
  unfold Oper.wp execOp
  simp only [ho, resolve, invoke, builtin, Sem.run_bind, Sem.run_pure, Result.andThen_ok, List.map_toArray, List.map_cons, List.map_nil, hs, hx]
  rw [hrun]
  simp only [Result.andThen_ok, Oper.upon]
  exact h A n c w' h1 h2
set_option maxHeartbeats 2000000 in
theorem field0_w (a : AA) (w : World) (ha : a.ok w) : Calls Try.prog 23 #[a.val, .int .u8 104] w (RetB w (a.bytesF 0)) := by
  have hn1 := ha.n1
  have hn2 := ha.n2
  have hdn := ha.dn
  have hd := ha.d
  unfold AA.val AA.cells
  go_enter Try.func23, Try.ntmps23
  go_wp2_with fail
  refine Reg.wp_reg [0, 1, 3, 7, 0, 16, 48, 127, 255, 511] [(0, .W), (1, .W), (2, .H), (3, .E true), (4, .W), (5, .W), (6, .H), (7, .E false), (8, .E false), (9, .W)] (Reg.Old _) (by kernel_rfl) (by kernel_rfl) (fun _ => Reg.Old.drew (Reg.Old.refl _)) ?_
  repeat (first | (refine Reg.wpC_W rfl (fun K hK => ?_); go_simp; refine hK _ ?_; clear hK K) | (refine Reg.wpC_H2 rfl rfl (fun K hK => ?_); apply Exists.intro; refine ⟨fun w' hS => ?_, ?_⟩; (have hS2 := hS.2; clear hS; go_simp; first | done | rfl); go_simp; refine hK _ ?_; clear hK K) | (refine Reg.wpC_N rfl rfl (fun K hK => ?_); go_simp; refine hK _ ?_; clear hK K))
  refine Reg.wpC_E rfl (fun K hK => ?_)
  go_simp
  refine (number_w a.hi _).mono ?_
  rintro e w1 ⟨A1, n1, c1, rfl, ho1, hg1⟩
  simp only []
  have o1 := (Reg.Old.drew (Reg.Old.refl _)).grown hg1
  refine hK _ _ (fun _ => o1) ?_
  clear hK K
  repeat (first | (refine Reg.wpC_W rfl (fun K hK => ?_); go_simp; refine hK _ ?_; clear hK K) | (refine Reg.wpC_H2 rfl rfl (fun K hK => ?_); apply Exists.intro; refine ⟨fun w' hS => ?_, ?_⟩; (have hS2 := hS.2; clear hS; go_simp; first | done | rfl); go_simp; refine hK _ ?_; clear hK K) | (refine Reg.wpC_N rfl rfl (fun K hK => ?_); go_simp; refine hK _ ?_; clear hK K))
  refine Reg.wpC_E rfl (fun K hK => ?_)
  go_simp
  refine (number_w a.hg _).mono ?_
  rintro e w2 ⟨A2, n2, c2, rfl, ho2, hg2⟩
  simp only []
  have o2 := o1.grown hg2
  refine hK _ _ (fun _ => o2) ?_
  clear hK K
  repeat (first | (refine Reg.wpC_W rfl (fun K hK => ?_); go_simp; refine hK _ ?_; clear hK K) | (refine Reg.wpC_H2 rfl rfl (fun K hK => ?_); apply Exists.intro; refine ⟨fun w' hS => ?_, ?_⟩; (have hS2 := hS.2; clear hS; go_simp; first | done | rfl); go_simp; refine hK _ ?_; clear hK K) | (refine Reg.wpC_N rfl rfl (fun K hK => ?_); go_simp; refine hK _ ?_; clear hK K))
  have ho3 := ho1.grown hg2
  refine Reg.wpC_E rfl (fun K hK => ?_)
  refine if_wanted rfl ?_
  refine app_wp _ _ rfl _ _ _ _ _ rfl rfl ho3 ho2.bs (by simp [num32, be32_length]) (Nat.le_trans hg1.size hg2.size) ?_
  intro A3 n3 c3 w3 ho4 hg4
  refine hK _ _ (fun h => by cases h) ?_
  clear hK K
  repeat (refine Reg.wpC_W rfl (fun K hK => ?_); go_simp; refine hK _ ?_; clear hK K)
  refine Reg.wpC_nil ?_
  go_wp2_with fail
  go_ret
  have hb : w.heap.size ≤ ((w.alloc (.cells #[.int .i64 a.proc, .int .i64 a.off, .int .i64 a.count, .int .i64 a.size, .int .i64 a.mode, .int .i64 a.hi, .int .i64 a.hg, .int .i64 a.ji, .int .i64 a.jg, .string a.name, .string a.name2, a.data] tArgs)).drew).heap.size := by simp
  exact RetB.mk ho4 hb (gb_new' ho3 hb (gb_trans (gb_trans (gb_drew (gb_alloc (gb_refl _ _) _)) hg1) hg2) hg4)
set_option maxHeartbeats 2000000 in
theorem field1_w (a : AA) (w : World) (ha : a.ok w) : Calls Try.prog 23 #[a.val, .int .u8 105] w (RetB w (a.bytesF 1)) := by
  have hn1 := ha.n1
  have hn2 := ha.n2
  have hdn := ha.dn
  have hd := ha.d
  unfold AA.val AA.cells
  go_enter Try.func23, Try.ntmps23
  go_wp2_with fail
  refine Reg.wp_reg [0, 1, 3, 7, 0, 16, 48, 127, 255, 511] [(0, .W), (1, .W), (2, .H), (3, .E true), (4, .W), (5, .W), (6, .H), (7, .E false), (8, .E false), (9, .W)] (Reg.Old _) (by kernel_rfl) (by kernel_rfl) (fun _ => Reg.Old.drew (Reg.Old.refl _)) ?_
  repeat (first | (refine Reg.wpC_W rfl (fun K hK => ?_); go_simp; refine hK _ ?_; clear hK K) | (refine Reg.wpC_H2 rfl rfl (fun K hK => ?_); apply Exists.intro; refine ⟨fun w' hS => ?_, ?_⟩; (have hS2 := hS.2; clear hS; go_simp; first | done | rfl); go_simp; refine hK _ ?_; clear hK K) | (refine Reg.wpC_N rfl rfl (fun K hK => ?_); go_simp; refine hK _ ?_; clear hK K))
  refine Reg.wpC_E rfl (fun K hK => ?_)
  go_simp
  refine (number_w a.ji _).mono ?_
  rintro e w1 ⟨A1, n1, c1, rfl, ho1, hg1⟩
  simp only []
  have o1 := (Reg.Old.drew (Reg.Old.refl _)).grown hg1
  refine hK _ _ (fun _ => o1) ?_
  clear hK K
  repeat (first | (refine Reg.wpC_W rfl (fun K hK => ?_); go_simp; refine hK _ ?_; clear hK K) | (refine Reg.wpC_H2 rfl rfl (fun K hK => ?_); apply Exists.intro; refine ⟨fun w' hS => ?_, ?_⟩; (have hS2 := hS.2; clear hS; go_simp; first | done | rfl); go_simp; refine hK _ ?_; clear hK K) | (refine Reg.wpC_N rfl rfl (fun K hK => ?_); go_simp; refine hK _ ?_; clear hK K))
  refine Reg.wpC_E rfl (fun K hK => ?_)
  go_simp
  refine (number_w a.jg _).mono ?_
  rintro e w2 ⟨A2, n2, c2, rfl, ho2, hg2⟩
  simp only []
  have o2 := o1.grown hg2
  refine hK _ _ (fun _ => o2) ?_
  clear hK K
  repeat (first | (refine Reg.wpC_W rfl (fun K hK => ?_); go_simp; refine hK _ ?_; clear hK K) | (refine Reg.wpC_H2 rfl rfl (fun K hK => ?_); apply Exists.intro; refine ⟨fun w' hS => ?_, ?_⟩; (have hS2 := hS.2; clear hS; go_simp; first | done | rfl); go_simp; refine hK _ ?_; clear hK K) | (refine Reg.wpC_N rfl rfl (fun K hK => ?_); go_simp; refine hK _ ?_; clear hK K))
  have ho3 := ho1.grown hg2
  refine Reg.wpC_E rfl (fun K hK => ?_)
  refine if_wanted rfl ?_
  refine app_wp _ _ rfl _ _ _ _ _ rfl rfl ho3 ho2.bs (by simp [num32, be32_length]) (Nat.le_trans hg1.size hg2.size) ?_
  intro A3 n3 c3 w3 ho4 hg4
  refine hK _ _ (fun h => by cases h) ?_
  clear hK K
  repeat (refine Reg.wpC_W rfl (fun K hK => ?_); go_simp; refine hK _ ?_; clear hK K)
  refine Reg.wpC_nil ?_
  go_wp2_with fail
  go_ret
  have hb : w.heap.size ≤ ((w.alloc (.cells #[.int .i64 a.proc, .int .i64 a.off, .int .i64 a.count, .int .i64 a.size, .int .i64 a.mode, .int .i64 a.hi, .int .i64 a.hg, .int .i64 a.ji, .int .i64 a.jg, .string a.name, .string a.name2, a.data] tArgs)).drew).heap.size := by simp
  exact RetB.mk ho4 hb (gb_new' ho3 hb (gb_trans (gb_trans (gb_drew (gb_alloc (gb_refl _ _) _)) hg1) hg2) hg4)
set_option maxHeartbeats 2000000 in
theorem field6_w (a : AA) (w : World) (ha : a.ok w) : Calls Try.prog 23 #[a.val, .int .u8 115] w (RetB w (a.bytesF 6)) := by
  have hn1 := ha.n1
  have hn2 := ha.n2
  have hdn := ha.dn
  have hd := ha.d
  unfold AA.val AA.cells
  go_enter Try.func23, Try.ntmps23
  go_wp2_with fail
  refine (number_w a.size _).mono ?_
  rintro e w1 ⟨A1, n1, c1, rfl, ho1, hg1⟩
  go_wp2_with fail
  go_ret
  exact RetB.mk ho1 (by simp) (gb_trans (gb_alloc (gb_refl w none) _) hg1)
set_option maxHeartbeats 2000000 in
theorem field5_w (a : AA) (w : World) (ha : a.ok w) : Calls Try.prog 23 #[a.val, .int .u8 99] w (RetB w (a.bytesF 5)) := by
  have hn1 := ha.n1
  have hn2 := ha.n2
  have hdn := ha.dn
  have hd := ha.d
  unfold AA.val AA.cells
  go_enter Try.func23, Try.ntmps23
  go_wp2_with fail
  refine (number_w a.count _).mono ?_
  rintro e w1 ⟨A1, n1, c1, rfl, ho1, hg1⟩
  go_wp2_with fail
  go_ret
  exact RetB.mk ho1 (by simp) (gb_trans (gb_alloc (gb_refl w none) _) hg1)
set_option maxHeartbeats 2000000 in
theorem field7_w (a : AA) (w : World) (ha : a.ok w) : Calls Try.prog 23 #[a.val, .int .u8 109] w (RetB w (a.bytesF 7)) := by
  have hn1 := ha.n1
  have hn2 := ha.n2
  have hdn := ha.dn
  have hd := ha.d
  unfold AA.val AA.cells
  go_enter Try.func23, Try.ntmps23
  go_wp2_with fail
  refine (number_w a.mode _).mono ?_
  rintro e w1 ⟨A1, n1, c1, rfl, ho1, hg1⟩
  go_wp2_with fail
  go_ret
  exact RetB.mk ho1 (by simp) (gb_trans (gb_alloc (gb_refl w none) _) hg1)
set_option maxHeartbeats 2000000 in
theorem field4_w (a : AA) (w : World) (ha : a.ok w) : Calls Try.prog 23 #[a.val, .int .u8 111] w (RetB w (a.bytesF 4)) := by
  have hn1 := ha.n1
  have hn2 := ha.n2
  have hdn := ha.dn
  have hd := ha.d
  unfold AA.val AA.cells
  have hx0 := Int.emod_nonneg a.off (b := 18446744073709551616) (by omega)
  have hx1 := Int.emod_lt_of_pos a.off (b := 18446744073709551616) (by omega)
  go_enter Try.func23, Try.ntmps23
  go_wp2_with fail
  try rw [IntKind.wrap_u64]
  refine (rU64w_c _ _ hx0 hx1).mono ?_
  rintro e w1 ⟨A1, n1, c1, rfl, ho1, hg1⟩
  go_wp2_with fail
  go_ret
  exact RetB.mk ho1 (by simp) (gb_trans (gb_alloc (gb_refl w none) _) hg1)
set_option maxHeartbeats 2000000 in
theorem field2_w (a : AA) (w : World) (ha : a.ok w) : Calls Try.prog 23 #[a.val, .int .u8 110] w (RetB w (a.bytesF 2)) := by
  have hn1 := ha.n1
  have hn2 := ha.n2
  have hdn := ha.dn
  have hd := ha.d
  unfold AA.val AA.cells
  have hcv : ∀ w, (convert tStr tBs (.string a.name)).run Try.prog w = .ok (.slice (some ⟨w.heap.size, 0, none⟩) a.name.size (convC w a.name)) (convW w a.name) := fun w => run_conv w a.name
  go_enter Try.func23, Try.ntmps23
  go_wp2_with fail
  refine (rTextw_c _ (sb a.name) _ (convW_bs' _ a.name _ (by simp)) (by rw [sb_length]; omega)).mono ?_
  rintro e w1 ⟨A1, n1, c1, rfl, ho1, hg1⟩
  go_wp2_with fail
  go_ret
  exact RetB.mk ho1 (Nat.le_trans (by simp) (convW_gb _ _).size) (gb_trans (gb_trans (gb_alloc (gb_refl w none) _) (convW_gb _ _)) hg1)
set_option maxHeartbeats 2000000 in
theorem field3_w (a : AA) (w : World) (ha : a.ok w) : Calls Try.prog 23 #[a.val, .int .u8 106] w (RetB w (a.bytesF 3)) := by
  have hn1 := ha.n1
  have hn2 := ha.n2
  have hdn := ha.dn
  have hd := ha.d
  unfold AA.val AA.cells
  have hcv : ∀ w, (convert tStr tBs (.string a.name2)).run Try.prog w = .ok (.slice (some ⟨w.heap.size, 0, none⟩) a.name2.size (convC w a.name2)) (convW w a.name2) := fun w => run_conv w a.name2
  go_enter Try.func23, Try.ntmps23
  go_wp2_with fail
  refine (rTextw_c _ (sb a.name2) _ (convW_bs' _ a.name2 _ (by simp)) (by rw [sb_length]; omega)).mono ?_
  rintro e w1 ⟨A1, n1, c1, rfl, ho1, hg1⟩
  go_wp2_with fail
  go_ret
  exact RetB.mk ho1 (Nat.le_trans (by simp) (convW_gb _ _).size) (gb_trans (gb_trans (gb_alloc (gb_refl w none) _) (convW_gb _ _)) hg1)
set_option maxHeartbeats 2000000 in
theorem field8_w (a : AA) (w : World) (ha : a.ok w) : Calls Try.prog 23 #[a.val, .int .u8 100] w (RetB w (a.bytesF 8)) := by
  have hn1 := ha.n1
  have hn2 := ha.n2
  have hdn := ha.dn
  have hd := ha.d
  unfold AA.val AA.cells
  obtain ⟨Ad, cd, hda, _⟩ := id hd
  rw [hda] at hd
  simp only [hda]
  go_enter Try.func23, Try.ntmps23
  go_wp2_with fail
  refine (rTextw_c _ a.dl _ (hd.alloc _) hdn).mono ?_
  rintro e w1 ⟨A1, n1, c1, rfl, ho1, hg1⟩
  go_wp2_with fail
  go_ret
  exact RetB.mk ho1 (by simp) (gb_trans (gb_alloc (gb_refl w none) _) hg1)
theorem field_w (f : Nat) (hf : f < 9) (a : AA) (w : World) (ha : a.ok w) : Calls Try.prog 23 #[a.val, .int .u8 ((letterOf f).toNat : Int)] w (RetB w (a.bytesF f)) := by
  match f, hf with
  | 0, _ => exact field0_w a w ha
  | 1, _ => exact field1_w a w ha
  | 2, _ => exact field2_w a w ha
  | 3, _ => exact field3_w a w ha
  | 4, _ => exact field4_w a w ha
  | 5, _ => exact field5_w a w ha
  | 6, _ => exact field6_w a w ha
  | 7, _ => exact field7_w a w ha
  | 8, _ => exact field8_w a w ha
end Go.Tr
