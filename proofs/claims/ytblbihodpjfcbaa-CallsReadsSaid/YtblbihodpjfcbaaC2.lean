/- The walk of CallsProcs. No condition. -/
import Derived.Test.YtblbihodpjfcbaaMay
import Derived.Test.YtblbihodpjfcbaaLaw
namespace Go.Tr
open Go.RowKit Go.Proofs
set_option linter.unusedVariables false

def procN : List Int := [1, 2, 3, 6, 7, 8, 9, 12, 13, 14, 16]
def procV : Array Value := #[.int .i64 1, .int .i64 2, .int .i64 3, .int .i64 6, .int .i64 7, .int .i64 8, .int .i64 9, .int .i64 12, .int .i64 13, .int .i64 14, .int .i64 16]
abbrev tInt : TypeId := 3
theorem procs_c (w : World) : Calls Try.prog 11 #[] w fun e w' => e = .returned (.slice (some ⟨w.heap.size, 0, none⟩) 11 11) ∧ w' = w.alloc (.cells procV tInt) := by
  go_enter Try.func11, Try.ntmps11
  go_wp2
  go_ret
  exact ⟨rfl, rfl⟩
theorem procV_at (k : Nat) (hk : k < 11) : procV[k]? = some (.int .i64 (procN[k]'hk)) := by
  match k, hk with
  | 0, _ | 1, _ | 2, _ | 3, _ | 4, _ | 5, _ | 6, _ | 7, _ | 8, _ | 9, _ | 10, _ => rfl

theorem may_proc (n : Int) : AA.may (zeroA n) = decide (n ∈ procN) := by
  have hc : n = 1 ∨ n = 2 ∨ n = 3 ∨ n = 12 ∨ n = 13 ∨ n = 6 ∨ n = 16 ∨ n = 7 ∨ n = 8 ∨ n = 9 ∨ n = 14 ∨ (n ≠ 1 ∧ n ≠ 2 ∧ n ≠ 3 ∧ n ≠ 12 ∧ n ≠ 13 ∧ n ≠ 6 ∧ n ≠ 16 ∧ n ≠ 7 ∧ n ≠ 8 ∧ n ≠ 9 ∧ n ≠ 14) := by omega
  rcases hc with rfl | rfl | rfl | rfl | rfl | rfl | rfl | rfl | rfl | rfl | rfl | ⟨h1, h2, h3, h4, h5, h6, h7, h8, h9, h10, h11⟩
  case inr.inr.inr.inr.inr.inr.inr.inr.inr.inr.inr => simp [AA.may, AA.laid, AA.start, fieldsOf, layAll, zeroA, procN, *]
  all_goals decide

set_option maxHeartbeats 1000000 in
theorem procs_law (n : Int) (w : World) :
    Calls Try.prog 4 #[.int .i64 n] w fun e w' => e = .returned (.bool true) ∧ w.grownBy w' none := by
  go_enter Try.func4, Try.ntmps4
  go_wp2_with fail
  refine (procs_c _).mono ?_
  rintro e w1 ⟨rfl, rfl⟩
  go_wp2_with fail
  have b1 : Blk ((w.alloc (.cells procV tInt)).alloc (.cells procV tInt)) w.heap.size tInt procV := (Blk.new w tInt procV).alloc _
  have b2 : Blk ((w.alloc (.cells procV tInt)).alloc (.cells procV tInt)) (w.heap.size + 1) tInt procV := by
    have := Blk.new (w.alloc (.cells procV tInt)) tInt procV
    simpa using this
  have l1 := b1.lt
  have l2 := b2.lt
  have g1 : w.grownBy ((w.alloc (.cells procV tInt)).alloc (.cells procV tInt)) none := gb_alloc (gb_alloc (gb_refl _ _) _) _
  clear l1 l2
  generalize hB1 : w.heap.size = B1 at *
  generalize hB2 : B1 + 1 = B2 at *
  go_loopw [5, 6] (fun v i wr => ∃ k : Nat, k ≤ 11 ∧ i = .int .i64 k ∧ v = .bool (decide (n ∈ procN.take k)) ∧ Blk wr B1 tInt procV ∧ Blk wr B2 tInt procV ∧ w.grownBy wr none) (fun _ i _ => 11 - (intOf i).toNat)
  case atStart => exact ⟨0, by omega, rfl, rfl, b1, b2, g1⟩
  case round =>
    obtain ⟨k, hk, rfl, rfl, b3, b4, g2⟩ := hrel
    by_cases hlt : k < 11
    · have hp := procV_at k hlt
      have hst : decide (n ∈ procN.take (k + 1)) = (decide (n ∈ procN.take k) || decide (procN[k]'hlt = n)) := by
        rw [List.take_succ_eq_append_getElem (by exact hlt)]
        have hc : (n = procN[k]'hlt) = (procN[k]'hlt = n) := propext ⟨Eq.symm, Eq.symm⟩
        simp only [List.mem_append, List.mem_singleton, hc, Bool.decide_or]
      generalize procN[k]'hlt = x at hp hst
      have c3 := (b3.cell k).trans hp
      have c4 := (b4.cell k).trans hp
      have l3 := b3.lt
      have l4 := b4.lt
      have Hst := hide hst
      have Hb3 := hide b3
      have Hb4 := hide b4
      clear hst hp b3 b4
      generalize decide (n ∈ procN.take k) = nm at *
      cases nm
      · by_cases hx : x = n
        · go_wp2_with fail
          refine Reg.wp_reg [0, 0, 3, 7, 0, 0, 48, 112, 255] [(0, .W), (1, .W), (2, .W), (3, .H), (4, .W), (5, .W), (6, .W), (7, .H), (8, .W)] (Reg.Old _) (by kernel_rfl) (by kernel_rfl) (fun _ => Reg.Old.drew (Reg.Old.refl _)) ?_
          repeat (first | (refine Reg.wpC_W rfl (fun K hK => ?_); go_simp; refine hK _ ?_; clear hK K) | (refine Reg.wpC_H2 rfl rfl (fun K hK => ?_); apply Exists.intro; refine ⟨fun w' hS => ?_, ?_⟩; (have hS2 := hS.2; clear hS; go_simp; first | done | rfl); go_simp; refine hK _ ?_; clear hK K) | (refine Reg.wpC_N rfl rfl (fun K hK => ?_); go_simp; refine hK _ ?_; clear hK K))
          refine Reg.wpC_nil ?_
          go_wp2_with fail
          go_roundw
          case rel => exact ⟨k + 1, by omega, by go_num, by rw [Hst.out]; simp [hx], Hb3.out, Hb4.out, gb_drew g2⟩
          case measure => simp [intOf]; omega
        · go_wp2_with fail
          refine Reg.wp_reg [0, 0, 3, 7, 0, 0, 48, 112, 255] [(0, .W), (1, .W), (2, .W), (3, .H), (4, .W), (5, .W), (6, .W), (7, .H), (8, .W)] (Reg.Old _) (by kernel_rfl) (by kernel_rfl) (fun _ => Reg.Old.drew (Reg.Old.refl _)) ?_
          repeat (first | (refine Reg.wpC_W rfl (fun K hK => ?_); go_simp; refine hK _ ?_; clear hK K) | (refine Reg.wpC_H2 rfl rfl (fun K hK => ?_); apply Exists.intro; refine ⟨fun w' hS => ?_, ?_⟩; (have hS2 := hS.2; clear hS; go_simp; first | done | rfl); go_simp; refine hK _ ?_; clear hK K) | (refine Reg.wpC_N rfl rfl (fun K hK => ?_); go_simp; refine hK _ ?_; clear hK K))
          refine Reg.wpC_nil ?_
          go_wp2_with fail
          go_roundw
          case rel => exact ⟨k + 1, by omega, by go_num, by rw [Hst.out]; simp [hx], Hb3.out, Hb4.out, gb_drew g2⟩
          case measure => simp [intOf]; omega
      · go_wp2_with fail
        refine Reg.wp_reg [0, 0, 3, 7, 0, 0, 48, 112, 255] [(0, .W), (1, .W), (2, .W), (3, .H), (4, .W), (5, .W), (6, .W), (7, .H), (8, .W)] (Reg.Old _) (by kernel_rfl) (by kernel_rfl) (fun _ => Reg.Old.drew (Reg.Old.refl _)) ?_
        repeat (first | (refine Reg.wpC_W rfl (fun K hK => ?_); go_simp; refine hK _ ?_; clear hK K) | (refine Reg.wpC_H2 rfl rfl (fun K hK => ?_); apply Exists.intro; refine ⟨fun w' hS => ?_, ?_⟩; (have hS2 := hS.2; clear hS; go_simp; first | done | rfl); go_simp; refine hK _ ?_; clear hK K) | (refine Reg.wpC_N rfl rfl (fun K hK => ?_); go_simp; refine hK _ ?_; clear hK K))
        refine Reg.wpC_nil ?_
        go_wp2_with fail
        go_roundw
        case rel => exact ⟨k + 1, by omega, by go_num, by rw [Hst.out]; simp, Hb3.out, Hb4.out, gb_drew g2⟩
        case measure => simp [intOf]; omega
    · obtain rfl : k = 11 := by omega
      have htake : procN.take 11 = procN := rfl
      rw [htake]
      have hm := may_proc n
      generalize decide (n ∈ procN) = nm at *
      go_wp2_with fail
      refine (may_c (zeroA n) _ ⟨Nat.zero_le _, Nat.zero_le _, BS.nil _, Nat.zero_le _⟩).mono ?_
      rintro e w3 ⟨rfl, hg3⟩
      rw [hm]
      cases nm
      all_goals
        go_wp2_with fail
        refine (lives14_c _).mono ?_
        rintro e w4 ⟨rfl, hg4⟩
        go_wp2_with fail
        go_ret
        exact ⟨rfl, gb_trans (gb_trans g2 hg3) hg4⟩
open Go.ChangeShapes Go.WideShapes in
theorem callsProcs_walk {H : Type} {enc : TypeId × Value → H} (W : World) (base : Nat) (args : Array Value) (ds : List (DataW H)) (p : List MemPlace)
    (hval : ∀ (j : Nat) t v, Try.f4.params[j]? = some t → args[j]? = some v → Value.okWide Try.prog W .any base t v)
    (hA : DataW.TrodAll enc Try.prog W 0 (fun _ => true) true Try.f4.params.toList args.toList ds p) :
    Calls Try.prog 4 args W fun e W' => e = .returned (.bool true) ∧ W.grownBy W' none := by
  rw [Try.params4] at hA hval
  obtain ⟨v0, vs0, d0, ds0, p0, q0, hargs, rfl, rfl, h0, r0⟩ := trodAll_cons hA
  obtain ⟨rfl, rfl, rfl⟩ := trodAll_nil r0
  obtain rfl : args = #[v0] := by cases args; simp_all
  obtain ⟨a0, rfl, rfl, rfl, w0⟩ := open_int Try.underlying3 (hval 0 _ v0 rfl rfl) h0
  exact procs_law a0 W
end Go.Tr
