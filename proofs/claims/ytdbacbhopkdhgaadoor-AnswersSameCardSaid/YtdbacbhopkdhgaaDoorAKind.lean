/- A procedure's kind of answer; errors of codes; handles made of any. No condition. -/
import Derived.Test.YtdbacbhopkdhgaaDoorALive
namespace Go.Tr
open Go.RowKit Go.Proofs
set_option linter.unusedVariables false
/-- the fields of a procedure, in their row -/
def fieldsOf (p : Int) : List Nat :=
  if p = 1 then [0] else if p = 2 then [0, 6] else if p = 3 ∨ p = 12 ∨ p = 13 then [0, 2] else if p = 6 ∨ p = 16 then [0, 4, 5] else if p = 7 then [0, 4, 8]
  else if p = 8 ∨ p = 9 then [0, 2, 7] else if p = 14 then [0, 2, 1, 3] else []

/-- a field's letter -/
def letterOf : Nat → UInt8
  | 0 => 104
  | 1 => 105
  | 2 => 110
  | 3 => 106
  | 4 => 111
  | 5 => 99
  | 6 => 115
  | 7 => 109
  | _ => 100
def letS (p : Int) : ByteArray := ⟨((fieldsOf p).map letterOf).toArray⟩
theorem letS_size (p : Int) : (letS p).size = (fieldsOf p).length := by
  show ((fieldsOf p).map letterOf).toArray.size = _
  simp
def procF : List Int := [1, 2, 3, 12, 13, 6, 16, 7, 8, 9, 14]
def procFV : Array Value := #[.int .i64 1, .int .i64 2, .int .i64 3, .int .i64 12, .int .i64 13, .int .i64 6, .int .i64 16, .int .i64 7, .int .i64 8, .int .i64 9, .int .i64 14]
def strFV : Array Value := #[.string ⟨#[104]⟩, .string ⟨#[104, 115]⟩, .string ⟨#[104, 110]⟩, .string ⟨#[104, 110]⟩, .string ⟨#[104, 110]⟩, .string ⟨#[104, 111, 99]⟩, .string ⟨#[104, 111, 99]⟩, .string ⟨#[104, 111, 100]⟩, .string ⟨#[104, 110, 109]⟩, .string ⟨#[104, 110, 109]⟩, .string ⟨#[104, 110, 105, 106]⟩]
theorem procFV_at (k : Nat) (hk : k < 11) : procFV[k]? = some (.int .i64 (procF[k]'hk)) := by
  match k, hk with
  | 0, _ | 1, _ | 2, _ | 3, _ | 4, _ | 5, _ | 6, _ | 7, _ | 8, _ | 9, _ | 10, _ => rfl
theorem strFV_at (k : Nat) (hk : k < 11) : strFV[k]? = some (.string (letS (procF[k]'hk))) := by
  match k, hk with
  | 0, _ | 1, _ | 2, _ | 3, _ | 4, _ | 5, _ | 6, _ | 7, _ | 8, _ | 9, _ | 10, _ => rfl
theorem letS_none (p : Int) (h : ∀ q ∈ procF, q ≠ p) : letS p = ⟨#[]⟩ := by
  have h0 := h 1 (by decide)
  have h1 := h 2 (by decide)
  have h2 := h 3 (by decide)
  have h3 := h 12 (by decide)
  have h4 := h 13 (by decide)
  have h5 := h 6 (by decide)
  have h6 := h 16 (by decide)
  have h7 := h 7 (by decide)
  have h8 := h 8 (by decide)
  have h9 := h 9 (by decide)
  have h10 := h 14 (by decide)
  have : fieldsOf p = [] := by
    unfold fieldsOf
    rw [if_neg (by omega), if_neg (by omega), if_neg (by omega), if_neg (by omega), if_neg (by omega), if_neg (by omega), if_neg (by omega)]
  unfold letS
  rw [this]
  rfl
set_option maxHeartbeats 1000000 in
theorem Fields_c (p : Int) (w : World) : Calls Tryd.prog 67 #[.int .i64 p] w fun e w' => e = .returned (.string (letS p)) ∧ w.grownBy w' none := by
  go_enter Tryd.func67, Tryd.ntmps67
  go_wp2_with fail
  have b1 : Blk ((w.alloc (.cells procFV 3)).alloc (.cells strFV tStr)) w.heap.size 3 procFV := (Blk.new w 3 procFV).alloc _
  have b2 : Blk ((w.alloc (.cells procFV 3)).alloc (.cells strFV tStr)) (w.heap.size + 1) tStr strFV := by
    have := Blk.new (w.alloc (.cells procFV 3)) tStr strFV
    simpa using this
  have g1 : w.grownBy ((w.alloc (.cells procFV 3)).alloc (.cells strFV tStr)) none := gb_alloc (gb_alloc (gb_refl _ _) _) _
  generalize hB1 : w.heap.size = B1 at *
  generalize hB2 : B1 + 1 = B2 at *
  clear hB1 hB2
  go_loopw [5] (fun i wr => ∃ k : Nat, k ≤ 11 ∧ i = .int .i64 k ∧ (∀ q ∈ procF.take k, q ≠ p) ∧ Blk wr B1 3 procFV ∧ Blk wr B2 tStr strFV ∧ w.grownBy wr none) (fun i _ => 11 - (intOf i).toNat)
  case atStart => exact ⟨0, by omega, rfl, by simp, b1, b2, g1⟩
  case round =>
    clear b1 b2 g1
    obtain ⟨k, hk, rfl, hno, b3, b4, g2⟩ := hrel
    by_cases hlt : k < 11
    · have c3 := (b3.cell k).trans (procFV_at k hlt)
      have c4 := (b4.cell k).trans (strFV_at k hlt)
      have hst : procF.take (k + 1) = procF.take k ++ [procF[k]'hlt] := List.take_succ_eq_append_getElem (by exact hlt)
      generalize procF[k]'hlt = x at *
      have Hst := hide hst
      have Hno := hide hno
      have B3 := hide b3
      have B4 := hide b4
      clear hst hno b3 b4
      by_cases hx : x = p
      · subst hx
        go_wp2_with fail
        go_ret
        exact ⟨rfl, g2⟩
      · go_wp2_with fail
        go_roundw
        case rel =>
          refine ⟨k + 1, by omega, by go_num, ?_, B3.out, B4.out, g2⟩
          rw [Hst.out]
          intro q hq
          rcases List.mem_append.1 hq with h | h
          · exact Hno.out q h
          · rw [List.mem_singleton.1 h]
            exact hx
        case measure => simp [intOf]; omega
    · obtain rfl : k = 11 := by omega
      have hnone := letS_none p hno
      have Hn := hide hnone
      clear hnone hno
      go_wp2_with fail
      go_ret
      exact ⟨by rw [Hn.out]; rfl, g2⟩
theorem fields_no (p : Int) (h : p ∉ procN) : letS p = ⟨#[]⟩ := letS_none p (fun q hq hqp => h (by subst hqp; revert q; decide))
set_option maxHeartbeats 1000000 in
theorem kind_c (p : Int) (w : World) : Calls Tryd.prog 29 #[.int .i64 p] w fun e w' => e = .returned (.int .i64 (kindN p : Int)) ∧ w.grownBy w' none := by
  by_cases hp : p ∈ procN
  · have hc : p = 1 ∨ p = 2 ∨ p = 3 ∨ p = 6 ∨ p = 7 ∨ p = 8 ∨ p = 9 ∨ p = 12 ∨ p = 13 ∨ p = 14 ∨ p = 16 := by simpa [procN] using hp
    clear hp
    rcases hc with rfl | rfl | rfl | rfl | rfl | rfl | rfl | rfl | rfl | rfl | rfl
    all_goals
      go_enter Tryd.func29, Tryd.ntmps29
      go_wp2_with fail
      refine (Fields_c _ _).mono ?_
      rintro e w1 ⟨rfl, hg⟩
      simp only [letS, fieldsOf]
      simp
      go_wp2_with fail
      go_ret
      exact ⟨rfl, hg⟩
  · have hl := fields_no p hp
    have hk : kindN p = 0 := by unfold kindN; rw [if_neg hp]
    have HL := hide hl
    rw [hk]
    clear hl hk hp
    go_enter Tryd.func29, Tryd.ntmps29
    go_wp2_with fail
    refine (Fields_c _ _).mono ?_
    rintro e w1 ⟨rfl, hg⟩
    rw [HL.out]
    go_wp2_with fail
    go_ret
    exact ⟨rfl, hg⟩
def fromCodeN (n : Int) : Int := if n < 0 ∨ 18 < n then 21 else errL.getD n.toNat 0
theorem errs_at (k : Nat) (hk : k < 19) : (ints errL)[k]? = some (.int .i64 (errL.getD k 0)) := by
  simp only [ints, List.getElem?_map]
  rw [List.getD_eq_getElem?_getD, List.getElem?_eq_getElem (by exact hk)]
  rfl
theorem fromCode_c (n : Int) (w : World) : Calls Tryd.prog 25 #[.int .i64 n] w fun e w' => e = .returned (.int .i64 (fromCodeN n)) ∧ w.grownBy w' none := by
  by_cases h0 : n < 0
  · have hf : fromCodeN n = 21 := by unfold fromCodeN; rw [if_pos (.inl h0)]
    rw [hf]
    clear hf
    go_enter Tryd.func25, Tryd.ntmps25
    go_wp2_with fail
    go_ret
    exact ⟨rfl, gb_refl _ _⟩
  · by_cases h1 : 18 < n
    · have hf : fromCodeN n = 21 := by unfold fromCodeN; rw [if_pos (.inr h1)]
      rw [hf]
      clear hf
      go_enter Tryd.func25, Tryd.ntmps25
      go_wp2_with fail
      go_ret
      exact ⟨rfl, gb_refl _ _⟩
    · obtain ⟨k, rfl⟩ := Int.eq_ofNat_of_zero_le (by omega : 0 ≤ n)
      have hk : k < 19 := by omega
      have hf : fromCodeN (k : Int) = errL.getD k 0 := by unfold fromCodeN; rw [if_neg (by omega), Int.toNat_natCast]
      have hat := errs_at k hk
      rw [hf]
      generalize errL.getD k 0 = x at *
      have HAT := hide hat
      have hkI : (k : Int) < 19 := by omega
      clear hf h0 h1 hat
      go_enter Tryd.func25, Tryd.ntmps25
      go_wp2_with fail
      refine (rall_c _).mono ?_
      rintro e w1 ⟨v, rfl, ho, hg⟩
      obtain ⟨A, c, rfl, hA, hn, hc⟩ := ho.shape
      cases A with
      | none => have := (hn rfl).1; simp [ints, errL, rows] at this
      | some a1 =>
      obtain ⟨g1, rfl, _, l1⟩ := hA _ rfl
      have hcell := OwnV.cell ho HAT.out
      have hlen : (ints errL).length = 19 := rfl
      rw [hlen]
      clear ho hA hn hlen
      go_wp2_with fail
      go_ret
      exact ⟨rfl, hg⟩
def lowN (x : Int) : Int := aroundN x 4294967296
abbrev tHd : TypeId := 24
set_option maxHeartbeats 1000000 in
theorem low_c15 (i g : Int) (w : World) (hi0 : -9223372036854775808 ≤ i) (hi1 : i ≤ 9223372036854775807) (hg0 : -9223372036854775808 ≤ g) (hg1 : g ≤ 9223372036854775807) : Calls Tryd.prog 30 #[.agg #[.int .i64 i, .int .i64 g]] w fun e w' => e = .returned (.agg #[.int .i64 (lowN i), .int .i64 (lowN g)]) ∧ w.grownBy w' none := by
  have b1 : ∀ z, Blk ((w.alloc (.cells #[.int .i64 i, .int .i64 g] tHd)).alloc (.cells z tHd)) (w.heap.size + 1) tHd z := fun z => by
    have h := Blk.new (w.alloc (.cells #[.int .i64 i, .int .i64 g] tHd)) tHd z
    simpa using h
  have HB := hide b1
  clear b1
  go_enter Tryd.func30, Tryd.ntmps30
  go_wp2_with fail
  refine Reg.wp_reg [0, 1, 3, 0, 8, 31, 63, 127] [(0, .W), (1, .H), (2, .Q), (3, .W), (4, .H), (5, .Q), (6, .W), (7, .E false)] (Reg.Old _) (by kernel_rfl) (by kernel_rfl) (fun _ => Reg.Old.drew (Reg.Old.refl _)) ?_
  repeat (first | (refine Reg.wpC_W rfl (fun K hK => ?_); go_simp; refine hK _ ?_; clear hK K) | (refine Reg.wpC_H2 rfl rfl (fun K hK => ?_); apply Exists.intro; refine ⟨fun w' hS => ?_, ?_⟩; (have hS2 := hS.2; clear hS; go_simp; first | done | rfl); go_simp; refine hK _ ?_; clear hK K) | (refine Reg.wpC_N rfl rfl (fun K hK => ?_); go_simp; refine hK _ ?_; clear hK K))
  refine Reg.wpC_Q2 rfl rfl (fun K hK => ?_)
  refine ⟨.int .i64 (lowN i), fun w' hS => ?qt, ?_⟩
  case qt => (unfold Oper.quietAt; go_simp; exact ⟨rfl, (around_c i 4294967296 w' hi0 hi1 (by omega) (by omega)).mono fun e w'' h => h⟩)
  go_simp
  refine hK _ ?_
  clear hK K
  repeat (first | (refine Reg.wpC_W rfl (fun K hK => ?_); go_simp; refine hK _ ?_; clear hK K) | (refine Reg.wpC_H2 rfl rfl (fun K hK => ?_); apply Exists.intro; refine ⟨fun w' hS => ?_, ?_⟩; (have hS2 := hS.2; clear hS; go_simp; first | done | rfl); go_simp; refine hK _ ?_; clear hK K) | (refine Reg.wpC_N rfl rfl (fun K hK => ?_); go_simp; refine hK _ ?_; clear hK K))
  refine Reg.wpC_Q2 rfl rfl (fun K hK => ?_)
  refine ⟨.int .i64 (lowN g), fun w' hS => ?qt, ?_⟩
  case qt => (unfold Oper.quietAt; go_simp; exact ⟨rfl, (around_c g 4294967296 w' hg0 hg1 (by omega) (by omega)).mono fun e w'' h => h⟩)
  go_simp
  refine hK _ ?_
  clear hK K
  repeat (first | (refine Reg.wpC_W rfl (fun K hK => ?_); go_simp; refine hK _ ?_; clear hK K) | (refine Reg.wpC_H2 rfl rfl (fun K hK => ?_); apply Exists.intro; refine ⟨fun w' hS => ?_, ?_⟩; (have hS2 := hS.2; clear hS; go_simp; first | done | rfl); go_simp; refine hK _ ?_; clear hK K) | (refine Reg.wpC_N rfl rfl (fun K hK => ?_); go_simp; refine hK _ ?_; clear hK K))
  refine Reg.wpC_E rfl (fun K hK => ?_)
  go_simp
  refine hK _ _ (fun h => by cases h) ?_
  clear hK K
  refine Reg.wpC_nil ?_
  go_wp2_with fail
  have hb := (HB.out #[.int .i64 (lowN i), .int .i64 (lowN g)]).drew
  have d0 := hb.cell 0
  have d1 := hb.cell 1
  simp only [List.getElem?_toArray, List.getElem?_cons_zero, List.getElem?_cons_succ] at d0 d1
  exact bodyPost_ret (v := .agg #[.int .i64 (lowN i), .int .i64 (lowN g)]) (by simp [results, Tryd.results30, go_sem]) rfl ⟨rfl, gb_drew (gb_alloc (gb_alloc (gb_refl _ _) _) _)⟩
end Go.Tr
