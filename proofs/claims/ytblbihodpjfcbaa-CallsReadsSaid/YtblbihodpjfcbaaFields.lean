/- The document's fields of a procedure. No condition. -/
import Derived.Test.YtblbihodpjfcbaaLay2
namespace Go.Tr
open Go.RowKit Go.Proofs
set_option linter.unusedVariables false

/-- a field's letter -/
def letterOf : Nat → UInt8
  | 0 => 104
  | 1 => 105
  | 2 => 110
  | 3 => 106
  | 4 => 111
  | 5 => 99
  | 6 => 115
  | 7 => 109
  | _ => 100
def letS (p : Int) : ByteArray := ⟨((fieldsOf p).map letterOf).toArray⟩
theorem letS_size (p : Int) : (letS p).size = (fieldsOf p).length := by
  show ((fieldsOf p).map letterOf).toArray.size = _
  simp
def procF : List Int := [1, 2, 3, 12, 13, 6, 16, 7, 8, 9, 14]
def procFV : Array Value := #[.int .i64 1, .int .i64 2, .int .i64 3, .int .i64 12, .int .i64 13, .int .i64 6, .int .i64 16, .int .i64 7, .int .i64 8, .int .i64 9, .int .i64 14]
def strFV : Array Value := #[.string ⟨#[104]⟩, .string ⟨#[104, 115]⟩, .string ⟨#[104, 110]⟩, .string ⟨#[104, 110]⟩, .string ⟨#[104, 110]⟩, .string ⟨#[104, 111, 99]⟩, .string ⟨#[104, 111, 99]⟩, .string ⟨#[104, 111, 100]⟩, .string ⟨#[104, 110, 109]⟩, .string ⟨#[104, 110, 109]⟩, .string ⟨#[104, 110, 105, 106]⟩]
theorem procFV_at (k : Nat) (hk : k < 11) : procFV[k]? = some (.int .i64 (procF[k]'hk)) := by
  match k, hk with
  | 0, _ | 1, _ | 2, _ | 3, _ | 4, _ | 5, _ | 6, _ | 7, _ | 8, _ | 9, _ | 10, _ => rfl
theorem strFV_at (k : Nat) (hk : k < 11) : strFV[k]? = some (.string (letS (procF[k]'hk))) := by
  match k, hk with
  | 0, _ | 1, _ | 2, _ | 3, _ | 4, _ | 5, _ | 6, _ | 7, _ | 8, _ | 9, _ | 10, _ => rfl
theorem letS_none (p : Int) (h : ∀ q ∈ procF, q ≠ p) : letS p = ⟨#[]⟩ := by
  have h0 := h 1 (by decide)
  have h1 := h 2 (by decide)
  have h2 := h 3 (by decide)
  have h3 := h 12 (by decide)
  have h4 := h 13 (by decide)
  have h5 := h 6 (by decide)
  have h6 := h 16 (by decide)
  have h7 := h 7 (by decide)
  have h8 := h 8 (by decide)
  have h9 := h 9 (by decide)
  have h10 := h 14 (by decide)
  have : fieldsOf p = [] := by
    unfold fieldsOf
    rw [if_neg (by omega), if_neg (by omega), if_neg (by omega), if_neg (by omega), if_neg (by omega), if_neg (by omega), if_neg (by omega)]
  unfold letS
  rw [this]
  rfl
set_option maxHeartbeats 1000000 in
theorem Fields_c (p : Int) (w : World) : Calls Try.prog 22 #[.int .i64 p] w fun e w' => e = .returned (.string (letS p)) ∧ w.grownBy w' none := by
  go_enter Try.func22, Try.ntmps22
  go_wp2_with fail
  have b1 : Blk ((w.alloc (.cells procFV 3)).alloc (.cells strFV tStr)) w.heap.size 3 procFV := (Blk.new w 3 procFV).alloc _
  have b2 : Blk ((w.alloc (.cells procFV 3)).alloc (.cells strFV tStr)) (w.heap.size + 1) tStr strFV := by
    have := Blk.new (w.alloc (.cells procFV 3)) tStr strFV
    simpa using this
  have g1 : w.grownBy ((w.alloc (.cells procFV 3)).alloc (.cells strFV tStr)) none := gb_alloc (gb_alloc (gb_refl _ _) _) _
  generalize hB1 : w.heap.size = B1 at *
  generalize hB2 : B1 + 1 = B2 at *
  clear hB1 hB2
  go_loopw [5] (fun i wr => ∃ k : Nat, k ≤ 11 ∧ i = .int .i64 k ∧ (∀ q ∈ procF.take k, q ≠ p) ∧ Blk wr B1 3 procFV ∧ Blk wr B2 tStr strFV ∧ w.grownBy wr none) (fun i _ => 11 - (intOf i).toNat)
  case atStart => exact ⟨0, by omega, rfl, by simp, b1, b2, g1⟩
  case round =>
    clear b1 b2 g1
    obtain ⟨k, hk, rfl, hno, b3, b4, g2⟩ := hrel
    by_cases hlt : k < 11
    · have c3 := (b3.cell k).trans (procFV_at k hlt)
      have c4 := (b4.cell k).trans (strFV_at k hlt)
      have hst : procF.take (k + 1) = procF.take k ++ [procF[k]'hlt] := List.take_succ_eq_append_getElem (by exact hlt)
      generalize procF[k]'hlt = x at *
      have Hst := hide hst
      have Hno := hide hno
      have B3 := hide b3
      have B4 := hide b4
      clear hst hno b3 b4
      by_cases hx : x = p
      · subst hx
        go_wp2_with fail
        go_ret
        exact ⟨rfl, g2⟩
      · go_wp2_with fail
        go_roundw
        case rel =>
          refine ⟨k + 1, by omega, by go_num, ?_, B3.out, B4.out, g2⟩
          rw [Hst.out]
          intro q hq
          rcases List.mem_append.1 hq with h | h
          · exact Hno.out q h
          · rw [List.mem_singleton.1 h]
            exact hx
        case measure => simp [intOf]; omega
    · obtain rfl : k = 11 := by omega
      have hnone := letS_none p hno
      have Hn := hide hnone
      clear hnone hno
      go_wp2_with fail
      go_ret
      exact ⟨by rw [Hn.out]; rfl, g2⟩
end Go.Tr
