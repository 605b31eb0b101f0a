/- What may be, made of any: the parts. No condition. -/
import Derived.Test.YtblbihodpjfcbaaRefB2
import Derived.Test.YtblbihodpjfcbaaMay
namespace Go.Tr
open Go.RowKit Go.Proofs
set_option linter.unusedVariables false

theorem few_c (v : Value) (l : List UInt8) (m : Nat) (hm : m ≤ 100000) (w : World) (hb : BS w v l) (hl : l.length ≤ 9223372036854775807) : Calls Try.prog 14 #[v, .int .i64 m] w (RetB w (l.take m)) := by
  obtain ⟨A, c, rfl, hc, hA, _⟩ := id hb
  by_cases hlm : l.length ≤ m
  · rw [List.take_of_length_le hlm]
    go_enter Try.func14, Try.ntmps14
    go_wp2_with (at_builtin; refine wp_app rfl _ _ rfl w.heap.size _ _ [] l rfl rfl (OwnB.nil _ _) hb (by simp; omega) (Nat.le_refl _) ?_)
    intro A2 n2 c2 w2 ho2 hg2
    go_wp2_with fail
    go_ret
    exact RetB.mk ho2 (Nat.le_refl _) (gb_new' (OwnB.nil w.heap.size w) (Nat.le_refl _) (gb_refl _ _) hg2)
  · have hlen : (l.take m).length = m := by rw [List.length_take]; omega
    go_enter Try.func14, Try.ntmps14
    go_wp2_with (at_builtin; refine wp_app rfl _ _ rfl w.heap.size _ _ [] (l.take m) rfl rfl (OwnB.nil _ _) (hb.take (by omega)) (by simp; omega) (Nat.le_refl _) ?_)
    intro A2 n2 c2 w2 ho2 hg2
    go_wp2_with fail
    go_ret
    exact RetB.mk ho2 (Nat.le_refl _) (gb_new' (OwnB.nil w.heap.size w) (Nat.le_refl _) (gb_refl _ _) hg2)
theorem low_c (x : Int) (w : World) (hx0 : -9223372036854775808 ≤ x) (hx1 : x ≤ 9223372036854775807) : Calls Try.prog 35 #[.int .i64 x] w fun e w' => e = .returned (.int .i64 (aroundN x 4294967296)) ∧ w' = w := by
  go_enter Try.func35, Try.ntmps35
  go_wp2_with fail
  refine (around_c x 4294967296 _ hx0 hx1 (by omega) (by omega)).mono ?_
  rintro e w1 ⟨rfl, rfl⟩
  go_wp2_with fail
  go_ret
  exact ⟨rfl, rfl⟩
def shortS (s : ByteArray) (m : Nat) : ByteArray := if m < s.size then s.extract 0 m else s
theorem short_str_c (s : ByteArray) (m : Nat) (hm : m ≤ 100000) (w : World) (hs : s.size ≤ 9223372036854775807) : Calls Try.prog 36 #[.string s, .int .i64 m] w fun e w' => e = .returned (.string (shortS s m)) ∧ w' = w := by
  unfold shortS
  by_cases h : m < s.size
  · rw [if_pos h]
    go_enter Try.func36, Try.ntmps36
    go_wp2_with fail
    go_ret
    exact ⟨rfl, rfl⟩
  · rw [if_neg h]
    go_enter Try.func36, Try.ntmps36
    go_wp2_with fail
    go_ret
    exact ⟨rfl, rfl⟩
def hasB (p : Int) (c : UInt8) : Bool := (fieldsOf p).any (fun f => letterOf f == c)
theorem Has_c (p : Int) (c : UInt8) (w : World) : Calls Try.prog 58 #[.int .i64 p, .int .u8 (c.toNat : Int)] w fun e w' => e = .returned (.bool (hasB p c)) ∧ w.grownBy w' none := by
  go_enter Try.func58, Try.ntmps58
  go_wp2_with fail
  refine (Fields_c p _).mono ?_
  rintro e w1 ⟨rfl, hg1⟩
  have hls := letS_size p
  have hsi : ∀ (k x : Nat), (fieldsOf p)[k]? = some x → (letS p).data[k]? = some (letterOf x) := by
    intro k x h
    show ((fieldsOf p).map letterOf).toArray[k]? = _
    simp [h]
  have hrl := fieldsOf_len p
  generalize letS p = s at *
  obtain ⟨row, hrow⟩ : ∃ row, row = fieldsOf p := ⟨_, rfl⟩
  rw [← hrow] at hrl hls hsi
  have hHas : hasB p c = row.any (fun f => letterOf f == c) := by rw [hrow]; rfl
  have Hrow := hide hrow
  have HHas := hide hHas
  have Hsi := hide hsi
  have Hls := hide hls
  clear hrow hHas hsi hls
  go_wp2_with fail
  go_loopw [6] (fun i wr => ∃ k : Nat, k ≤ row.length ∧ i = .int .i64 k ∧ (row.take k).any (fun f => letterOf f == c) = false ∧ wr = w1) (fun i _ => row.length - (intOf i).toNat)
  case atStart => exact ⟨0, Nat.zero_le _, rfl, rfl, rfl⟩
  case round =>
    obtain ⟨k, hk, rfl, hno, rfl⟩ := hrel
    have hls := Hls.out
    by_cases hlt : k < row.length
    · have hlts : k < s.size := by omega
      have hidx := Hsi.out k row[k] (List.getElem?_eq_getElem hlt)
      have hlet : (s[k]'hlts) = letterOf row[k] := by
        have h1 : s.data[k]? = some (s[k]'hlts) := Array.getElem?_eq_getElem hlts
        rw [hidx] at h1
        injection h1 with h1
        exact h1.symm
      have hst : (row.take (k + 1)).any (fun f => letterOf f == c) = (letterOf row[k] == c) := by
        rw [List.take_succ_eq_append_getElem hlt, List.any_append, hno]
        simp
      have hmem : row[k] ∈ row := List.getElem_mem hlt
      generalize row[k] = f at *
      have Hst := hide hst
      have Hmem := hide hmem
      clear hidx hst hno hls hmem
      by_cases hc : letterOf f = c
      · have hcI : ((s[k]'hlts).toNat : Int) = (c.toNat : Int) := by rw [hlet, hc]
        have hT : hasB p c = true := by
          rw [HHas.out, List.any_eq_true]
          exact ⟨f, Hmem.out, by simp [hc]⟩
        have HT := hide hT
        clear hT hlet
        go_wp2_with fail
        go_ret
        exact ⟨by rw [HT.out]; rfl, hg1⟩
      · have hcI : ¬ ((s[k]'hlts).toNat : Int) = (c.toNat : Int) := by
          rw [hlet]
          intro h
          exact hc (UInt8.toNat_inj.1 (by omega))
        have hcB : (letterOf f == c) = false := by simpa using hc
        clear hlet
        go_wp2_with fail
        go_roundw
        case rel => exact ⟨k + 1, by omega, by go_num, by rw [Hst.out]; exact hcB, trivial⟩
        case measure => simp [intOf]; omega
    · obtain rfl : k = row.length := by omega
      have hks : ¬ row.length < s.size := by omega
      rw [List.take_length] at hno
      have hT : hasB p c = false := by rw [HHas.out]; exact hno
      have HT := hide hT
      clear hT hno
      go_wp2_with fail
      go_ret
      exact ⟨by rw [HT.out]; rfl, hg1⟩
end Go.Tr
