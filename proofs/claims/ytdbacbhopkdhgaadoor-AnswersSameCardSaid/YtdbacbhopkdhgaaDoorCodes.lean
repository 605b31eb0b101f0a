/- Rows of numbers searched; the document's errors and statuses. No condition. -/
import Derived.Test.YtdbacbhopkdhgaaDoorTab
namespace Go.Tr
open Go.RowKit Go.Proofs
set_option linter.unusedVariables false
def ints (xs : List Int) : List Value := xs.map (Value.int .i64)
theorem OwnV.lit {tE : TypeId} {w : World} (cs : Array Value) (xs : List Value) (n c : Nat) (hn : n = w.heap.size) (h : cs.toList = xs) (hc : c = xs.length) (hl : xs.length ≤ 1000000) : OwnV tE w.heap.size (w.alloc (.cells cs tE)) (.slice (some ⟨n, 0, none⟩) c c) xs := by
  subst hn hc
  have hs : cs.size = xs.length := by rw [← Array.length_toList, h]
  unfold OwnV World.ownsRow
  refine ⟨by rw [Nat.mul_one], Or.inr ⟨w.heap.size, xs.length, cs, rfl, Nat.le_refl _, heap_alloc_new w _, Nat.le_refl _, ?_, by rw [Nat.mul_one]; exact hs, ?_⟩⟩
  · unfold maxLen; omega
  · rw [Nat.mul_one, h, List.take_of_length_le (Nat.le_refl _)]
theorem OwnV.lower {tE : TypeId} {base base' : Nat} {w : World} {v : Value} {xs : List Value} (h : OwnV tE base w v xs) (hb : base' ≤ base) : OwnV tE base' w v xs := by
  refine ⟨h.1, ?_⟩
  rcases h.2 with h2 | ⟨g, cap, cur, hv, hbg, rest⟩
  · exact .inl h2
  · exact .inr ⟨g, cap, cur, hv, Nat.le_trans hb hbg, rest⟩
def IxR (xs : List Int) (x : Int) (w : World) (e : Ending) (w' : World) : Prop := (∃ i : Int, e = .returned (.int .i64 i) ∧ decide (0 ≤ i) = decide (x ∈ xs)) ∧ w' = w
set_option maxHeartbeats 2000000 in
theorem errIx_c (v : Value) (xs : List Int) (x : Int) (w : World) (h : OwnV tErr 0 w v (ints xs)) (hm : xs.length ≤ 1000000) : Calls Tryd.prog 72 #[v, .int .i64 x] w (IxR xs x w) := by
  obtain ⟨A, c, rfl, hA, hn, hc⟩ := h.shape
  have hlen : (ints xs).length = xs.length := by simp [ints]
  rw [hlen] at hc ⊢
  have H := hide h
  have HA := hide hA
  have HN := hide hn
  have HL := hide hlen
  clear h hA hn hlen
  go_enter Tryd.func72, Tryd.ntmps72
  go_wp2_with fail
  go_loop [8] (fun i => ∃ k : Nat, k ≤ xs.length ∧ i = .int .i64 k ∧ x ∉ xs.take k) (fun i => xs.length - (intOf i).toNat)
  case atStart => exact ⟨0, Nat.zero_le _, rfl, by simp⟩
  case round =>
    obtain ⟨k, hk, rfl, hno⟩ := hrel
    have HNo := hide hno
    clear hno
    by_cases hlt : k < xs.length
    · obtain ⟨y, hy⟩ : ∃ y, xs[k]? = some y := ⟨_, List.getElem?_eq_getElem hlt⟩
      cases A with
      | none => have := (HN.out rfl).1; have := HL.out; omega
      | some a1 =>
      obtain ⟨g1, rfl, _, l1⟩ := HA.out _ rfl
      have hcell := OwnV.cell (e := .int .i64 y) (j := k) H.out (by simp [ints, hy])
      have hkI : (k : Int) < (xs.length : Int) := by omega
      have HY := hide hy
      clear hy
      by_cases hxy : x = y
      · subst hxy
        have hmem : decide (x ∈ xs) = true := decide_eq_true (List.mem_of_getElem? HY.out)
        have HM := hide hmem
        clear hmem
        go_wp2_with fail
        go_ret
        exact ⟨⟨_, rfl, by rw [HM.out]; exact decide_eq_true (Int.natCast_nonneg _)⟩, rfl⟩
      · go_wp2_with fail
        go_round
        case rel =>
          refine ⟨k + 1, by omega, by go_num, ?_⟩
          have hy := HY.out
          rw [List.getElem?_eq_getElem hlt] at hy
          injection hy with hy
          rw [List.take_succ_eq_append_getElem hlt, List.mem_append, hy]
          rintro (h1 | h1)
          · exact HNo.out h1
          · exact hxy (by simpa using h1)
        case measure => simp [intOf]; omega
    · obtain rfl : k = xs.length := by omega
      have hmem : decide (x ∈ xs) = false := by
        have := HNo.out
        rw [List.take_length] at this
        exact decide_eq_false this
      have HM := hide hmem
      clear hmem
      go_wp2_with fail
      go_ret
      exact ⟨⟨_, rfl, by rw [HM.out]; decide⟩, rfl⟩
theorem errHas_c (v : Value) (xs : List Int) (x : Int) (w : World) (h : OwnV tErr 0 w v (ints xs)) (hm : xs.length ≤ 1000000) : Calls Tryd.prog 42 #[v, .int .i64 x] w fun e w' => e = .returned (.bool (decide (x ∈ xs))) ∧ w' = w := by
  have H := hide h
  obtain ⟨A, c, rfl, _⟩ := h.shape
  clear h
  go_enter Tryd.func42, Tryd.ntmps42
  go_wp2_with fail
  refine (errIx_c _ xs x _ H.out hm).mono ?_
  rintro e w1 ⟨⟨i, rfl, hi⟩, rfl⟩
  have HI := hide hi
  clear hi
  by_cases hi0 : 0 ≤ i
  · go_wp2_with fail
    go_ret
    exact ⟨by rw [← HI.out, decide_eq_true hi0]; rfl, rfl⟩
  · go_wp2_with fail
    go_ret
    exact ⟨by rw [← HI.out, decide_eq_false (by omega)]; rfl, rfl⟩
set_option maxHeartbeats 2000000 in
theorem intIx_c (v : Value) (xs : List Int) (x : Int) (w : World) (h : OwnV tInt 0 w v (ints xs)) (hm : xs.length ≤ 1000000) : Calls Tryd.prog 88 #[v, .int .i64 x] w (IxR xs x w) := by
  obtain ⟨A, c, rfl, hA, hn, hc⟩ := h.shape
  have hlen : (ints xs).length = xs.length := by simp [ints]
  rw [hlen] at hc ⊢
  have H := hide h
  have HA := hide hA
  have HN := hide hn
  have HL := hide hlen
  clear h hA hn hlen
  go_enter Tryd.func88, Tryd.ntmps88
  go_wp2_with fail
  go_loop [8] (fun i => ∃ k : Nat, k ≤ xs.length ∧ i = .int .i64 k ∧ x ∉ xs.take k) (fun i => xs.length - (intOf i).toNat)
  case atStart => exact ⟨0, Nat.zero_le _, rfl, by simp⟩
  case round =>
    obtain ⟨k, hk, rfl, hno⟩ := hrel
    have HNo := hide hno
    clear hno
    by_cases hlt : k < xs.length
    · obtain ⟨y, hy⟩ : ∃ y, xs[k]? = some y := ⟨_, List.getElem?_eq_getElem hlt⟩
      cases A with
      | none => have := (HN.out rfl).1; have := HL.out; omega
      | some a1 =>
      obtain ⟨g1, rfl, _, l1⟩ := HA.out _ rfl
      have hcell := OwnV.cell (e := .int .i64 y) (j := k) H.out (by simp [ints, hy])
      have hkI : (k : Int) < (xs.length : Int) := by omega
      have HY := hide hy
      clear hy
      by_cases hxy : x = y
      · subst hxy
        have hmem : decide (x ∈ xs) = true := decide_eq_true (List.mem_of_getElem? HY.out)
        have HM := hide hmem
        clear hmem
        go_wp2_with fail
        go_ret
        exact ⟨⟨_, rfl, by rw [HM.out]; exact decide_eq_true (Int.natCast_nonneg _)⟩, rfl⟩
      · go_wp2_with fail
        go_round
        case rel =>
          refine ⟨k + 1, by omega, by go_num, ?_⟩
          have hy := HY.out
          rw [List.getElem?_eq_getElem hlt] at hy
          injection hy with hy
          rw [List.take_succ_eq_append_getElem hlt, List.mem_append, hy]
          rintro (h1 | h1)
          · exact HNo.out h1
          · exact hxy (by simpa using h1)
        case measure => simp [intOf]; omega
    · obtain rfl : k = xs.length := by omega
      have hmem : decide (x ∈ xs) = false := by
        have := HNo.out
        rw [List.take_length] at this
        exact decide_eq_false this
      have HM := hide hmem
      clear hmem
      go_wp2_with fail
      go_ret
      exact ⟨⟨_, rfl, by rw [HM.out]; decide⟩, rfl⟩
theorem intHas_c (v : Value) (xs : List Int) (x : Int) (w : World) (h : OwnV tInt 0 w v (ints xs)) (hm : xs.length ≤ 1000000) : Calls Tryd.prog 70 #[v, .int .i64 x] w fun e w' => e = .returned (.bool (decide (x ∈ xs))) ∧ w' = w := by
  have H := hide h
  obtain ⟨A, c, rfl, _⟩ := h.shape
  clear h
  go_enter Tryd.func70, Tryd.ntmps70
  go_wp2_with fail
  refine (intIx_c _ xs x _ H.out hm).mono ?_
  rintro e w1 ⟨⟨i, rfl, hi⟩, rfl⟩
  have HI := hide hi
  clear hi
  by_cases hi0 : 0 ≤ i
  · go_wp2_with fail
    go_ret
    exact ⟨by rw [← HI.out, decide_eq_true hi0]; rfl, rfl⟩
  · go_wp2_with fail
    go_ret
    exact ⟨by rw [← HI.out, decide_eq_false (by omega)]; rfl, rfl⟩
def procN : List Int := [1, 2, 3, 6, 7, 8, 9, 12, 13, 14, 16]
theorem procs_c (w : World) : Calls Tryd.prog 71 #[] w fun e w' => ∃ v, e = .returned v ∧ OwnV tInt w.heap.size w' v (ints procN) ∧ w.grownBy w' none := by
  go_enter Tryd.func71, Tryd.ntmps71
  go_wp2_with fail
  go_ret
  exact ⟨_, rfl, OwnV.lit _ (ints procN) _ _ rfl rfl rfl (by decide), gb_alloc (gb_refl _ _) _⟩
theorem known_c (p : Int) (w : World) : Calls Tryd.prog 41 #[.int .i64 p] w fun e w' => e = .returned (.bool (decide (p ∈ procN))) ∧ w.grownBy w' none := by
  go_enter Tryd.func41, Tryd.ntmps41
  go_wp2_with fail
  refine (procs_c _).mono ?_
  rintro e w1 ⟨v, rfl, ho, hg⟩
  go_wp2_with fail
  refine (intHas_c v procN p _ (ho.lower (Nat.zero_le _)) (by decide)).mono ?_
  rintro e w2 ⟨rfl, rfl⟩
  go_wp2_with fail
  go_ret
  exact ⟨rfl, hg⟩
def errL : List Int := rows.map (·.e)
theorem errV_eq : errV = ints errL := by simp [errV, ints, errL]
theorem rall_c (w : World) : Calls Tryd.prog 31 #[] w fun e w' => ∃ v, e = .returned v ∧ OwnV tErr w.heap.size w' v (ints errL) ∧ w.grownBy w' none := by
  go_enter Tryd.func31, Tryd.ntmps31
  go_wp2_with fail
  go_ret
  exact ⟨_, rfl, OwnV.lit _ (ints errL) _ _ rfl rfl rfl (by decide), gb_alloc (gb_refl _ _) _⟩
end Go.Tr
