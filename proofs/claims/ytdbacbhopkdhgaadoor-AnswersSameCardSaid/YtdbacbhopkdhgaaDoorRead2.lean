/- xdr: a reader's numbers and texts. No condition. -/
import Derived.Test.YtdbacbhopkdhgaaDoorRead
namespace Go.Tr
open Go.RowKit Go.Proofs
set_option linter.unusedVariables false

theorem rU32_bad_c (R : Nat) (e0 : Int) (l : List UInt8) (w : World) (h : Rd w R e0 l) (he : e0 ≠ 0) :
    Calls Tryd.prog 94 #[.pointer (some ⟨R, 0, none⟩)] w fun e w' => e = .returned (.int .u32 0) ∧ w' = w := by
  go_enter Tryd.func94, Tryd.ntmps94
  go_wp2_with fail
  refine (number_bad_c R 4 e0 l w h he).mono ?_
  rintro e w1 ⟨rfl, rfl⟩
  go_wp2_with fail
  go_ret
  exact ⟨rfl, rfl⟩
theorem beN4 (l : List UInt8) : beN (l.take 4) < 4294967296 := by
  have h := beN_lt (l.take 4).length (l.take 4) rfl
  have h2 : (l.take 4).length ≤ 4 := by rw [List.length_take]; omega
  have h3 : 256 ^ (l.take 4).length ≤ 256 ^ 4 := Nat.pow_le_pow_right (by omega) h2
  omega
theorem beN8 (l : List UInt8) : beN (l.take 8) < 18446744073709551616 := by
  have h := beN_lt (l.take 8).length (l.take 8) rfl
  have h2 : (l.take 8).length ≤ 8 := by rw [List.length_take]; omega
  have h3 : 256 ^ (l.take 8).length ≤ 256 ^ 8 := Nat.pow_le_pow_right (by omega) h2
  omega
theorem rU32_c (R : Nat) (l : List UInt8) (w : World) (h : Rd w R 0 l) :
    Calls Tryd.prog 94 #[.pointer (some ⟨R, 0, none⟩)] w (NumR R 4 l .u32 w) := by
  go_enter Tryd.func94, Tryd.ntmps94
  go_wp2_with fail
  refine (rnumber_c R 4 (by omega) l w h).mono ?_
  rintro e w1 ⟨hg, h1⟩
  have hlt := beN4 l
  unfold rdN at h1
  by_cases hl : l.length < 4
  · rw [if_pos hl] at h1
    obtain ⟨rfl, hr⟩ := h1
    go_wp2_with fail
    go_ret
    refine ⟨hg, ?_⟩
    unfold rdN
    rw [if_pos hl]
    exact ⟨rfl, hr⟩
  · rw [if_neg hl] at h1
    obtain ⟨rfl, hr⟩ := h1
    have Hr := hide hr
    clear hr
    go_wp2_with fail
    go_ret
    exact NumR.ok (by omega) hg Hr.out
theorem rErrno_c (R : Nat) (e0 : Int) (l : List UInt8) (w : World) (h : Rd w R e0 l) :
    Calls Tryd.prog 92 #[.pointer (some ⟨R, 0, none⟩)] w fun e w' => e = .returned (.int .i64 e0) ∧ w' = w := by
  obtain ⟨v, hb, hs⟩ := h
  have c0 := hb.cell 0
  simp only [List.getElem?_toArray, List.getElem?_cons_zero] at c0
  clear hb hs
  go_enter Tryd.func92, Tryd.ntmps92
  go_wp2_with fail
  go_ret
  exact ⟨rfl, rfl⟩
/-- the reader's end: 2, if bytes are left -/
def endE (l : List UInt8) : Int := if l.length = 0 then 0 else 2
theorem rEnd_c (R : Nat) (l : List UInt8) (w : World) (h : Rd w R 0 l) :
    Calls Tryd.prog 59 #[.pointer (some ⟨R, 0, none⟩)] w fun e w' => e = .returned (.int .i64 (endE l)) ∧ w' = w := by
  obtain ⟨v, hb, hs⟩ := h
  obtain ⟨A, c, rfl, _⟩ := hs
  have c0 := hb.cell 0
  have c1 := hb.cell 1
  simp only [List.getElem?_toArray, List.getElem?_cons_zero, List.getElem?_cons_succ] at c0 c1
  clear hb
  unfold endE
  by_cases hl : l.length = 0
  · rw [if_pos hl]
    go_enter Tryd.func59, Tryd.ntmps59
    go_wp2_with fail
    go_ret
    exact ⟨rfl, rfl⟩
  · rw [if_neg hl]
    have hl2 : 0 < l.length := by omega
    go_enter Tryd.func59, Tryd.ntmps59
    go_wp2_with fail
    go_ret
    exact ⟨rfl, rfl⟩

theorem BS.take {w : World} {A : Option Addr} {n c k : Nat} {l : List UInt8} (h : BS w (.slice A n c) l) (hk : k ≤ l.length) : BS w (.slice A k c) (l.take k) := by
  obtain ⟨A', c', hv, hc, hn, hcell⟩ := h
  injection hv with h1 h2 h3
  subst h1 h2 h3
  have hlen : (l.take k).length = k := by rw [List.length_take]; omega
  refine ⟨_, c, by rw [hlen], by omega, hn, fun h0 => ?_⟩
  rw [hlen] at h0
  obtain ⟨g, o, cur, fr, rfl, hb, hj⟩ := hcell (by omega)
  refine ⟨g, o, cur, fr, rfl, hb, fun j hjl => ?_⟩
  rw [hlen] at hjl
  rw [List.getElem_take, ← hj j (by omega)]

theorem BS.dropZero {w : World} (A : Option Addr) {k : Nat} {l : List UInt8} (hk : l.length ≤ k) : BS w (.slice A 0 0) (l.drop k) := by
  rw [List.drop_eq_nil_of_le hk]
  exact ⟨A, 0, rfl, Nat.le_refl _, fun _ => rfl, fun h => absurd h (by simp)⟩

/-- the next text of at most so many bytes: 4 is too long, 3 too few bytes, 2 a byte behind it that is not 0 -/
def rdText (most : Nat) (l : List UInt8) : Except Int (List UInt8 × List UInt8) :=
  match rdN 4 l with
  | .error e => .error e
  | .ok (n, l1) => if most < n then .error 4 else if l1.length < n + padN n then .error 3 else
    if ((l1.drop n).take (padN n)).all (· == 0) then .ok (l1.take n, l1.drop (n + padN n)) else .error 2
def TextR (R most : Nat) (l : List UInt8) (w : World) (e : Ending) (w' : World) : Prop :=
  w.grownBy w' (some R) ∧ match rdText most l with
  | .ok (d, l') => ∃ v, e = .returned v ∧ BS w' v d ∧ Rd w' R 0 l'
  | .error er => e = .returned (.slice none 0 0) ∧ Rd w' R er []
theorem TextR.err {R most : Nat} {l : List UInt8} {w w' : World} {er : Int} (h : rdText most l = .error er) (hg : w.grownBy w' (some R)) (hr : Rd w' R er []) : TextR R most l w (.returned (.slice none 0 0)) w' := by
  unfold TextR
  rw [h]
  exact ⟨hg, rfl, hr⟩
theorem TextR.ok {R most : Nat} {l d l' : List UInt8} {w w' : World} {v : Value} (h : rdText most l = .ok (d, l')) (hg : w.grownBy w' (some R)) (hb : BS w' v d) (hr : Rd w' R 0 l') : TextR R most l w (.returned v) w' := by
  unfold TextR
  rw [h]
  exact ⟨hg, v, rfl, hb, hr⟩
set_option maxHeartbeats 2000000 in
theorem rText_c (R most : Nat) (hm : most ≤ 1000000) (l : List UInt8) (w : World) (h : Rd w R 0 l) :
    Calls Tryd.prog 91 #[.pointer (some ⟨R, 0, none⟩), .int .i64 most] w (TextR R most l w) := by
  go_enter Tryd.func91, Tryd.ntmps91
  go_wp2_with fail
  refine (rU32_c R l w h).mono ?_
  rintro e w1 ⟨hg, h1⟩
  have hlt := beN4 l
  have hT : rdText most l = rdText most l := rfl
  conv at hT => rhs; unfold rdText
  generalize hrd : rdN 4 l = q at *
  rcases q with er | ⟨n, l1⟩
  · obtain ⟨rfl, hr⟩ := h1
    have her : er = 3 := by
      unfold rdN at hrd
      split at hrd
      · injection hrd with h; exact h.symm
      · cases hrd
    subst her
    have Hr := hide hr
    have HT := hide hT
    clear hT
    obtain ⟨v, hb, _⟩ := hr
    have c0 := hb.cell 0
    simp only [List.getElem?_toArray, List.getElem?_cons_zero] at c0
    clear hb
    go_wp2_with fail
    go_ret
    exact TextR.err HT.out hg Hr.out
  · obtain ⟨rfl, hr⟩ := h1
    have hn : n < 4294967296 := by
      unfold rdN at hrd
      split at hrd
      · cases hrd
      · injection hrd with h
        injection h with h _
        omega
    have Hr := hide hr
    obtain ⟨v, hb, hs⟩ := hr
    obtain ⟨A, c, rfl, hc, hA, _⟩ := id hs
    have hR := hb.lt
    have c0 := hb.cell 0
    have c1 := hb.cell 1
    have f := hb.frozen
    simp only [List.getElem?_toArray, List.getElem?_cons_zero, List.getElem?_cons_succ] at c0 c1
    have Hb := hide hb
    have Hs := hide hs
    have HT := hide hT
    clear hb hs hrd hT
    go_wp2_with fail
    refine (pad_c _ _ (by omega) (by omega)).mono ?_
    rintro e w2 ⟨rfl, rfl⟩
    rw [Int.toNat_natCast]
    have hp := padN_lt n
    have hT := HT.out
    clear HT
    generalize padN n = p at *
    by_cases hmost : most < n
    · rw [if_pos hmost] at hT
      have HT := hide hT
      clear hT
      go_wp2_with fail
      refine (fail_c R 0 4 _ _ Hb.out).mono ?_
      rintro e w3 ⟨rfl, hr3, hg3⟩
      go_wp2_with fail
      go_ret
      exact TextR.err HT.out (gb_trans hg hg3) hr3
    rw [if_neg hmost] at hT
    by_cases hsh : l1.length < n + p
    · rw [if_pos hsh] at hT
      have HT := hide hT
      clear hT
      go_wp2_with fail
      refine (fail_c R 0 3 _ _ Hb.out).mono ?_
      rintro e w3 ⟨rfl, hr3, hg3⟩
      go_wp2_with fail
      go_ret
      exact TextR.err HT.out (gb_trans hg hg3) hr3
    rw [if_neg hsh] at hT
    have HT := hide hT
    clear hT
    have hle : n + p ≤ l1.length := by omega
    have Hle := hide hle
    clear hle
    by_cases hcn : n = c
    · obtain rfl : n = c := hcn
      obtain rfl : p = 0 := by have := Hle.out; omega
      go_wp2_with fail
      go_loopw [8, 47] (fun _ i wr => i = .int .i64 (0 : Nat) ∧ wr = w1) (fun _ i _ => 0)
      case atStart => exact ⟨rfl, rfl⟩
      case round =>
        obtain ⟨rfl, rfl⟩ := hrel
        · have hT := HT.out
          rw [if_pos (by simp)] at hT
          have HT2 := hide hT
          clear hT HT
          go_wp2_with fail
          refine (clone_c _ (l1.take n) _ (Hs.out.take (by have := Hle.out; omega)) (by rw [List.length_take]; omega)).mono ?_
          rintro e w3 ⟨A3, n3, c3, rfl, ho3, hg3⟩
          have hb3 := Hb.out.grown hg3 (by simp)
          have hs3 := Hs.out.grown hg3
          have hR3 := hb3.lt
          have c30 := hb3.cell 0
          have c31 := hb3.cell 1
          have f3 := hb3.frozen
          simp only [List.getElem?_toArray, List.getElem?_cons_zero, List.getElem?_cons_succ] at c30 c31
          have Hb3 := hide hb3
          have Hs3 := hide hs3
          have Ho3 := hide ho3.bs
          clear hb3 hs3 ho3
          go_wp2_with fail
          all_goals
            go_ret
            refine TextR.ok HT2.out (gb_trans hg (gb_set (gb_none hg3) _ _)) (BS.set Ho3.out Hb3.out (by decide) _ _) ⟨_, Hb3.out.set 1 _, BS.set ?_ Hb3.out (by decide) _ _⟩
            first
            | exact Hs3.out.dropAll Hle.out (by first | rfl | assumption)
            | exact Hs3.out.drop Hle.out
            | exact BS.dropZero _ (by omega)
    · have hcn2 : ¬ c = n := fun h => hcn h.symm
      clear hcn
      go_wp2_with fail
      go_loopw [8, 47] (fun _ i wr => ∃ k : Nat, k ≤ p ∧ i = .int .i64 k ∧ ((l1.drop n).take k).all (· == 0) = true ∧ wr = w1) (fun _ i _ => p - (intOf i).toNat)
      case atStart => exact ⟨0, Nat.zero_le _, rfl, by simp, rfl⟩
      case round =>
        obtain ⟨k, hk, rfl, hz, rfl⟩ := hrel
        by_cases hlt2 : k < p
        · have hkl : n + k < l1.length := by have := Hle.out; omega
          obtain ⟨A', c', hv, hc', _, hcell⟩ := Hs.out
          obtain ⟨g, o, cur, fr, rfl, hbk, hcu⟩ := hcell (by omega)
          injection hv with h1 h2 h3
          subst h1 h3
          first
          | (exfalso; omega)
          | have hcell : wr.cell? ⟨g, o + n + k, none⟩ = some (.int .u8 (l1[n + k].toNat : Int)) := by
              rw [cell_of_row wr g (o + n + k) cur tU8 fr hbk, ← hcu (n + k) hkl, Nat.add_assoc]
            have hdk : (l1.drop n).take (k + 1) = (l1.drop n).take k ++ [l1[n + k]] := by
              rw [List.take_succ_eq_append_getElem (by rw [List.length_drop]; omega), List.getElem_drop]
            have hmem : l1[n + k] ∈ (l1.drop n).take p := by
              rw [List.mem_take_iff_getElem]
              refine ⟨k, by rw [List.length_drop]; omega, ?_⟩
              rw [List.getElem_drop]
            generalize l1[n + k] = u at *
            have Hdk := hide hdk
            have Hmem := hide hmem
            have Hz := hide hz
            clear hdk hmem hz hcu hbk
            by_cases hu : u = 0
            · subst hu
              go_wp2_with fail
              go_roundw
              case rel => exact ⟨k + 1, by omega, by go_num, by rw [Hdk.out, List.all_append, Hz.out]; rfl, trivial⟩
              case measure => simp [intOf]; omega
            · have hu2 : (u.toNat : Int) ≠ 0 := fun h => hu (UInt8.toNat_inj.1 (by simpa using h))
              have Hu := hide hu
              clear hu
              go_wp2_with fail
              refine (fail_c R 0 2 _ _ Hb.out).mono ?_
              rintro e w3 ⟨rfl, hr3, hg3⟩
              go_wp2_with fail
              go_ret
              refine TextR.err ?_ (gb_trans hg hg3) hr3
              rw [HT.out, if_neg]
              intro hall
              have := List.all_eq_true.1 hall u Hmem.out
              exact Hu.out (by simpa using this)
        · obtain rfl : k = p := by omega
          have hT := HT.out
          rw [if_pos hz] at hT
          have HT2 := hide hT
          clear hT hz HT
          go_wp2_with fail
          refine (clone_c _ (l1.take n) _ (Hs.out.take (by have := Hle.out; omega)) (by rw [List.length_take]; omega)).mono ?_
          rintro e w3 ⟨A3, n3, c3, rfl, ho3, hg3⟩
          have hb3 := Hb.out.grown hg3 (by simp)
          have hs3 := Hs.out.grown hg3
          have hR3 := hb3.lt
          have c30 := hb3.cell 0
          have c31 := hb3.cell 1
          have f3 := hb3.frozen
          simp only [List.getElem?_toArray, List.getElem?_cons_zero, List.getElem?_cons_succ] at c30 c31
          have Hb3 := hide hb3
          have Hs3 := hide hs3
          have Ho3 := hide ho3.bs
          clear hb3 hs3 ho3
          go_wp2_with fail
          all_goals
            go_ret
            refine TextR.ok HT2.out (gb_trans hg (gb_set (gb_none hg3) _ _)) (BS.set Ho3.out Hb3.out (by decide) _ _) ⟨_, Hb3.out.set 1 _, BS.set ?_ Hb3.out (by decide) _ _⟩
            first
            | exact Hs3.out.dropAll Hle.out (by first | rfl | assumption)
            | exact Hs3.out.drop Hle.out
            | exact BS.dropZero _ (by omega)
end Go.Tr
