/- The document's reader of layer 1: texts, what is left. No condition. -/
import Derived.Test.YtblbihodpjfcbaaRef
namespace Go.Tr
open Go.RowKit Go.Proofs
set_option linter.unusedVariables false
theorem fLeft_c (F : Nat) (v : Value) (l : List UInt8) (i : Nat) (w : World) (h : Rf w F v l i 0) :
    Calls Try.prog 31 #[.pointer (some ⟨F, 0, none⟩)] w fun e w' => e = .returned (.int .i64 ((l.drop i).length : Nat)) ∧ w' = w.drew := by
  have hR := h.blk.lt
  have hle := h.le
  have hlen := h.len
  obtain ⟨A, c, rfl, hc, hA, hcell⟩ := id h.bs
  have c0 := h.blk.cell 0
  have c1 := h.blk.cell 1
  have c2 := h.blk.cell 2
  have f := h.blk.frozen
  simp only [List.getElem?_toArray, List.getElem?_cons_zero, List.getElem?_cons_succ] at c0 c1 c2
  have H := hide h
  clear h
  clear hcell
  have hw : IntKind.wrap .i64 ((l.length : Int) - (i : Int)) = (l.length : Int) - (i : Int) := by rw [IntKind.wrap_i64]; omega
  rw [List.length_drop]
  go_enter Try.func31, Try.ntmps31
  go_wp2_with fail
  refine Reg.wp_reg [0, 1, 3, 7, 15, 0, 32, 96, 224, 511, 1023] [(0, .W), (1, .W), (2, .W), (3, .H), (4, .W), (5, .W), (6, .W), (7, .W), (8, .H), (9, .W), (10, .W)] (Reg.Old _) (by kernel_rfl) (by kernel_rfl) (fun _ => Reg.Old.drew (Reg.Old.refl _)) ?_
  repeat (first | (refine Reg.wpC_W rfl (fun K hK => ?_); go_simp; refine hK _ ?_; clear hK K) | (refine Reg.wpC_H2 rfl rfl (fun K hK => ?_); apply Exists.intro; refine ⟨fun w' hS => ?_, ?_⟩; (have hS2 := hS.2; clear hS; go_simp; first | done | rfl); go_simp; refine hK _ ?_; clear hK K) | (refine Reg.wpC_N rfl rfl (fun K hK => ?_); go_simp; refine hK _ ?_; clear hK K))
  refine Reg.wpC_nil ?_
  go_wp2_with fail
  go_ret
  exact ⟨ret_i (by omega), rfl⟩

theorem BS.zeroT {w : World} (A : Option Addr) (l : List UInt8) (h : l.take 0 = []) : BS w (.slice A 0 0) (l.take 0) := by
  rw [h]
  exact ⟨A, 0, rfl, Nat.le_refl _, fun _ => rfl, fun h => absurd h (by simp)⟩
def TextF (F most : Nat) (v : Value) (l : List UInt8) (i : Nat) (w : World) (e : Ending) (w' : World) : Prop :=
  w.grownBy w' (some F) ∧ match rdText most (l.drop i) with
  | .ok (d, l') => ∃ u, e = .returned u ∧ BS w' u d ∧ ∃ i', l' = l.drop i' ∧ Rf w' F v l i' 0
  | .error er => e = .returned (.slice none 0 0) ∧ ∃ i', Rf w' F v l i' er
theorem TextF.err {F most : Nat} {v : Value} {l : List UInt8} {i i' : Nat} {w w' : World} {er : Int} (h : rdText most (l.drop i) = .error er) (hg : w.grownBy w' (some F)) (hr : Rf w' F v l i' er) : TextF F most v l i w (.returned (.slice none 0 0)) w' := by
  unfold TextF
  rw [h]
  exact ⟨hg, rfl, i', hr⟩
theorem TextF.ok {F most : Nat} {v u : Value} {l d : List UInt8} {i i' : Nat} {w w' : World} (h : rdText most (l.drop i) = .ok (d, l.drop i')) (hg : w.grownBy w' (some F)) (hb : BS w' u d) (hr : Rf w' F v l i' 0) : TextF F most v l i w (.returned u) w' := by
  unfold TextF
  rw [h]
  exact ⟨hg, u, rfl, hb, i', rfl, hr⟩
set_option maxHeartbeats 2000000 in
theorem fText_c (F most : Nat) (hm : most ≤ 1000000) (v : Value) (l : List UInt8) (i : Nat) (w : World) (h : Rf w F v l i 0) :
    Calls Try.prog 29 #[.pointer (some ⟨F, 0, none⟩), .int .i64 most] w (TextF F most v l i w) := by
  have hT : rdText most (l.drop i) = rdText most (l.drop i) := rfl
  conv at hT => rhs; unfold rdText rdN
  have hlen0 := h.len
  have hle0 := h.le
  have hx := beN4 (l.drop i)
  rw [List.drop_drop] at hT
  rw [List.length_drop] at hT
  obtain ⟨n, hne⟩ : ∃ n, n = beN ((l.drop i).take 4) := ⟨_, rfl⟩
  rw [← hne] at hT hx
  have HT := hide hT
  clear hT
  go_enter Try.func29, Try.ntmps29
  go_wp2_with fail
  refine (fU32_c F v l i w h).mono ?_
  rintro e w1 ⟨hg, h1⟩
  rw [← hne] at h1
  have Hne := hide hne
  clear hne
  by_cases hl : l.length < i + 4
  · have hT := HT.out
    rw [if_pos (by omega)] at hT
    have HT2 := hide hT
    clear hT HT
    simp only [if_pos hl] at h1
    obtain ⟨rfl, h⟩ := h1
    clear hle0 hlen0
    have hR := h.blk.lt
    have hle := h.le
    have hlen := h.len
    obtain ⟨A, c, rfl, hc, hA, hcell⟩ := id h.bs
    have c0 := h.blk.cell 0
    have c1 := h.blk.cell 1
    have c2 := h.blk.cell 2
    have f := h.blk.frozen
    simp only [List.getElem?_toArray, List.getElem?_cons_zero, List.getElem?_cons_succ] at c0 c1 c2
    have H := hide h
    clear h
    clear hcell
    go_wp2_with fail
    go_ret
    exact TextF.err HT2.out hg H.out
  have hT := HT.out
  rw [if_neg (by omega)] at hT
  simp only [] at hT
  simp only [if_neg hl] at h1
  obtain ⟨rfl, h⟩ := h1
  clear hle0 hlen0 HT
  have hi4 : (i + 4 : Nat) = i + 4 := rfl
  generalize i + 4 = j at *
  clear hi4
  have hR := h.blk.lt
  have hle := h.le
  have hlen := h.len
  obtain ⟨A, c, rfl, hc, hA, hcell⟩ := id h.bs
  have c0 := h.blk.cell 0
  have c1 := h.blk.cell 1
  have c2 := h.blk.cell 2
  have f := h.blk.frozen
  simp only [List.getElem?_toArray, List.getElem?_cons_zero, List.getElem?_cons_succ] at c0 c1 c2
  have H := hide h
  clear h
  by_cases hmost : most < n
  · rw [if_pos hmost] at hT
    have HT := hide hT
    clear hT hcell
    go_wp2_with fail
    go_ret
    exact TextF.err HT.out (gb_set hg _ _) (H.out.set 4)
  rw [if_neg hmost] at hT
  have HT := hide hT
  clear hT
  go_wp2_with fail
  have hp := padN_lt n
  have hp0 : (n + padN n) % 4 = 0 := by unfold padN; omega
  have hp1 : ∀ k, k < padN n → (n + k) % 4 ≠ 0 := by intro k hk; unfold padN at hk; omega
  generalize padN n = p at *
  go_loopw [6] (fun x wr => ∃ m : Nat, n ≤ m ∧ m ≤ n + p ∧ x = .int .i64 m ∧ wr = w1) (fun x _ => n + p - (intOf x).toNat)
  case atStart => exact ⟨n, Nat.le_refl _, by omega, rfl, rfl⟩
  case round =>
    obtain ⟨m, hm1, hm2, rfl, rfl⟩ := hrel
    by_cases hlt : m < n + p
    · have hne : m % 4 ≠ 0 := by have := hp1 (m - n) (by omega); rwa [show n + (m - n) = m by omega] at this
      have hneI : (m : Int) % 4 ≠ 0 := by omega
      clear hp0 hp1
      go_wp2_with fail
      go_roundw
      case rel => exact ⟨m + 1, by omega, by omega, by go_num, trivial⟩
      case measure => simp [intOf]; omega
    · obtain rfl : m = n + p := by omega
      have hneI : ((n : Int) + (p : Int)) % 4 = 0 := by omega
      clear hp0 hp1 hlt hm1 hm2
      go_wp2_with fail
      have hs := short_c F (n + p) (by omega) (.slice A l.length c) l j wr H.out
      rw [Int.natCast_add] at hs
      refine hs.mono ?_
      rintro e w2 ⟨hg2, h2⟩
      clear hs c0 c1 c2 f hR H
      have hT := HT.out
      rw [List.length_drop, List.drop_drop, List.drop_drop] at hT
      clear HT
      by_cases hsh : l.length < j + (n + p)
      · rw [if_pos (by omega)] at hT
        simp only [if_pos hsh] at h2
        obtain ⟨rfl, h2⟩ := h2
        have HT := hide hT
        have H := hide h2
        clear hT h2 hcell
        go_wp2_with fail
        go_ret
        exact TextF.err HT.out (gb_trans hg hg2) H.out
      rw [if_neg (by omega)] at hT
      simp only [if_neg hsh] at h2
      obtain ⟨rfl, h2⟩ := h2
      have HT := hide hT
      have H2 := hide h2
      clear hT h2 hcell
      have hg3 := gb_trans hg hg2
      go_wp2_with fail
      clear hneI
      go_loopw [7] (fun x wr => ∃ k : Nat, k ≤ p ∧ x = .int .i64 ((n : Int) + (k : Int)) ∧ ((l.drop (j + n)).take k).all (· == 0) = true ∧ Rf wr F (.slice A l.length c) l j 0 ∧ w.grownBy wr (some F)) (fun x _ => n + p - (intOf x).toNat)
      case atStart => exact ⟨0, Nat.zero_le _, by simp, by simp, H2.out, hg3⟩
      case round =>
        clear hg2 hg3 hg H2
        obtain ⟨k, hk, rfl, hz, h, hg⟩ := hrel
        have hR := h.blk.lt
        have c0 := h.blk.cell 0
        have c1 := h.blk.cell 1
        have c2 := h.blk.cell 2
        have f := h.blk.frozen
        simp only [List.getElem?_toArray, List.getElem?_cons_zero, List.getElem?_cons_succ] at c0 c1 c2
        obtain ⟨A', c', hv, _, _, hcell⟩ := id h.bs
        injection hv with h1 h2 h3
        subst h1 h3
        have H := hide h
        clear h h2
        by_cases hlt2 : k < p
        · have hkl : j + n + k < l.length := by omega
          obtain ⟨g, o, cur, fr, rfl, hbk, hcu⟩ := hcell (by omega)
          have hgl := (Array.getElem?_eq_some_iff.1 hbk).1
          have d0 : wr.cell? ⟨g, o + (j + (n + k)), none⟩ = some (.int .u8 (l[j + n + k].toNat : Int)) := by
            rw [cell_of_row wr g _ cur tU8 fr hbk, ← hcu (j + n + k) hkl, Nat.add_assoc j n k]
          have q1 : IntKind.wrap .i64 ((j : Int) + ((n : Int) + (k : Int))) = (j : Int) + ((n : Int) + (k : Int)) := by rw [IntKind.wrap_i64]; omega
          have r1 : (0 ≤ (j : Int) + ((n : Int) + (k : Int)) ∧ (j : Int) + ((n : Int) + (k : Int)) < (l.length : Int)) = True := by simp only [eq_iff_iff, iff_true]; omega
          have t1 : ((j : Int) + ((n : Int) + (k : Int))).toNat = j + (n + k) := by omega
          have hdk : (l.drop (j + n)).take (k + 1) = (l.drop (j + n)).take k ++ [l[j + n + k]] := by
            rw [List.take_succ_eq_append_getElem (by rw [List.length_drop]; omega), List.getElem_drop]
          have hmem : l[j + n + k] ∈ (l.drop (j + n)).take p := by
            rw [List.mem_take_iff_getElem]
            refine ⟨k, by rw [List.length_drop]; omega, ?_⟩
            rw [List.getElem_drop]
          generalize l[j + n + k] = u at *
          have Hdk := hide hdk
          have Hmem := hide hmem
          have Hz := hide hz
          clear hdk hmem hz hcu hbk hcell
          by_cases hu : u = 0
          · subst hu
            go_wp2_with fail
            refine Reg.wp_reg [0, 1, 3, 7, 0, 16, 48, 112, 0, 496, 1023, 2047, 4095] [(0, .W), (1, .W), (2, .W), (3, .H), (4, .W), (5, .W), (6, .W), (7, .H), (8, .W), (9, .W), (10, .W), (11, .H), (12, .W)] (Reg.Old _) (by kernel_rfl) (by kernel_rfl) (fun _ => Reg.Old.drew (Reg.Old.refl _)) ?_
            repeat (first | (refine Reg.wpC_W rfl (fun K hK => ?_); go_simp; refine hK _ ?_; clear hK K) | (refine Reg.wpC_H2 rfl rfl (fun K hK => ?_); apply Exists.intro; refine ⟨fun w' hS => ?_, ?_⟩; (have hS2 := hS.2; clear hS; go_simp; first | done | rfl); go_simp; refine hK _ ?_; clear hK K) | (refine Reg.wpC_N rfl rfl (fun K hK => ?_); go_simp; refine hK _ ?_; clear hK K))
            refine Reg.wpC_nil ?_
            go_wp2_with fail
            go_roundw
            case rel => exact ⟨k + 1, by omega, by go_num, by rw [Hdk.out, List.all_append, Hz.out]; rfl, H.out.drew, gb_drew hg⟩
            case measure => simp [intOf]; omega
          · have hu2 : (u.toNat : Int) ≠ 0 := fun h => hu (UInt8.toNat_inj.1 (by simpa using h))
            have Hu := hide hu
            clear hu
            go_wp2_with fail
            refine Reg.wp_reg [0, 1, 3, 7, 0, 16, 48, 112, 0, 496, 1023, 2047, 4095] [(0, .W), (1, .W), (2, .W), (3, .H), (4, .W), (5, .W), (6, .W), (7, .H), (8, .W), (9, .W), (10, .W), (11, .H), (12, .W)] (Reg.Old _) (by kernel_rfl) (by kernel_rfl) (fun _ => Reg.Old.drew (Reg.Old.refl _)) ?_
            repeat (first | (refine Reg.wpC_W rfl (fun K hK => ?_); go_simp; refine hK _ ?_; clear hK K) | (refine Reg.wpC_H2 rfl rfl (fun K hK => ?_); apply Exists.intro; refine ⟨fun w' hS => ?_, ?_⟩; (have hS2 := hS.2; clear hS; go_simp; first | done | rfl); go_simp; refine hK _ ?_; clear hK K) | (refine Reg.wpC_N rfl rfl (fun K hK => ?_); go_simp; refine hK _ ?_; clear hK K))
            refine Reg.wpC_nil ?_
            go_wp2_with fail
            go_ret
            refine TextF.err ?_ (gb_set (gb_drew hg) _ _) (H.out.drew.set 2)
            rw [HT.out, if_neg]
            intro hall
            have := List.all_eq_true.1 hall u Hmem.out
            exact Hu.out (by simpa using this)
        · obtain rfl : k = p := by omega
          have hT := HT.out
          rw [if_pos hz] at hT
          have HT2 := hide hT
          clear hT hz HT hcell
          have hlenj : j + (n + k) ≤ l.length := by omega
          by_cases hcj : j = c
          · obtain rfl : j = c := hcj
            obtain rfl : n = 0 := by omega
            obtain rfl : k = 0 := by omega
            have q1 : IntKind.wrap .i64 (j : Int) = (j : Int) := by rw [IntKind.wrap_i64]; omega
            have r0 : (0 ≤ (j : Int) ∧ (j : Int) ≤ (j : Int)) = True := by simp only [eq_iff_iff, iff_true]; omega
            go_wp2_with fail
            refine Reg.wp_reg [0, 1, 3, 7, 0, 16, 48, 112, 0, 256, 768, 1792, 0, 7936, 16383, 32767] [(0, .W), (1, .W), (2, .W), (3, .H), (4, .W), (5, .W), (6, .W), (7, .H), (8, .W), (9, .W), (10, .W), (11, .H), (12, .W), (13, .W), (14, .W), (15, .W)] (Reg.Old _) (by kernel_rfl) (by kernel_rfl) (fun _ => Reg.Old.drew (Reg.Old.refl _)) ?_
            repeat (first | (refine Reg.wpC_W rfl (fun K hK => ?_); go_simp; refine hK _ ?_; clear hK K) | (refine Reg.wpC_H2 rfl rfl (fun K hK => ?_); apply Exists.intro; refine ⟨fun w' hS => ?_, ?_⟩; (have hS2 := hS.2; clear hS; go_simp; first | done | rfl); go_simp; refine hK _ ?_; clear hK K) | (refine Reg.wpC_N rfl rfl (fun K hK => ?_); go_simp; refine hK _ ?_; clear hK K))
            refine Reg.wpC_nil ?_
            go_wp2_with fail
            go_ret
            exact TextF.ok HT2.out (gb_set (gb_drew hg) _ _) (BS.set (BS.zeroT A _ rfl) H.out.drew.blk (by decide) _ _) (H.out.drew.go (j + (0 + 0)) (by omega) _ (by omega))
          · have hcj2 : ¬ c = j := fun h => hcj h.symm
            have q1 : IntKind.wrap .i64 ((j : Int) + (n : Int)) = (j : Int) + (n : Int) := by rw [IntKind.wrap_i64]; omega
            have q2 : IntKind.wrap .i64 ((j : Int) + ((n : Int) + (k : Int))) = (j : Int) + ((n : Int) + (k : Int)) := by rw [IntKind.wrap_i64]; omega
            have r0 : (0 ≤ (j : Int) + (n : Int) ∧ (j : Int) + (n : Int) ≤ (c : Int)) = True := by simp only [eq_iff_iff, iff_true]; omega
            have t0 : ((j : Int) + (n : Int)).toNat = j + n := by omega
            go_wp2_with fail
            refine Reg.wp_reg [0, 1, 3, 7, 0, 16, 48, 112, 0, 256, 768, 1792, 0, 7936, 16383, 32767] [(0, .W), (1, .W), (2, .W), (3, .H), (4, .W), (5, .W), (6, .W), (7, .H), (8, .W), (9, .W), (10, .W), (11, .H), (12, .W), (13, .W), (14, .W), (15, .W)] (Reg.Old _) (by kernel_rfl) (by kernel_rfl) (fun _ => Reg.Old.drew (Reg.Old.refl _)) ?_
            repeat (first | (refine Reg.wpC_W rfl (fun K hK => ?_); go_simp; refine hK _ ?_; clear hK K) | (refine Reg.wpC_H2 rfl rfl (fun K hK => ?_); apply Exists.intro; refine ⟨fun w' hS => ?_, ?_⟩; (have hS2 := hS.2; clear hS; go_simp; first | done | rfl); go_simp; refine hK _ ?_; clear hK K) | (refine Reg.wpC_N rfl rfl (fun K hK => ?_); go_simp; refine hK _ ?_; clear hK K))
            refine Reg.wpC_nil ?_
            go_wp2_with fail
            go_ret
            exact TextF.ok HT2.out (gb_set (gb_drew hg) _ _) (BS.set ((H.out.bs.drop (k := j) (by omega)).take (by rw [List.length_drop]; omega)).drew H.out.drew.blk (by decide) _ _) (H.out.drew.go (j + (n + k)) (by omega) _ (by omega))
end Go.Tr
