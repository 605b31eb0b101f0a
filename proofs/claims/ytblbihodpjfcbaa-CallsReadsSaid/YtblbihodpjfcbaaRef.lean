/- The document's reader of layer 1. No condition. -/
import Derived.Test.YtblbihodpjfcbaaRead2
namespace Go.Tr
open Go.RowKit Go.Proofs
set_option linter.unusedVariables false

abbrev tRf : TypeId := 60
/-- the document's reader: bytes, a place, the error -/
structure Rf (w : World) (F : Nat) (v : Value) (l : List UInt8) (i : Nat) (e : Int) : Prop where
  blk : Blk w F tRf #[v, .int .i64 i, .int .i64 e]
  bs : BS w v l
  le : i ≤ l.length
  len : l.length ≤ 100000000
theorem Rf.kept {w w' : World} {F : Nat} {v : Value} {l : List UInt8} {i : Nat} {e : Int} {r : Option Nat} (h : Rf w F v l i e) (hg : w.grownBy w' r) (hr : ∀ k, r = some k → ∃ t cs, Blk w k t cs ∧ t ≠ tU8 ∧ t ≠ tRf) : Rf w' F v l i e := by
  refine ⟨h.blk.grown hg ?_, h.bs.kept hg fun k hk => ?_, h.le, h.len⟩
  · intro hh
    obtain ⟨t, cs, h1, _, h3⟩ := hr F hh.symm
    exact Blk.ne h.blk h1 (fun h => h3 h.symm) rfl
  · obtain ⟨t, cs, h1, h2, _⟩ := hr k hk
    exact ⟨t, cs, h1, h2⟩
theorem Rf.grown {w w' : World} {F : Nat} {v : Value} {l : List UInt8} {i : Nat} {e : Int} (h : Rf w F v l i e) (hg : w.grownBy w' none) : Rf w' F v l i e := h.kept hg (fun _ h => by cases h)
theorem Rf.set {w : World} {F : Nat} {v : Value} {l : List UInt8} {i : Nat} {e : Int} (h : Rf w F v l i e) (e' : Int) : Rf (w.setCell ⟨F, 2, none⟩ (.int .i64 e')) F v l i e' :=
  ⟨h.blk.set 2 _, BS.set h.bs h.blk (by decide) _ _, h.le, h.len⟩
theorem Rf.go {w : World} {F : Nat} {v : Value} {l : List UInt8} {i : Nat} {e : Int} (h : Rf w F v l i e) (j : Nat) (hj : j ≤ l.length) (x : Int) (hx : x = j) : Rf (w.setCell ⟨F, 1, none⟩ (.int .i64 x)) F v l j e := by
  subst hx
  exact ⟨h.blk.set 1 _, BS.set h.bs h.blk (by decide) _ _, hj, h.len⟩
theorem Rf.drew {w : World} {F : Nat} {v : Value} {l : List UInt8} {i : Nat} {e : Int} (h : Rf w F v l i e) : Rf w.drew F v l i e := ⟨h.blk, h.bs, h.le, h.len⟩

theorem short_bad_c (F n : Nat) (v : Value) (l : List UInt8) (i : Nat) (e0 : Int) (he : e0 ≠ 0) (w : World) (h : Rf w F v l i e0) :
    Calls Try.prog 47 #[.pointer (some ⟨F, 0, none⟩), .int .i64 n] w fun e w' => e = .returned (.bool true) ∧ w' = w := by
  have hR := h.blk.lt
  have hle := h.le
  have hlen := h.len
  obtain ⟨A, c, rfl, hc, hA, hcell⟩ := id h.bs
  have c0 := h.blk.cell 0
  have c1 := h.blk.cell 1
  have c2 := h.blk.cell 2
  have f := h.blk.frozen
  simp only [List.getElem?_toArray, List.getElem?_cons_zero, List.getElem?_cons_succ] at c0 c1 c2
  have H := hide h
  clear h
  clear hcell
  go_enter Try.func47, Try.ntmps47
  go_wp2_with fail
  go_ret
  exact ⟨rfl, rfl⟩
theorem short_c (F n : Nat) (hn : n ≤ 100000000000) (v : Value) (l : List UInt8) (i : Nat) (w : World) (h : Rf w F v l i 0) :
    Calls Try.prog 47 #[.pointer (some ⟨F, 0, none⟩), .int .i64 n] w fun e w' => w.grownBy w' (some F) ∧
      if l.length < i + n then e = .returned (.bool true) ∧ Rf w' F v l i 3 else e = .returned (.bool false) ∧ Rf w' F v l i 0 := by
  have hR := h.blk.lt
  have hle := h.le
  have hlen := h.len
  obtain ⟨A, c, rfl, hc, hA, hcell⟩ := id h.bs
  have c0 := h.blk.cell 0
  have c1 := h.blk.cell 1
  have c2 := h.blk.cell 2
  have f := h.blk.frozen
  simp only [List.getElem?_toArray, List.getElem?_cons_zero, List.getElem?_cons_succ] at c0 c1 c2
  have H := hide h
  clear h
  clear hcell
  have hw : IntKind.wrap .i64 ((l.length : Int) - (i : Int)) = (l.length : Int) - (i : Int) := by rw [IntKind.wrap_i64]; omega
  by_cases hl : l.length < i + n
  · simp only [if_pos hl]
    go_enter Try.func47, Try.ntmps47
    go_wp2_with fail
    refine Reg.wp_reg [0, 1, 3, 7, 15, 0, 32, 96, 224, 511, 0, 2047] [(0, .W), (1, .W), (2, .W), (3, .H), (4, .W), (5, .W), (6, .W), (7, .W), (8, .H), (9, .W), (10, .W), (11, .W)] (Reg.Old _) (by kernel_rfl) (by kernel_rfl) (fun _ => Reg.Old.drew (Reg.Old.refl _)) ?_
    repeat (first | (refine Reg.wpC_W rfl (fun K hK => ?_); go_simp; refine hK _ ?_; clear hK K) | (refine Reg.wpC_H2 rfl rfl (fun K hK => ?_); apply Exists.intro; refine ⟨fun w' hS => ?_, ?_⟩; (have hS2 := hS.2; clear hS; go_simp; first | done | rfl); go_simp; refine hK _ ?_; clear hK K) | (refine Reg.wpC_N rfl rfl (fun K hK => ?_); go_simp; refine hK _ ?_; clear hK K))
    refine Reg.wpC_nil ?_
    go_wp2_with fail
    go_ret
    exact ⟨gb_set (gb_drew (gb_refl _ _)) _ _, rfl, H.out.drew.set 3⟩
  · simp only [if_neg hl]
    go_enter Try.func47, Try.ntmps47
    go_wp2_with fail
    refine Reg.wp_reg [0, 1, 3, 7, 15, 0, 32, 96, 224, 511, 0, 2047] [(0, .W), (1, .W), (2, .W), (3, .H), (4, .W), (5, .W), (6, .W), (7, .W), (8, .H), (9, .W), (10, .W), (11, .W)] (Reg.Old _) (by kernel_rfl) (by kernel_rfl) (fun _ => Reg.Old.drew (Reg.Old.refl _)) ?_
    repeat (first | (refine Reg.wpC_W rfl (fun K hK => ?_); go_simp; refine hK _ ?_; clear hK K) | (refine Reg.wpC_H2 rfl rfl (fun K hK => ?_); apply Exists.intro; refine ⟨fun w' hS => ?_, ?_⟩; (have hS2 := hS.2; clear hS; go_simp; first | done | rfl); go_simp; refine hK _ ?_; clear hK K) | (refine Reg.wpC_N rfl rfl (fun K hK => ?_); go_simp; refine hK _ ?_; clear hK K))
    refine Reg.wpC_nil ?_
    go_wp2_with fail
    go_ret
    exact ⟨gb_drew (gb_refl _ _), rfl, H.out.drew⟩

theorem take4 (l : List UInt8) (i : Nat) (h : i + 4 ≤ l.length) : (l.drop i).take 4 = [l[i], l[i + 1], l[i + 2], l[i + 3]] := by
  apply List.ext_getElem
  · simp; omega
  · intro j h1 h2
    simp only [List.length_cons, List.length_nil] at h2
    rw [List.getElem_take, List.getElem_drop]
    match j, h2 with
    | 0, _ | 1, _ | 2, _ | 3, _ => rfl
theorem word_c (F : Nat) (v : Value) (l : List UInt8) (i j : Nat) (hj : j + 4 ≤ l.length) (e0 : Int) (w : World) (h : Rf w F v l i e0) :
    Calls Try.prog 48 #[.pointer (some ⟨F, 0, none⟩), .int .i64 j] w fun e w' => e = .returned (.int .u32 (beN ((l.drop j).take 4))) ∧ w' = w.drew := by
  have hR := h.blk.lt
  have hle := h.le
  have hlen := h.len
  obtain ⟨A, c, rfl, hc, hA, hcell⟩ := id h.bs
  have c0 := h.blk.cell 0
  have c1 := h.blk.cell 1
  have c2 := h.blk.cell 2
  have f := h.blk.frozen
  simp only [List.getElem?_toArray, List.getElem?_cons_zero, List.getElem?_cons_succ] at c0 c1 c2
  have H := hide h
  clear h
  obtain ⟨g, o, cur, fr, rfl, hbk, hcu⟩ := hcell (by omega)
  have hg := (Array.getElem?_eq_some_iff.1 hbk).1
  have d0 : w.cell? ⟨g, o + j, none⟩ = some (.int .u8 (l[j].toNat : Int)) := by rw [cell_of_row w g _ cur tU8 fr hbk, ← hcu j (by omega)]
  have d1 : w.cell? ⟨g, o + (j + 1), none⟩ = some (.int .u8 (l[j + 1].toNat : Int)) := by rw [cell_of_row w g _ cur tU8 fr hbk, ← hcu (j + 1) (by omega)]
  have d2 : w.cell? ⟨g, o + (j + 2), none⟩ = some (.int .u8 (l[j + 2].toNat : Int)) := by rw [cell_of_row w g _ cur tU8 fr hbk, ← hcu (j + 2) (by omega)]
  have d3 : w.cell? ⟨g, o + (j + 3), none⟩ = some (.int .u8 (l[j + 3].toNat : Int)) := by rw [cell_of_row w g _ cur tU8 fr hbk, ← hcu (j + 3) (by omega)]
  have p0 : j < l.length := by omega
  have p1 : j + 1 < l.length := by omega
  have p2 : j + 2 < l.length := by omega
  have p3 : j + 3 < l.length := by omega
  have u0 := l[j].toNat_lt
  have u1 := l[j + 1].toNat_lt
  have u2 := l[j + 2].toNat_lt
  have u3 := l[j + 3].toNat_lt
  have hv : beN ((l.drop j).take 4) = ((l[j].toNat * 256 + l[j + 1].toNat) * 256 + l[j + 2].toNat) * 256 + l[j + 3].toNat := by
    rw [take4 l j hj]
    simp [beN]
  rw [hv]
  clear hv hbk hcu hcell
  generalize l[j].toNat = b0 at *
  generalize l[j + 1].toNat = b1 at *
  generalize l[j + 2].toNat = b2 at *
  generalize l[j + 3].toNat = b3 at *
  have q1 : IntKind.wrap .i64 ((j : Int) + 1) = (j : Int) + 1 := by rw [IntKind.wrap_i64]; omega
  have q2 : IntKind.wrap .i64 ((j : Int) + 2) = (j : Int) + 2 := by rw [IntKind.wrap_i64]; omega
  have q3 : IntKind.wrap .i64 ((j : Int) + 3) = (j : Int) + 3 := by rw [IntKind.wrap_i64]; omega
  have r1 : (0 ≤ (j : Int) + 1 ∧ (j : Int) + 1 < (l.length : Int)) = True := by simp only [eq_iff_iff, iff_true]; omega
  have r2 : (0 ≤ (j : Int) + 2 ∧ (j : Int) + 2 < (l.length : Int)) = True := by simp only [eq_iff_iff, iff_true]; omega
  have r3 : (0 ≤ (j : Int) + 3 ∧ (j : Int) + 3 < (l.length : Int)) = True := by simp only [eq_iff_iff, iff_true]; omega
  have t1 : ((j : Int) + 1).toNat = j + 1 := by omega
  have t2 : ((j : Int) + 2).toNat = j + 2 := by omega
  have t3 : ((j : Int) + 3).toNat = j + 3 := by omega
  go_enter Try.func48, Try.ntmps48
  go_wp2_with fail
  refine Reg.wp_reg [0, 1, 3, 7, 0, 31, 63, 127, 255, 0, 512, 1536, 3584, 0, 8192, 32256, 65024, 130560, 261632, 524287, 0, 1048576, 3145728, 7340032, 0, 16777216, 66060288, 133169152, 267386880, 535822336, 1073741823, 0, 2147483648, 6442450944, 15032385536, 0, 34359738368, 135291469824, 272730423296, 547608330240, 1099511627775, 2199023255551] [(0, .W), (1, .W), (2, .W), (3, .H), (4, .W), (5, .W), (6, .H), (7, .W), (8, .W), (9, .W), (10, .W), (11, .W), (12, .H), (13, .W), (14, .W), (15, .W), (16, .H), (17, .W), (18, .W), (19, .W), (20, .W), (21, .W), (22, .W), (23, .H), (24, .W), (25, .W), (26, .W), (27, .H), (28, .W), (29, .W), (30, .W), (31, .W), (32, .W), (33, .W), (34, .H), (35, .W), (36, .W), (37, .W), (38, .H), (39, .W), (40, .W), (41, .W)] (Reg.Old _) (by kernel_rfl) (by kernel_rfl) (fun _ => Reg.Old.drew (Reg.Old.refl _)) ?_
  repeat (first | (refine Reg.wpC_W rfl (fun K hK => ?_); go_simp; refine hK _ ?_; clear hK K) | (refine Reg.wpC_H2 rfl rfl (fun K hK => ?_); apply Exists.intro; refine ⟨fun w' hS => ?_, ?_⟩; (have hS2 := hS.2; clear hS; go_simp; first | done | rfl); go_simp; refine hK _ ?_; clear hK K) | (refine Reg.wpC_N rfl rfl (fun K hK => ?_); go_simp; refine hK _ ?_; clear hK K))
  refine Reg.wpC_nil ?_
  go_wp2_with fail
  go_ret
  exact ⟨ret_i (by simp only [IntKind.wrap_u32]; omega), rfl⟩

/-- a number was read by the document's reader -/
def NumF (F n : Nat) (v : Value) (l : List UInt8) (i : Nat) (k : IntKind) (w : World) (e : Ending) (w' : World) : Prop :=
  w.grownBy w' (some F) ∧ if l.length < i + n then e = .returned (.int k 0) ∧ Rf w' F v l i 3 else e = .returned (.int k (beN ((l.drop i).take n))) ∧ Rf w' F v l (i + n) 0
theorem fU32_bad_c (F : Nat) (v : Value) (l : List UInt8) (i : Nat) (e0 : Int) (he : e0 ≠ 0) (w : World) (h : Rf w F v l i e0) :
    Calls Try.prog 28 #[.pointer (some ⟨F, 0, none⟩)] w fun e w' => e = .returned (.int .u32 0) ∧ w' = w := by
  go_enter Try.func28, Try.ntmps28
  go_wp2_with fail
  refine (short_bad_c F 4 v l i e0 he w h).mono ?_
  rintro e w1 ⟨rfl, rfl⟩
  go_wp2_with fail
  go_ret
  exact ⟨rfl, rfl⟩
theorem fU32_c (F : Nat) (v : Value) (l : List UInt8) (i : Nat) (w : World) (h : Rf w F v l i 0) :
    Calls Try.prog 28 #[.pointer (some ⟨F, 0, none⟩)] w (NumF F 4 v l i .u32 w) := by
  unfold NumF
  have hle := h.le
  have hlen := h.len
  go_enter Try.func28, Try.ntmps28
  go_wp2_with fail
  refine (short_c F 4 (by omega) v l i w h).mono ?_
  rintro e w1 ⟨hg, h1⟩
  by_cases hl : l.length < i + 4
  · simp only [if_pos hl] at h1 ⊢
    obtain ⟨rfl, h1⟩ := h1
    have H := hide h1
    clear h1
    go_wp2_with fail
    go_ret
    exact ⟨hg, rfl, H.out⟩
  · simp only [if_neg hl] at h1 ⊢
    obtain ⟨rfl, h1⟩ := h1
    have hR := h1.blk.lt
    have c1 := h1.blk.cell 1
    have f := h1.blk.frozen
    simp only [List.getElem?_toArray, List.getElem?_cons_zero, List.getElem?_cons_succ] at c1
    have H := hide h1
    clear h1
    go_wp2_with fail
    refine (word_c F v l i i (by omega) 0 w1 H.out).mono ?_
    rintro e w2 ⟨rfl, rfl⟩
    have hx := beN4 (l.drop i)
    obtain ⟨x, hxe⟩ : ∃ x, x = beN ((l.drop i).take 4) := ⟨_, rfl⟩
    rw [← hxe] at hx ⊢
    have Hxe := hide hxe
    clear hxe
    go_wp2_with fail
    go_ret
    exact ⟨gb_set (gb_drew hg) _ _, ret_i (by rw [Hxe.out]), H.out.drew.go (i + 4) (by omega) _ (by omega)⟩
theorem fU64_c (F : Nat) (v : Value) (l : List UInt8) (i : Nat) (w : World) (h : Rf w F v l i 0) :
    Calls Try.prog 30 #[.pointer (some ⟨F, 0, none⟩)] w (NumF F 8 v l i .u64 w) := by
  unfold NumF
  have hle := h.le
  have hlen := h.len
  go_enter Try.func30, Try.ntmps30
  go_wp2_with fail
  refine (short_c F 8 (by omega) v l i w h).mono ?_
  rintro e w1 ⟨hg, h1⟩
  by_cases hl : l.length < i + 8
  · simp only [if_pos hl] at h1 ⊢
    obtain ⟨rfl, h1⟩ := h1
    have H := hide h1
    clear h1
    go_wp2_with fail
    go_ret
    exact ⟨hg, rfl, H.out⟩
  · simp only [if_neg hl] at h1 ⊢
    obtain ⟨rfl, h1⟩ := h1
    have hR := h1.blk.lt
    have c1 := h1.blk.cell 1
    have f := h1.blk.frozen
    simp only [List.getElem?_toArray, List.getElem?_cons_zero, List.getElem?_cons_succ] at c1
    have H := hide h1
    clear h1
    have q4 : IntKind.wrap .i64 ((i : Int) + 4) = ((i + 4 : Nat) : Int) := by rw [IntKind.wrap_i64]; omega
    have hval : beN ((l.drop i).take 8) = beN ((l.drop i).take 4) * 4294967296 + beN ((l.drop (i + 4)).take 4) := by
      have e1 : (l.drop i).take 8 = (l.drop i).take 4 ++ (l.drop (i + 4)).take 4 := by
        rw [show 8 = 4 + 4 by rfl, List.take_add, List.drop_drop]
      have e2 := take4 l (i + 4) (by omega)
      rw [e1, e2]
      generalize (l.drop i).take 4 = p
      simp only [beN, List.foldl_append, List.foldl_cons, List.foldl_nil]
      omega
    have HV := hide hval
    have hx := beN4 (l.drop i)
    have hy := beN4 (l.drop (i + 4))
    have W1 := word_c F v l i i (by omega) 0
    have W2 := word_c F v l i (i + 4) (by omega) 0
    clear hval
    generalize beN ((l.drop i).take 4) = x at *
    generalize beN ((l.drop (i + 4)).take 4) = y at *
    go_wp2_with fail
    refine Reg.wp_reg [0, 0, 2, 6, 14, 31, 63, 127, 0, 0, 512, 1536, 3584, 7680, 16191, 32575, 65535, 131071] [(0, .W), (1, .W), (2, .W), (3, .W), (4, .H), (5, .E true), (6, .W), (7, .W), (8, .W), (9, .W), (10, .W), (11, .W), (12, .H), (13, .W), (14, .E false), (15, .W), (16, .W), (17, .W)] (Reg.Old _) (by kernel_rfl) (by kernel_rfl) (fun _ => Reg.Old.drew (Reg.Old.refl _)) ?_
    repeat (first | (refine Reg.wpC_W rfl (fun K hK => ?_); go_simp; refine hK _ ?_; clear hK K) | (refine Reg.wpC_H2 rfl rfl (fun K hK => ?_); apply Exists.intro; refine ⟨fun w' hS => ?_, ?_⟩; (have hS2 := hS.2; clear hS; go_simp; first | done | rfl); go_simp; refine hK _ ?_; clear hK K) | (refine Reg.wpC_N rfl rfl (fun K hK => ?_); go_simp; refine hK _ ?_; clear hK K))
    refine Reg.wpC_E rfl (fun K hK => ?_)
    go_simp
    refine (W1 _ H.out.drew).mono ?_
    rintro e w2 ⟨rfl, rfl⟩
    simp only []
    refine hK _ _ (fun _ => ((Reg.Old.refl _).drew).drew) ?_
    clear hK K
    repeat (first | (refine Reg.wpC_W rfl (fun K hK => ?_); go_simp; refine hK _ ?_; clear hK K) | (refine Reg.wpC_H2 rfl rfl (fun K hK => ?_); apply Exists.intro; refine ⟨fun w' hS => ?_, ?_⟩; (have hS2 := hS.2; clear hS; go_simp; first | done | rfl); go_simp; refine hK _ ?_; clear hK K) | (refine Reg.wpC_N rfl rfl (fun K hK => ?_); go_simp; refine hK _ ?_; clear hK K))
    refine Reg.wpC_E rfl (fun K hK => ?_)
    go_simp
    refine (W2 _ H.out.drew.drew).mono ?_
    rintro e w2 ⟨rfl, rfl⟩
    simp only []
    refine hK _ _ (fun _ => (((Reg.Old.refl _).drew).drew).drew) ?_
    clear hK K
    repeat (first | (refine Reg.wpC_W rfl (fun K hK => ?_); go_simp; refine hK _ ?_; clear hK K) | (refine Reg.wpC_H2 rfl rfl (fun K hK => ?_); apply Exists.intro; refine ⟨fun w' hS => ?_, ?_⟩; (have hS2 := hS.2; clear hS; go_simp; first | done | rfl); go_simp; refine hK _ ?_; clear hK K) | (refine Reg.wpC_N rfl rfl (fun K hK => ?_); go_simp; refine hK _ ?_; clear hK K))
    refine Reg.wpC_nil ?_
    go_wp2_with fail
    go_ret
    exact ⟨gb_set (gb_drew (gb_drew (gb_drew hg))) _ _, ret_i (by rw [HV.out]; simp only [IntKind.wrap_u64]; omega), H.out.drew.drew.drew.go (i + 8) (by omega) _ (by omega)⟩
end Go.Tr
