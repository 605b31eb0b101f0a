/- calls: how each field of what a procedure is asked with is laid. No condition. -/
import Derived.Test.YtblbihodpjfcbaaXdr
namespace Go.Tr
open Go.RowKit Go.Proofs
set_option linter.unusedVariables false

abbrev tLay : TypeId := 72



theorem cell_ne {w : World} {L i j : Nat} {v : Value} (h : i ≠ j) : (w.setCell ⟨L, i, none⟩ v).cell? ⟨L, j, none⟩ = w.cell? ⟨L, j, none⟩ :=
  World.cell?_setCell_other w _ _ v (fun e => h (by injection e))

def okNum (ok : Bool) (x : Int) : Bool := ok && decide (0 ≤ x) && decide (x ≤ 4294967295)

/-- number lays a number of 32 bits -/
def LaidAt (L : Nat) (cs : Array Value) (j : Nat) (z : Value) (ok : Bool) (l : List UInt8) (w : World) (e : Ending) (w' : World) : Prop :=
  ∃ v', e = .returned (.tuple #[]) ∧ Blk w' L tLay (((cs.setIfInBounds 13 (.bool ok)).setIfInBounds 12 v').setIfInBounds j z) ∧ OwnB w.heap.size w' v' l ∧ w.grownBy w' (some L)

theorem laid_end {L j : Nat} {cs : Array Value} {z v : Value} {ok b : Bool} {l : List UInt8} {w w1 : World} (HL : Blk w L tLay cs) (hok : ok = b)
    (ho : OwnB (w.setCell ⟨L, 13, none⟩ (.bool b)).drew.heap.size w1 v l) (hg : (w.setCell ⟨L, 13, none⟩ (.bool b)).drew.grownBy w1 none) :
    LaidAt L cs j z ok l w (.returned (.tuple #[])) ((w1.setCell ⟨L, 12, none⟩ v).setCell ⟨L, j, none⟩ z) := by
  subst hok
  have b1 : Blk w1 L tLay (cs.setIfInBounds 13 (.bool ok)) := (HL.set 13 (.bool ok)).drew.grown hg (by simp)
  have b2 := b1.set 12 v
  have b3 := b2.set j z
  have o1 : OwnB w.heap.size w1 v l := ho.lower (by simp)
  have o2 := o1.kept (gb_set (gb_refl w1 (some L)) 12 v) (fun k hk => by cases hk; exact ⟨_, _, b1, by decide⟩)
  have o3 := o2.kept (gb_set (gb_refl _ (some L)) j z) (fun k hk => by cases hk; exact ⟨_, _, b2, by decide⟩)
  exact ⟨v, rfl, b3, o3, gb_set (gb_set (gb_trans (gb_drew (gb_set (gb_refl w (some L)) 13 _)) (gb_none hg)) 12 v) j z⟩

set_option maxHeartbeats 1000000 in
theorem number_c (L : Nat) (j : Nat) (cs : Array Value) (x : Int) (vb : Value) (lb : List UInt8) (ok : Bool) (w : World) (hL : Blk w L tLay cs) (hb : BS w vb lb) (hlb : lb.length ≤ 800000000)
    (h1 : cs[12]? = some vb) (h2 : cs[13]? = some (.bool ok)) (h3 : cs[j]? = some (.int .i64 x)) (hj : j < 12) :
    Calls Try.prog 63 #[.pointer (some ⟨L, 0, none⟩), .pointer (some ⟨L, j, none⟩)] w
      (LaidAt L cs j (.int .i64 0) (okNum ok x) (lb ++ be32 (x % 4294967296).toNat) w) := by
  have hlt := hL.lt
  have c1 := (hL.cell 12).trans h1
  have c2 := (hL.cell 13).trans h2
  have c3 := (hL.cell j).trans h3
  have f := hL.frozen
  have n1 : ¬ 13 = j := by omega
  have n2 : ¬ 12 = j := by omega
  have Hs := hide (And.intro h1 (And.intro h2 h3))
  clear h1 h2 h3
  have HL := hide hL
  clear hL
  have hx0 := Int.emod_nonneg x (b := 4294967296) (by omega)
  have hx1 := Int.emod_lt_of_pos x (b := 4294967296) (by omega)
  have cases4 : (ok = true ∧ 0 ≤ x ∧ x ≤ 4294967295) ∨ (ok = true ∧ 0 ≤ x ∧ ¬ x ≤ 4294967295) ∨ (ok = true ∧ ¬ 0 ≤ x) ∨ ok = false := by
    cases ok <;> simp <;> omega
  rcases cases4 with ⟨rfl, a, b⟩ | ⟨rfl, a, b⟩ | ⟨rfl, a⟩ | rfl
  all_goals
    go_enter Try.func63, Try.ntmps63
    go_wp2_with fail
    refine Reg.wp_reg [0, 0, 2, 6, 14, 0, 32, 96, 224, 510, 1023, 2047, 4095] [(0, .W), (1, .W), (2, .W), (3, .W), (4, .H), (5, .W), (6, .W), (7, .H), (8, .W), (9, .E false), (10, .W), (11, .W), (12, .E false)] (Reg.Old _) (by kernel_rfl) (by kernel_rfl) (fun _ => Reg.Old.drew (Reg.Old.refl _)) ?_
    repeat (first | (refine Reg.wpC_W rfl (fun K hK => ?_); go_simp; refine hK _ ?_; clear hK K) | (refine Reg.wpC_H2 rfl rfl (fun K hK => ?_); apply Exists.intro; refine ⟨fun w' hS => ?_, ?_⟩; (have hS2 := hS.2; clear hS; go_simp; first | done | rfl); go_simp; refine hK _ ?_; clear hK K) | (refine Reg.wpC_N rfl rfl (fun K hK => ?_); go_simp; refine hK _ ?_; clear hK K))
    refine Reg.wpC_E rfl (fun K hK => ?_)
    go_simp
    rw [IntKind.wrap_u32]
    refine (U32_c _ _ _ _ (BS.set hb HL.out (by decide) 13 _).drew (by omega) hx0 hx1).mono ?_
    rintro e w1 ⟨A1, n3, c4, rfl, ho1, hg1⟩
    simp only []
    refine hK _ _ (fun h => by cases h) ?_
    clear hK K
    obtain ⟨k1, k2⟩ := gb_cells hg1
    have k3 := hg1.size
    repeat (refine Reg.wpC_W rfl (fun K hK => ?_); go_simp; refine hK _ ?_; clear hK K)
    refine Reg.wpC_E rfl (fun K hK => ?_)
    go_simp
    refine hK _ _ (fun h => by cases h) ?_
    clear hK K
    refine Reg.wpC_nil ?_
    go_wp2_with fail
    go_end0
    exact laid_end HL.out (by first | (simp [okNum, *]; done) | (simp [okNum]; omega)) ho1 hg1

def okText (ok : Bool) (n : Nat) : Bool := ok && decide (n ≤ 64)

set_option maxHeartbeats 1000000 in
theorem text_c (L : Nat) (j : Nat) (cs : Array Value) (s : ByteArray) (vb : Value) (lb : List UInt8) (ok : Bool) (w : World) (hL : Blk w L tLay cs) (hb : BS w vb lb) (hlb : lb.length ≤ 800000000)
    (h1 : cs[12]? = some vb) (h2 : cs[13]? = some (.bool ok)) (h3 : cs[j]? = some (.string s)) (hj : j < 12) (hs : s.size ≤ 10000000) :
    Calls Try.prog 64 #[.pointer (some ⟨L, 0, none⟩), .pointer (some ⟨L, j, none⟩)] w
      (LaidAt L cs j (.string ⟨#[]⟩) (okText ok s.size) (lb ++ textB (sb s)) w) := by
  have hlt := hL.lt
  have c1 := (hL.cell 12).trans h1
  have c2 := (hL.cell 13).trans h2
  have c3 := (hL.cell j).trans h3
  have f := hL.frozen
  have n1 : ¬ 13 = j := by omega
  have n2 : ¬ 12 = j := by omega
  clear h1 h2 h3
  have HL := hide hL
  clear hL
  have kc := run_conv
  cases ok
  all_goals
    go_enter Try.func64, Try.ntmps64
    go_wp2_with fail
    refine Reg.wp_reg [0, 0, 2, 6, 14, 0, 32, 96, 224, 510, 1023, 2047, 4095] [(0, .W), (1, .W), (2, .W), (3, .W), (4, .H), (5, .W), (6, .W), (7, .H), (8, .E true), (9, .E false), (10, .W), (11, .W), (12, .E false)] (Reg.Old _) (by kernel_rfl) (by kernel_rfl) (fun _ => Reg.Old.drew (Reg.Old.refl _)) ?_
    repeat (first | (refine Reg.wpC_W rfl (fun K hK => ?_); go_simp; refine hK _ ?_; clear hK K) | (refine Reg.wpC_H2 rfl rfl (fun K hK => ?_); apply Exists.intro; refine ⟨fun w' hS => ?_, ?_⟩; (have hS2 := hS.2; clear hS; go_simp; first | done | rfl); go_simp; refine hK _ ?_; clear hK K) | (refine Reg.wpC_N rfl rfl (fun K hK => ?_); go_simp; refine hK _ ?_; clear hK K))
    refine Reg.wpC_E rfl (fun K hK => ?_)
    go_simp
    clear kc
    refine hK _ _ (fun _ => Reg.Old.grown (Reg.Old.drew (Reg.Old.refl _)) (convW_gb _ _)) ?_
    clear hK K
    refine Reg.wpC_E rfl (fun K hK => ?_)
    go_simp
    refine (Text_c _ _ _ _ _ ((BS.set hb HL.out (by decide) 13 _).drew.grown (convW_gb _ _)) (convW_bs' _ _ _ (by simp)) (by omega) (by rw [sb_length]; omega)).mono ?_
    rintro e w1 ⟨A1, n3, c4, rfl, ho1, hg1'⟩
    have hg1 := gb_trans (convW_gb _ _) hg1'
    have ho1' := ho1.lower (convW_gb _ _).size
    clear hg1' ho1
    simp only []
    refine hK _ _ (fun h => by cases h) ?_
    clear hK K
    obtain ⟨k1, k2⟩ := gb_cells hg1
    have k3 := hg1.size
    repeat (refine Reg.wpC_W rfl (fun K hK => ?_); go_simp; refine hK _ ?_; clear hK K)
    refine Reg.wpC_E rfl (fun K hK => ?_)
    go_simp
    refine hK _ _ (fun h => by cases h) ?_
    clear hK K
    refine Reg.wpC_nil ?_
    go_wp2_with fail
    go_end0
    exact laid_end HL.out (by first | (simp [okText]; done) | (simp [okText]; omega)) ho1' hg1

def okOff (ok : Bool) (x : Int) : Bool := ok && decide (0 ≤ x) && decide (x ≤ 4611686018427387904)

set_option maxHeartbeats 1000000 in
theorem off_c (L : Nat) (cs : Array Value) (x : Int) (vb : Value) (lb : List UInt8) (ok : Bool) (w : World) (hL : Blk w L tLay cs) (hb : BS w vb lb) (hlb : lb.length ≤ 800000000)
    (h1 : cs[12]? = some vb) (h2 : cs[13]? = some (.bool ok)) (h3 : cs[1]? = some (.int .i64 x)) :
    Calls Try.prog 53 #[.pointer (some ⟨L, 0, none⟩)] w
      (LaidAt L cs 1 (.int .i64 0) (okOff ok x) (lb ++ be64 (x % 18446744073709551616).toNat) w) := by
  have hlt := hL.lt
  have c1 := (hL.cell 12).trans h1
  have c2 := (hL.cell 13).trans h2
  have c3 := (hL.cell 1).trans h3
  have f := hL.frozen
  clear h1 h2 h3
  have HL := hide hL
  clear hL
  have hx0 := Int.emod_nonneg x (b := 18446744073709551616) (by omega)
  have hx1 := Int.emod_lt_of_pos x (b := 18446744073709551616) (by omega)
  have cases4 : (ok = true ∧ 0 ≤ x) ∨ (ok = true ∧ ¬ 0 ≤ x) ∨ ok = false := by
    cases ok <;> simp <;> omega
  rcases cases4 with ⟨rfl, a⟩ | ⟨rfl, a⟩ | rfl
  all_goals
    go_enter Try.func53, Try.ntmps53
    go_wp2_with fail
    refine Reg.wp_reg [0, 0, 2, 6, 14, 0, 32, 96, 224, 480, 992, 2046, 4095, 8191, 16383] [(0, .W), (1, .W), (2, .W), (3, .W), (4, .H), (5, .W), (6, .W), (7, .W), (8, .W), (9, .H), (10, .W), (11, .E false), (12, .W), (13, .W), (14, .E false)] (Reg.Old _) (by kernel_rfl) (by kernel_rfl) (fun _ => Reg.Old.drew (Reg.Old.refl _)) ?_
    repeat (first | (refine Reg.wpC_W rfl (fun K hK => ?_); go_simp; refine hK _ ?_; clear hK K) | (refine Reg.wpC_H2 rfl rfl (fun K hK => ?_); apply Exists.intro; refine ⟨fun w' hS => ?_, ?_⟩; (have hS2 := hS.2; clear hS; go_simp; first | done | rfl); go_simp; refine hK _ ?_; clear hK K) | (refine Reg.wpC_N rfl rfl (fun K hK => ?_); go_simp; refine hK _ ?_; clear hK K))
    refine Reg.wpC_E rfl (fun K hK => ?_)
    go_simp
    try rw [IntKind.wrap_u64]
    refine (U64_c _ _ _ _ (BS.set hb HL.out (by decide) 13 _).drew (by omega) hx0 hx1).mono ?_
    rintro e w1 ⟨A1, n3, c4, rfl, ho1, hg1⟩
    simp only []
    refine hK _ _ (fun h => by cases h) ?_
    clear hK K
    obtain ⟨k1, k2⟩ := gb_cells hg1
    have k3 := hg1.size
    repeat (refine Reg.wpC_W rfl (fun K hK => ?_); go_simp; refine hK _ ?_; clear hK K)
    refine Reg.wpC_E rfl (fun K hK => ?_)
    go_simp
    refine hK _ _ (fun h => by cases h) ?_
    clear hK K
    refine Reg.wpC_nil ?_
    go_wp2_with fail
    go_end0
    exact laid_end HL.out (by first | (simp [okOff, *]; done) | (simp [okOff]; omega)) ho1 hg1

def okData (ok : Bool) (n : Nat) : Bool := ok && decide (n ≤ 2048)

set_option maxHeartbeats 1000000 in
theorem data_c (L : Nat) (cs : Array Value) (A : Option Addr) (n c : Nat) (ld : List UInt8) (vb : Value) (lb : List UInt8) (ok : Bool) (w : World) (hL : Blk w L tLay cs) (hb : BS w vb lb) (hlb : lb.length ≤ 800000000)
    (h1 : cs[12]? = some vb) (h2 : cs[13]? = some (.bool ok)) (h3 : cs[11]? = some (.slice A n c)) (hd : BS w (.slice A n c) ld) (hn : n ≤ 10000000) :
    Calls Try.prog 57 #[.pointer (some ⟨L, 0, none⟩)] w
      (LaidAt L cs 11 (.slice none 0 0) (okData ok n) (lb ++ textB ld) w) := by
  have hlt := hL.lt
  have c1 := (hL.cell 12).trans h1
  have c2 := (hL.cell 13).trans h2
  have c3 := (hL.cell 11).trans h3
  have f := hL.frozen
  clear h1 h2 h3
  have HL := hide hL
  clear hL
  have hld : ld.length ≤ 10000000 := by have := hd.cells.1; omega
  cases ok
  all_goals
    go_enter Try.func57, Try.ntmps57
    go_wp2_with fail
    refine Reg.wp_reg [0, 0, 2, 6, 14, 0, 32, 96, 224, 480, 1022, 2047, 4095, 8191] [(0, .W), (1, .W), (2, .W), (3, .W), (4, .H), (5, .W), (6, .W), (7, .W), (8, .W), (9, .H), (10, .E false), (11, .W), (12, .W), (13, .E false)] (Reg.Old _) (by kernel_rfl) (by kernel_rfl) (fun _ => Reg.Old.drew (Reg.Old.refl _)) ?_
    repeat (first | (refine Reg.wpC_W rfl (fun K hK => ?_); go_simp; refine hK _ ?_; clear hK K) | (refine Reg.wpC_H2 rfl rfl (fun K hK => ?_); apply Exists.intro; refine ⟨fun w' hS => ?_, ?_⟩; (have hS2 := hS.2; clear hS; go_simp; first | done | rfl); go_simp; refine hK _ ?_; clear hK K) | (refine Reg.wpC_N rfl rfl (fun K hK => ?_); go_simp; refine hK _ ?_; clear hK K))
    refine Reg.wpC_E rfl (fun K hK => ?_)
    go_simp
    refine (Text_c _ _ _ _ _ (BS.set hb HL.out (by decide) 13 _).drew (BS.set hd HL.out (by decide) 13 _).drew (by omega) hld).mono ?_
    rintro e w1 ⟨A1, n3, c4, rfl, ho1, hg1⟩
    simp only []
    refine hK _ _ (fun h => by cases h) ?_
    clear hK K
    obtain ⟨k1, k2⟩ := gb_cells hg1
    have k3 := hg1.size
    repeat (refine Reg.wpC_W rfl (fun K hK => ?_); go_simp; refine hK _ ?_; clear hK K)
    refine Reg.wpC_E rfl (fun K hK => ?_)
    go_simp
    refine hK _ _ (fun h => by cases h) ?_
    clear hK K
    refine Reg.wpC_nil ?_
    go_wp2_with fail
    go_end0
    exact laid_end HL.out (by first | (simp [okData]; done) | (simp [okData]; omega)) ho1 hg1
end Go.Tr
