/- calls: the bytes of what a procedure is asked with, and whether that may be. No condition. -/
import Derived.Test.YtblbihodpjfcbaaCalls
import Derived.Test.YtblbihodpjfcbaaEq
namespace Go.Tr
open Go.RowKit Go.Proofs
set_option linter.unusedVariables false

def wayKV (L : Nat) : List (Int × Value) := (List.range 9).map fun (f : Nat) => ((f : Int), Value.func (.func (wayFn f)) #[.pointer (some ⟨L, 0, none⟩)] #[])
theorem wayKV_eq (L : Nat) : wayKV L = [(0, Value.func (.func (wayFn 0)) #[.pointer (some ⟨L, 0, none⟩)] #[])] ++ [(1, Value.func (.func (wayFn 1)) #[.pointer (some ⟨L, 0, none⟩)] #[])] ++ [(2, Value.func (.func (wayFn 2)) #[.pointer (some ⟨L, 0, none⟩)] #[])] ++
  [(3, Value.func (.func (wayFn 3)) #[.pointer (some ⟨L, 0, none⟩)] #[])] ++ [(4, Value.func (.func (wayFn 4)) #[.pointer (some ⟨L, 0, none⟩)] #[])] ++ [(5, Value.func (.func (wayFn 5)) #[.pointer (some ⟨L, 0, none⟩)] #[])] ++ [(6, Value.func (.func (wayFn 6)) #[.pointer (some ⟨L, 0, none⟩)] #[])] ++
  [(7, Value.func (.func (wayFn 7)) #[.pointer (some ⟨L, 0, none⟩)] #[])] ++ [(8, Value.func (.func (wayFn 8)) #[.pointer (some ⟨L, 0, none⟩)] #[])] := rfl

def WaysR (L : Nat) (w : World) (e : Ending) (w' : World) : Prop := ∃ M, e = .returned (.map (some M)) ∧ IMG w w' M (wayKV L)

set_option maxHeartbeats 1000000 in
theorem ways_c (L : Nat) (w : World) : Calls Try.prog 34 #[.pointer (some ⟨L, 0, none⟩)] w (WaysR L w) := by
  have hmm := @run_makeMap Try.prog
  have hmf : ∀ (fn : Fn) (first cap : Array Value) (w : World), (Instr.makeFunc fn first cap).run Try.prog w = .ok (.func fn first cap) w := fun _ _ _ _ => rfl
  have hI := IMG.made w
  go_enter Try.func34, Try.ntmps34
  go_wp2_with (refine wp_insert_new rfl rfl _ _ _ rfl Try.underlying73 Try.underlying54 (by assumption) _ _ rfl rfl rfl (by simp) ?_; intro w1 hI1)
  go_ret
  refine ⟨w.heap.size, rfl, ?_⟩
  rw [wayKV_eq]
  assumption


def AA.ints (a : AA) : List Int := [a.proc, a.off, a.count, a.size, a.mode, a.hi, a.hg, a.ji, a.jg]
def AA.nums (a : AA) : Value := .agg (a.ints.map (Value.int .i64)).toArray

set_option maxHeartbeats 1000000 in
theorem numbers_c (a : AA) (w : World) : Calls Try.prog 32 #[a.val] w fun e w' => e = .returned a.nums ∧ w.grownBy w' none := by
  unfold AA.val AA.nums AA.cells
  go_enter Try.func32, Try.ntmps32
  go_wp2
  refine bodyPost_ret (v := .agg #[.int .i64 a.proc, .int .i64 a.off, .int .i64 a.count, .int .i64 a.size, .int .i64 a.mode, .int .i64 a.hi, .int .i64 a.hg, .int .i64 a.ji, .int .i64 a.jg]) (by simp [results, Try.results32, go_sem]) rfl ⟨rfl, ?_⟩
  exact gb_alloc (gb_alloc (gb_refl _ _) _) _

theorem run_eqnums (a b : AA) (w : World) : (binOp .eql 67 a.nums b.nums).run Try.prog w = .ok (.bool (a.ints == b.ints)) w := by
  unfold AA.nums
  rw [run_eql_struct]
  rw [run_eqarr (n := 9) (e := 3) Try.underlying67 Try.underlying3 (fun _ => by kernel_rfl) (fun _ => by kernel_rfl) a.ints b.ints rfl rfl 9998 w]
  rfl

theorem run_guardnums (a b : AA) (x y : Operand) (w : World) : (eqGuard .eql 67 x y a.nums b.nums).run Try.prog w = .ok () w := by kernel_rfl

def sameA (a b : AA) : Bool := a.ints == b.ints && a.name == b.name && a.name2 == b.name2 && a.dl == b.dl

set_option maxHeartbeats 1000000 in
theorem same_c (a b : AA) (w : World) (ha : BS w a.data a.dl) (hb : BS w b.data b.dl) : Calls Try.prog 19 #[a.val, b.val] w fun e w' => e = .returned (.bool (sameA a b)) ∧ w.grownBy w' none := by
  have hn := run_eqnums a b
  have hgd := run_guardnums a b
  unfold AA.val AA.cells
  have fin : ∀ {w1 w2 : World} {o1 o2 : Obj}, ((w.alloc o1).alloc o2).drew.grownBy w1 none → w1.grownBy w2 none → w.grownBy w2 none := fun g1 g2 =>
    gb_trans (gb_trans (gb_drew (gb_alloc (gb_alloc (gb_refl w none) _) _)) g1) g2
  have sm : ∀ s1 s2 : ByteArray, (s1.toList == s2.toList) = (s1 == s2) := fun s1 s2 => (beq_toListBytes s1 s2).symm
  have hcase : ((a.ints == b.ints) = false ∧ sameA a b = false) ∨ ((a.ints == b.ints) = true ∧ (a.name.toList == b.name.toList) = false ∧ sameA a b = false) ∨
      ((a.ints == b.ints) = true ∧ (a.name.toList == b.name.toList) = true ∧ (a.name2.toList == b.name2.toList) = false ∧ sameA a b = false) ∨
      ((a.ints == b.ints) = true ∧ (a.name.toList == b.name.toList) = true ∧ (a.name2.toList == b.name2.toList) = true ∧ sameA a b = (a.dl == b.dl)) := by
    rw [sm, sm]
    unfold sameA
    cases a.ints == b.ints <;> cases a.name == b.name <;> cases a.name2 == b.name2 <;> simp
  clear sm
  rcases hcase with ⟨h1, hs⟩ | ⟨h1, h2, hs⟩ | ⟨h1, h2, h3, hs⟩ | ⟨h1, h2, h3, hs⟩
  case inr.inr.inr =>
    rw [hs]
    rw [h1] at hn
    clear h1 hs
    go_enter Try.func19, Try.ntmps19
    go_wp2_with fail
    refine Reg.wp_reg [0, 1, 0, 7, 15, 31, 63, 127, 63, 319, 1023, 2047, 4095, 8191, 16383, 8191, 40959, 131071, 262143, 524287, 1048575, 2097151, 1048575, 5242879, 16777215, 33554431, 67108863] [(0, .H), (1, .E true), (2, .H), (3, .E true), (4, .W), (5, .W), (6, .W), (7, .H), (8, .W), (9, .H), (10, .W), (11, .W), (12, .W), (13, .W), (14, .H), (15, .W), (16, .H), (17, .W), (18, .W), (19, .W), (20, .W), (21, .H), (22, .W), (23, .H), (24, .E false), (25, .W), (26, .W)] (Reg.Old _) (by kernel_rfl) (by kernel_rfl) (fun _ => Reg.Old.drew (Reg.Old.refl _)) ?_
    repeat (first | (refine Reg.wpC_W rfl (fun K hK => ?_); go_simp; refine hK _ ?_; clear hK K) | (refine Reg.wpC_H2 rfl rfl (fun K hK => ?_); apply Exists.intro; refine ⟨fun w' hS => ?_, ?_⟩; (have hS2 := hS.2; clear hS; go_simp; first | done | rfl); go_simp; refine hK _ ?_; clear hK K) | (refine Reg.wpC_N rfl rfl (fun K hK => ?_); go_simp; refine hK _ ?_; clear hK K))
    refine Reg.wpC_E rfl (fun K hK => ?_)
    go_simp
    refine (numbers_c a _).mono ?_
    rintro e w1 ⟨rfl, hg1⟩
    simp only []
    have o1 := (Reg.Old.drew (Reg.Old.refl _)).grown hg1
    refine hK _ _ (fun _ => o1) ?_
    clear hK K
    repeat (first | (refine Reg.wpC_W rfl (fun K hK => ?_); go_simp; refine hK _ ?_; clear hK K) | (refine Reg.wpC_H2 rfl rfl (fun K hK => ?_); apply Exists.intro; refine ⟨fun w' hS => ?_, ?_⟩; (have hS2 := hS.2; clear hS; go_simp; first | done | rfl); go_simp; refine hK _ ?_; clear hK K) | (refine Reg.wpC_N rfl rfl (fun K hK => ?_); go_simp; refine hK _ ?_; clear hK K))
    refine Reg.wpC_E rfl (fun K hK => ?_)
    go_simp
    refine (numbers_c b _).mono ?_
    rintro e w2 ⟨rfl, hg2⟩
    simp only []
    have o2 := o1.grown hg2
    refine hK _ _ (fun _ => o2) ?_
    clear hK K
    repeat (first | (refine Reg.wpC_W rfl (fun K hK => ?_); go_simp; refine hK _ ?_; clear hK K) | (refine Reg.wpC_H2 rfl rfl (fun K hK => ?_); apply Exists.intro; refine ⟨fun w' hS => ?_, ?_⟩; (have hS2 := hS.2; clear hS; go_simp; first | done | rfl); go_simp; refine hK _ ?_; clear hK K) | (refine Reg.wpC_N rfl rfl (fun K hK => ?_); go_simp; refine hK _ ?_; clear hK K))
    refine Reg.wpC_E rfl (fun K hK => ?_)
    go_simp
    have hb1 : ∀ {o1 o2 : Obj} {v : Value} {l : List UInt8} {w1 w2 : World}, BS w v l → ((w.alloc o1).alloc o2).drew.grownBy w1 none → w1.grownBy w2 none → BS w2 v l := fun h g1 g2 => ((((h.alloc _).alloc _).drew).grown g1).grown g2
    refine (equal_c _ _ _ _ _ (hb1 ha hg1 hg2) (hb1 hb hg1 hg2)).mono ?_
    rintro e w3 ⟨rfl, rfl⟩
    simp only []
    refine hK _ _ (fun h => by cases h) ?_
    clear hK K
    repeat (refine Reg.wpC_W rfl (fun K hK => ?_); go_simp; refine hK _ ?_; clear hK K)
    refine Reg.wpC_nil ?_
    go_wp2_with fail
    go_ret
    exact ⟨rfl, fin hg1 hg2⟩
  all_goals
    rw [hs]
    rw [h1] at hn
    clear h1 hs
    go_enter Try.func19, Try.ntmps19
    go_wp2_with fail
    refine Reg.wp_reg [0, 1, 0, 7, 15, 31, 63, 127, 63, 319, 1023, 2047, 4095, 8191, 16383, 8191, 40959, 131071, 262143, 524287, 1048575, 2097151, 1048575, 5242879, 16777215, 33554431, 67108863] [(0, .H), (1, .E true), (2, .H), (3, .E true), (4, .W), (5, .W), (6, .W), (7, .H), (8, .W), (9, .H), (10, .W), (11, .W), (12, .W), (13, .W), (14, .H), (15, .W), (16, .H), (17, .W), (18, .W), (19, .W), (20, .W), (21, .H), (22, .W), (23, .H), (24, .E false), (25, .W), (26, .W)] (Reg.Old _) (by kernel_rfl) (by kernel_rfl) (fun _ => Reg.Old.drew (Reg.Old.refl _)) ?_
    repeat (first | (refine Reg.wpC_W rfl (fun K hK => ?_); go_simp; refine hK _ ?_; clear hK K) | (refine Reg.wpC_H2 rfl rfl (fun K hK => ?_); apply Exists.intro; refine ⟨fun w' hS => ?_, ?_⟩; (have hS2 := hS.2; clear hS; go_simp; first | done | rfl); go_simp; refine hK _ ?_; clear hK K) | (refine Reg.wpC_N rfl rfl (fun K hK => ?_); go_simp; refine hK _ ?_; clear hK K))
    refine Reg.wpC_E rfl (fun K hK => ?_)
    go_simp
    refine (numbers_c a _).mono ?_
    rintro e w1 ⟨rfl, hg1⟩
    simp only []
    have o1 := (Reg.Old.drew (Reg.Old.refl _)).grown hg1
    refine hK _ _ (fun _ => o1) ?_
    clear hK K
    repeat (first | (refine Reg.wpC_W rfl (fun K hK => ?_); go_simp; refine hK _ ?_; clear hK K) | (refine Reg.wpC_H2 rfl rfl (fun K hK => ?_); apply Exists.intro; refine ⟨fun w' hS => ?_, ?_⟩; (have hS2 := hS.2; clear hS; go_simp; first | done | rfl); go_simp; refine hK _ ?_; clear hK K) | (refine Reg.wpC_N rfl rfl (fun K hK => ?_); go_simp; refine hK _ ?_; clear hK K))
    refine Reg.wpC_E rfl (fun K hK => ?_)
    go_simp
    refine (numbers_c b _).mono ?_
    rintro e w2 ⟨rfl, hg2⟩
    simp only []
    have o2 := o1.grown hg2
    refine hK _ _ (fun _ => o2) ?_
    clear hK K
    repeat (first | (refine Reg.wpC_W rfl (fun K hK => ?_); go_simp; refine hK _ ?_; clear hK K) | (refine Reg.wpC_H2 rfl rfl (fun K hK => ?_); apply Exists.intro; refine ⟨fun w' hS => ?_, ?_⟩; (have hS2 := hS.2; clear hS; go_simp; first | done | rfl); go_simp; refine hK _ ?_; clear hK K) | (refine Reg.wpC_N rfl rfl (fun K hK => ?_); go_simp; refine hK _ ?_; clear hK K))
    refine Reg.wpC_E rfl (fun K hK => ?_)
    go_simp
    refine hK _ _ (fun h => by cases h) ?_
    clear hK K
    repeat (refine Reg.wpC_W rfl (fun K hK => ?_); go_simp; refine hK _ ?_; clear hK K)
    refine Reg.wpC_nil ?_
    go_wp2_with fail
    go_ret
    exact ⟨rfl, fin hg1 hg2⟩
end Go.Tr
