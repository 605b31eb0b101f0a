/- The document's Bytes. No condition. -/
import Derived.Test.YtblbihodpjfcbaaRefB
import Derived.Test.YtblbihodpjfcbaaCread2
namespace Go.Tr
open Go.RowKit Go.Proofs
set_option linter.unusedVariables false
def AA.refB (a : AA) : List UInt8 := (fieldsOf a.proc).flatMap a.bytesF
theorem flatMap_le {w : World} {a : AA} (ha : a.ok w) : ∀ row : List Nat, (row.flatMap a.bytesF).length ≤ row.length * 10000008
  | [] => by simp
  | f :: row => by
    have h1 := flatMap_le ha row
    have h2 := AA.bytesF_length ha f
    simp only [List.flatMap_cons, List.length_append, List.length_cons]
    omega
set_option maxHeartbeats 2000000 in
theorem Bytes_c (a : AA) (w : World) (ha : a.ok w) : Calls Try.prog 13 #[a.val] w (RetB w a.refB) := by
  have hrl := fieldsOf_len a.proc
  have hrlt := fieldsOf_lt a.proc
  unfold AA.val
  have hb0 : Blk (w.alloc (.cells a.cells.toArray tArgs)) w.heap.size tArgs a.cells.toArray := Blk.new w tArgs _
  have hcellsEq : a.cells.toArray = #[.int .i64 a.proc, .int .i64 a.off, .int .i64 a.count, .int .i64 a.size, .int .i64 a.mode, .int .i64 a.hi, .int .i64 a.hg, .int .i64 a.ji, .int .i64 a.jg, .string a.name, .string a.name2, a.data] := rfl
  have Hb0 := hide hb0
  have HC := hide hcellsEq
  clear hb0 hcellsEq
  unfold AA.cells
  go_enter Try.func13, Try.ntmps13
  go_wp2_with fail
  refine (Fields_c a.proc _).mono ?_
  rintro e w1 ⟨rfl, hg1⟩
  have hls := letS_size a.proc
  have hsi : ∀ (k x : Nat), (fieldsOf a.proc)[k]? = some x → (letS a.proc).data[k]? = some (letterOf x) := by
    intro k x h
    show ((fieldsOf a.proc).map letterOf).toArray[k]? = _
    simp [h]
  generalize letS a.proc = s at *
  obtain ⟨row, hrow⟩ : ∃ row, row = fieldsOf a.proc := ⟨_, rfl⟩
  rw [← hrow] at hrl hrlt hls hsi
  have Hrow := hide hrow
  clear hrow
  have hb1 := Hb0.out.grown hg1 (by simp)
  have g1 : w.grownBy w1 none := gb_trans (gb_alloc (gb_refl _ _) _) hg1
  have Ha := hide ha
  have Hsi := hide hsi
  have Hls := hide hls
  have Hrlt := hide hrlt
  clear hg1 ha hsi hls hrlt
  generalize hB0 : w.heap.size = B at *
  go_wp2_with fail
  go_loopw [4, 5] (fun v i wr => ∃ (k : Nat) (A : Option Addr) (n c : Nat), k ≤ row.length ∧ i = .int .i64 k ∧ v = .slice A n c ∧ OwnB B wr (.slice A n c) ((row.take k).flatMap a.bytesF) ∧ Blk wr B tArgs a.cells.toArray ∧ w.grownBy wr none) (fun _ i _ => row.length - (intOf i).toNat)
  case atStart => exact ⟨0, none, 0, 0, Nat.zero_le _, rfl, rfl, by simpa using OwnB.nil _ _, hb1, g1⟩
  case round =>
    clear hb1 g1
    obtain ⟨k, A3, n3, cc3, hk, rfl, rfl, ho3, hb3, hg3⟩ := hrel
    have ha3 := Ha.out.grown hg3
    have hls := Hls.out
    by_cases hlt : k < row.length
    · have hlts : k < s.size := by omega
      have hidx := Hsi.out k row[k] (List.getElem?_eq_getElem hlt)
      have hst : (row.take (k + 1)).flatMap a.bytesF = (row.take k).flatMap a.bytesF ++ a.bytesF row[k] := by
        rw [List.take_succ_eq_append_getElem hlt, List.flatMap_append]
        simp
      have hf9 : row[k] < 9 := Hrlt.out _ (List.getElem_mem hlt)
      generalize row[k] = f at *
      have hlet : (s[k]'hlts).toNat = (letterOf f).toNat := by
        have h1 : s.data[k]? = some (s[k]'hlts) := Array.getElem?_eq_getElem hlts
        rw [hidx] at h1
        injection h1 with h1
        rw [← h1]
      have hB := hb3.lt
      obtain ⟨c0, c1, c2, c3, c4, c5, c6, c7, c8, c9, c10, c11⟩ := Blk.args (a := a) (u := a.data) hb3
      have hlen1 := flatMap_le ha3 (row.take k)
      have hlen2 : (row.take k).length ≤ 4 := by rw [List.length_take]; omega
      have hlen3 := AA.bytesF_length ha3 f
      have Hst := hide hst
      have Hb3 := hide hb3
      have Ho3 := hide ho3
      have Ha3 := hide ha3
      clear hidx hst hb3 ho3 ha3 hls
      go_wp2_with fail
      refine Reg.wp_reg [0, 0, 0, 0, 12, 30, 63, 127] [(0, .W), (1, .H), (2, .W), (3, .W), (4, .W), (5, .E false), (6, .E false), (7, .W)] (Reg.Old _) (by kernel_rfl) (by kernel_rfl) (fun _ => Reg.Old.drew (Reg.Old.refl _)) ?_
      repeat (first | (refine Reg.wpC_W rfl (fun K hK => ?_); go_simp; refine hK _ ?_; clear hK K) | (refine Reg.wpC_H2 rfl rfl (fun K hK => ?_); apply Exists.intro; refine ⟨fun w' hS => ?_, ?_⟩; (have hS2 := hS.2; clear hS; go_simp; first | done | rfl); go_simp; refine hK _ ?_; clear hK K) | (refine Reg.wpC_N rfl rfl (fun K hK => ?_); go_simp; refine hK _ ?_; clear hK K))
      refine Reg.wpC_E rfl (fun K hK => ?_)
      go_simp
      refine (field_w f hf9 a _ (Ha3.out.grown (gb_drew (gb_refl _ _)))).mono ?_
      rintro e w4 ⟨A4, n4, c4, rfl, ho4, hg4⟩
      simp only []
      have o1 := (Reg.Old.drew (Reg.Old.refl _)).grown hg4
      refine hK _ _ (fun _ => o1) ?_
      clear hK K
      repeat (first | (refine Reg.wpC_W rfl (fun K hK => ?_); go_simp; refine hK _ ?_; clear hK K) | (refine Reg.wpC_H2 rfl rfl (fun K hK => ?_); apply Exists.intro; refine ⟨fun w' hS => ?_, ?_⟩; (have hS2 := hS.2; clear hS; go_simp; first | done | rfl); go_simp; refine hK _ ?_; clear hK K) | (refine Reg.wpC_N rfl rfl (fun K hK => ?_); go_simp; refine hK _ ?_; clear hK K))
      have ho5 : OwnB B w4 _ _ := OwnB.grown (w := World.drew _) Ho3.out hg4
      refine Reg.wpC_E rfl (fun K hK => ?_)
      refine if_wanted rfl ?_
      refine app_wp _ _ rfl _ _ _ _ _ rfl rfl ho5 ho4.bs (by rw [List.length_append]; omega) (Nat.le_trans (Nat.le_of_lt hB) hg4.size) ?_
      intro A5 n5 c5 w5 ho6 hg6
      refine hK _ _ (fun h => by cases h) ?_
      clear hK K
      repeat (refine Reg.wpC_W rfl (fun K hK => ?_); go_simp; refine hK _ ?_; clear hK K)
      refine Reg.wpC_nil ?_
      have g4 : w.grownBy w4 none := gb_trans (gb_drew hg3) hg4
      have g5 : w.grownBy w5 none := gb_new' ho5 (Nat.le_of_eq hB0) g4 hg6
      have hb5 : Blk w4 B tArgs a.cells.toArray := Blk.grown (w := World.drew _) Hb3.out hg4 (by simp)
      have hk6 : ∀ k, (Value.slice A3 n3 cc3).ownBlock = some k → ∃ t cs, Blk w4 k t cs ∧ t = tU8 := fun k hk => by
        obtain ⟨_, h2⟩ := World.ownsRow.lt ho5 k hk
        rcases ho5.2 with ⟨hh, _⟩ | ⟨g, cap, cur, hh, _, hbk, _⟩
        · rw [hh] at hk
          cases hk
        · rw [hh] at hk
          cases hk
          exact ⟨_, _, hbk, rfl⟩
      have hb6 : Blk w5 B tArgs a.cells.toArray := hb5.grown hg6 fun h => by
        obtain ⟨t, cs, h1, h2⟩ := hk6 B h.symm
        exact Blk.ne hb5 h1 (by rw [h2]; decide) rfl
      go_wp2_with fail
      go_roundw
      case rel => exact ⟨k + 1, A5, n5, c5, by omega, by go_num, rfl, by rw [Hst.out]; exact ho6, hb6, g5⟩
      case measure => simp [intOf]; omega
    · obtain rfl : k = row.length := by omega
      have hks : ¬ row.length < s.size := by omega
      rw [List.take_length] at ho3
      clear hb3 ha3
      go_wp2_with fail
      go_ret
      refine RetB.mk (b := B) ?_ (Nat.le_of_eq hB0) hg3
      unfold AA.refB
      rw [← Hrow.out]
      exact ho3
end Go.Tr
