/- The walk of CallsCuts. No condition. -/
import Derived.Test.YtblbihodpjfcbaaC3
import Derived.Test.YtblbihodpjfcbaaArgs
namespace Go.Tr
open Go.RowKit Go.Proofs
set_option linter.unusedVariables false
theorem two {α : Type} {p : α → Prop} {x y : α} (h1 : p x) (h2 : p y) : ∀ L ∈ [x, y], p L := by
  intro L hL
  simp only [List.mem_cons, List.not_mem_nil, or_false] at hL
  rcases hL with rfl | rfl
  · exact h1
  · exact h2
structure CutI (w : World) (T : Nat) (cs : Array Value) (v : Value) (b : List UInt8) (wr : World) : Prop where
  g : w.grownBy wr none
  bT : Blk wr T tArgs cs
  bs : BS wr v b
theorem CutI.grown {w : World} {T : Nat} {cs : Array Value} {v : Value} {b : List UInt8} {wr w' : World} (h : CutI w T cs v b wr) (hg : wr.grownBy w' none) : CutI w T cs v b w' :=
  ⟨gb_trans h.g hg, h.bT.grown hg (by simp), h.bs.grown hg⟩
theorem CutI.setX {w : World} {T X : Nat} {cs cx : Array Value} {v : Value} {b : List UInt8} {wr w' : World} (h : CutI w T cs v b wr) (hx : Blk wr X tArgs cx) (hX : w.heap.size ≤ X) (hT : T < X) (hg : wr.grownBy w' (some X)) : CutI w T cs v b w' :=
  ⟨gb_new h.g hg hX, h.bT.grown hg (by simp; omega), h.bs.kept hg (fun k hk => by cases hk; exact ⟨_, _, hx, by decide⟩)⟩
def CutJ (w : World) (T : Nat) (cs : Array Value) (v : Value) (b : List UInt8) (x e : Value) (wx : World) : Prop := ∃ X, x = .pointer (some ⟨X, 0, none⟩) ∧ e = .int .i64 3 ∧ Blk wx X tArgs (zeroA 0).cells.toArray ∧ CutI w T cs v b wx
set_option maxHeartbeats 4000000 in
theorem cuts_c (a : AA) (u : Value) (w : World) (ha : Raw w a u) : Calls Try.prog 7 #[(a.at u).val] w fun e w' => e = .returned (.bool true) ∧ w.grownBy w' none := by
  have ha1 := ha.grown (gb_alloc (gb_refl w none) (.cells (a.at u).cells.toArray tArgs))
  obtain ⟨B0, hB0, hu⟩ := ha.d
  obtain ⟨Au, cu, hue, _⟩ := id hu
  subst hue
  have HA := hide ha1
  have F := good_facts a
  obtain ⟨g, hgd⟩ : ∃ g, goodA a = g := ⟨_, rfl⟩
  clear ha ha1 hu
  simp only [AA.at, AA.val, AA.cells]
  go_enter Try.func7, Try.ntmps7
  go_wp2_with fail
  refine (good_c a (.slice Au a.dl.length cu) _ HA.out).mono ?_
  rintro e w1 ⟨u1, rfl, hb1, hg1⟩
  have F1 := F u1
  have f3 := F1.cut
  have f5 := F1.le
  have f6 := F1.n1
  have f7 := F1.n2
  have f8 := F1.dl
  rw [hgd] at f3 f5 f6 f7 f8 hb1 ⊢
  clear F F1 HA
  obtain ⟨A1, c1, hue, _⟩ := id hb1
  subst hue
  have g1 := gb_trans (gb_alloc (gb_refl w none) _) hg1
  have hok : (g.at (.slice A1 g.dl.length c1)).ok (w1.alloc (.cells (g.at (.slice A1 g.dl.length c1)).cells.toArray tArgs)) := ⟨by show g.name.size ≤ _; omega, by show g.name2.size ≤ _; omega, hb1.alloc _, by show g.dl.length ≤ _; omega⟩
  have Hok := hide hok
  have bT : Blk (w1.alloc (.cells (g.at (.slice A1 g.dl.length c1)).cells.toArray tArgs)) w1.heap.size tArgs (g.at (.slice A1 g.dl.length c1)).cells.toArray := Blk.new _ _ _
  have g2 := gb_alloc g1 (.cells (g.at (.slice A1 g.dl.length c1)).cells.toArray tArgs)
  have HT := hide (And.intro g2 bT)
  have Hf := hide f3
  have hg1s : w.heap.size ≤ w1.heap.size := g1.size
  clear hb1 hok f3 hg1 bT g2 g1
  simp only [AA.at, AA.val, AA.cells]
  go_wp2_with fail
  refine (Bytes_c (g.at (.slice A1 g.dl.length c1)) _ Hok.out).mono ?_
  rintro e w2 ⟨A2, n2, c2, rfl, ho2, hg2⟩
  obtain ⟨b, hb⟩ : ∃ b, b = (g.at (.slice A1 g.dl.length c1)).refB := ⟨_, rfl⟩
  have hcut : ∀ k, k < b.length → readP g.proc (b.take k) = .error 3 := by rw [hb]; exact Hf.out
  rw [← hb] at ho2 f5
  obtain rfl := ho2.len
  have hcap : b.length ≤ c2 := ho2.bs.cells.2.1
  have I0 := hide (CutI.mk (gb_trans HT.out.1 hg2) (HT.out.2.grown hg2 (by simp)) ho2.bs)
  have hwT : w.heap.size ≤ w1.heap.size := hg1s
  have Hcut := hide hcut
  clear hb hcut Hf Hok HT ho2 hg2
  generalize w1.heap.size = T at *
  go_wp2_with fail
  go_loopw [5] (fun i wr => ∃ k : Nat, k ≤ b.length ∧ i = .int .i64 k ∧ CutI w T (g.at (.slice A1 g.dl.length c1)).cells.toArray (.slice A2 b.length c2) b wr) (fun i _ => b.length - (intOf i).toNat)
  case atStart => exact ⟨0, Nat.zero_le _, rfl, I0.out⟩
  case round =>
    obtain ⟨k, hk, rfl, I⟩ := hrel
    clear I0
    have lT := I.bT.lt
    obtain ⟨t0, t1, t2, t3, t4, t5, t6, t7, t8, t9, t10, t11⟩ := Blk.args I.bT
    have HI := hide I
    clear I
    by_cases hlt : k < b.length
    · have hkc : k ≤ c2 := by omega
      have hc := Hcut.out k hlt
      have htl : (b.take k).length = k := by rw [List.length_take]; omega
      have hread : ∀ wz, BS wz (.slice A2 b.length c2) b → Calls Try.prog 15 #[.int .i64 g.proc, .slice A2 k c2] wz fun e w' => e = .returned (.tuple #[(zeroA 0).val, .int .i64 3]) ∧ wz.grownBy w' none := fun wz hbs => by
        refine (cReadAll_c g.proc _ (b.take k) wz (hbs.take (by omega)) (by omega)).mono fun e w' h => ?_
        obtain ⟨hg, h⟩ := h
        rw [hc] at h
        exact ⟨h.2, hg⟩
      have HR := hide hread
      clear hread htl hc
      go_upto_region 6 with fail
      go_cut [6, 7] from 12 to 34 (fun x e wx => CutJ w T (g.at (.slice A1 g.dl.length c1)).cells.toArray (.slice A2 b.length c2) b x e wx)
      case first =>
        refine Reg.wp_reg2 [0, 1, 0, 0, 12, 31, 63, 127, 127, 0, 767, 2047] [(0, .W), (1, .H), (2, .W), (3, .W), (4, .W), (5, .E false), (6, .W), (7, .W), (8, .W), (9, .E true), (10, .E false), (11, .W)] [[(9, .E true), (0, .W), (1, .H), (2, .W), (3, .W), (4, .W), (5, .E false), (6, .W), (7, .W), (8, .W), (10, .E false), (11, .W)]] (Reg.Old _) (by kernel_rfl) (by kernel_rfl) (Reg.Old.drew (Reg.Old.refl _)) (two ?_ ?_)
        · repeat (first | (refine Reg.wpC_W rfl (fun K hK => ?_); go_simp; refine hK _ ?_; clear hK K) | (refine Reg.wpC_H2 rfl rfl (fun K hK => ?_); apply Exists.intro; refine ⟨fun w' hS => ?_, ?_⟩; (have hS2 := hS.2; clear hS; go_simp; first | done | rfl); go_simp; refine hK _ ?_; clear hK K) | (refine Reg.wpC_N rfl rfl (fun K hK => ?_); go_simp; refine hK _ ?_; clear hK K))
          refine Reg.wpC_E rfl (fun K hK => ?_)
          go_simp
          refine (HR.out _ HI.out.bs.drew).mono ?_
          rintro e w4 ⟨rfl, hg4⟩
          have hO : Reg.Old wr w4 := (Reg.Old.refl wr).drew.grown hg4
          have I4 := ((HI.out.grown (gb_drew (gb_refl _ _))).grown hg4).grown (gb_alloc (gb_refl _ none) (.cells (zeroA 0).cells.toArray tArgs))
          have HI4 := hide I4
          have HO := hide hO
          clear hO I4 t0 t1 t2 t3 t4 t5 t6 t7 t8 t9 t10 t11
          simp only [AA.val, AA.cells, zeroA]
          refine hK _ _ (fun h => by cases h) ?_
          clear hK K
          repeat (first | (refine Reg.wpC_W rfl (fun K hK => ?_); go_simp; refine hK _ ?_; clear hK K) | (refine Reg.wpC_H2 rfl rfl (fun K hK => ?_); apply Exists.intro; refine ⟨fun w' hS => ?_, ?_⟩; (have hS2 := hS.2; clear hS; go_simp; first | done | rfl); go_simp; refine hK _ ?_; clear hK K) | (refine Reg.wpC_N rfl rfl (fun K hK => ?_); go_simp; refine hK _ ?_; clear hK K))
          refine Reg.wpC_E rfl (fun K hK => ?_)
          go_simp
          refine hK _ _ (fun _ => ?so) ?_
          case so => exact HO.out.alloc _
          clear hK K
          repeat (first | (refine Reg.wpC_W rfl (fun K hK => ?_); go_simp; refine hK _ ?_; clear hK K) | (refine Reg.wpC_H2 rfl rfl (fun K hK => ?_); apply Exists.intro; refine ⟨fun w' hS => ?_, ?_⟩; (have hS2 := hS.2; clear hS; go_simp; first | done | rfl); go_simp; refine hK _ ?_; clear hK K) | (refine Reg.wpC_N rfl rfl (fun K hK => ?_); go_simp; refine hK _ ?_; clear hK K))
          refine Reg.wpC_E rfl (fun K hK => ?_)
          go_simp
          refine hK _ _ (fun h => by cases h) ?_
          clear hK K
          repeat (first | (refine Reg.wpC_W rfl (fun K hK => ?_); go_simp; refine hK _ ?_; clear hK K) | (refine Reg.wpC_H2 rfl rfl (fun K hK => ?_); apply Exists.intro; refine ⟨fun w' hS => ?_, ?_⟩; (have hS2 := hS.2; clear hS; go_simp; first | done | rfl); go_simp; refine hK _ ?_; clear hK K) | (refine Reg.wpC_N rfl rfl (fun K hK => ?_); go_simp; refine hK _ ?_; clear hK K))
          refine Reg.wpC_nil ?_
          go_wp2_with fail
          go_meet
          exact ⟨_, rfl, rfl, Blk.new w4 tArgs (zeroA 0).cells.toArray, HI4.out⟩
        · refine Reg.wpC_E rfl (fun K hK => ?_)
          go_simp
          have bX := Blk.new wr tArgs (zeroA 0).cells.toArray
          have I4 := HI.out.grown (gb_alloc (gb_refl _ _) (.cells (zeroA 0).cells.toArray tArgs))
          have HX := hide bX
          have HI4 := hide I4
          have hTX : T < wr.heap.size := HI.out.bT.lt
          have hwX : w.heap.size ≤ wr.heap.size := HI.out.g.size
          clear bX I4
          refine hK _ _ (fun _ => ?so) ?_
          case so => exact ((Reg.Old.refl _).alloc _).drew
          clear hK K
          repeat (first | (refine Reg.wpC_W rfl (fun K hK => ?_); go_simp; refine hK _ ?_; clear hK K) | (refine Reg.wpC_H2 rfl rfl (fun K hK => ?_); apply Exists.intro; refine ⟨fun w' hS => ?_, ?_⟩; (have hS2 := hS.2; clear hS; go_simp; first | done | rfl); go_simp; refine hK _ ?_; clear hK K) | (refine Reg.wpC_N rfl rfl (fun K hK => ?_); go_simp; refine hK _ ?_; clear hK K))
          refine Reg.wpC_E rfl (fun K hK => ?_)
          go_simp
          refine (HR.out _ HI4.out.bs.drew).mono ?_
          rintro e w4 ⟨rfl, hg4⟩
          have I5 := (HI4.out.grown (gb_drew (gb_refl _ _))).grown hg4
          have bX5 := HX.out.drew.grown hg4 (by simp)
          have HI5 := hide I5
          have HX5 := hide bX5
          have lX := bX5.lt
          obtain ⟨x0, x1, x2, x3, x4, x5, x6, x7, x8, x9, x10, x11⟩ := Blk.args (a := zeroA 0) (u := .slice none 0 0) bX5
          have fX := bX5.frozen
          clear I5 bX5 hg4 t0 t1 t2 t3 t4 t5 t6 t7 t8 t9 t10 t11
          generalize wr.heap.size = X at *
          simp only [AA.val, AA.cells, zeroA]
          refine hK _ _ (fun h => by cases h) ?_
          clear hK K
          repeat (first | (refine Reg.wpC_W rfl (fun K hK => ?_); go_simp; refine hK _ ?_; clear hK K) | (refine Reg.wpC_H2 rfl rfl (fun K hK => ?_); apply Exists.intro; refine ⟨fun w' hS => ?_, ?_⟩; (have hS2 := hS.2; clear hS; go_simp; first | done | rfl); go_simp; refine hK _ ?_; clear hK K) | (refine Reg.wpC_N rfl rfl (fun K hK => ?_); go_simp; refine hK _ ?_; clear hK K))
          refine Reg.wpC_E rfl (fun K hK => ?_)
          go_simp
          refine hK _ _ (fun h => by cases h) ?_
          clear hK K
          repeat (first | (refine Reg.wpC_W rfl (fun K hK => ?_); go_simp; refine hK _ ?_; clear hK K) | (refine Reg.wpC_H2 rfl rfl (fun K hK => ?_); apply Exists.intro; refine ⟨fun w' hS => ?_, ?_⟩; (have hS2 := hS.2; clear hS; go_simp; first | done | rfl); go_simp; refine hK _ ?_; clear hK K) | (refine Reg.wpC_N rfl rfl (fun K hK => ?_); go_simp; refine hK _ ?_; clear hK K))
          refine Reg.wpC_nil ?_
          go_wp2_with fail
          go_meet
          exact ⟨_, rfl, rfl, (put12 _ _ _ _ _ _ _ _ _ _ _ _ HX5.out rfl).1, HI5.out.setX HX5.out hwX hTX (put12 _ _ _ _ _ _ _ _ _ _ _ _ HX5.out rfl).2⟩
      case rest =>
        obtain ⟨X, rfl, rfl, bX, I⟩ := hcut
        have HI2 := hide I
        have lX := bX.lt
        obtain ⟨x0, x1, x2, x3, x4, x5, x6, x7, x8, x9, x10, x11⟩ := Blk.args (a := zeroA 0) (u := .slice none 0 0) bX
        clear bX I lT t0 t1 t2 t3 t4 t5 t6 t7 t8 t9 t10 t11
        go_wp2_with fail
        refine (rsame_c (zeroA 0) (.slice none 0 0) (.slice none 0 0) _ (BS.nil _) (BS.nil _)).mono ?_
        rintro e w6 ⟨rfl, hg6⟩
        go_wp2_with fail
        go_roundw
        case rel => exact ⟨k + 1, by omega, by go_num, HI2.out.grown hg6⟩
        case measure => simp [intOf]; omega
    · obtain rfl : k = b.length := by omega
      go_wp2_with fail
      refine (lives14_c _).mono ?_
      rintro e w6 ⟨rfl, hg6⟩
      go_wp2_with fail
      go_ret
      exact ⟨rfl, gb_trans HI.out.g hg6⟩
open Go.ChangeShapes Go.WideShapes in
theorem callsCuts_walk {H : Type} {enc : TypeId × Value → H} (W : World) (base : Nat) (args : Array Value) (ds : List (DataW H)) (p : List MemPlace)
    (hval : ∀ (j : Nat) t v, Try.f7.params[j]? = some t → args[j]? = some v → Value.okWide Try.prog W .any base t v)
    (hA : DataW.TrodAll enc Try.prog W 0 (fun _ => true) true Try.f7.params.toList args.toList ds p) :
    Calls Try.prog 7 args W fun e W' => e = .returned (.bool true) ∧ W.grownBy W' none := by
  rw [Try.params7] at hA hval
  obtain ⟨v0, vs0, d0, ds0, p0, q0, hargs, rfl, rfl, h0, r0⟩ := trodAll_cons hA
  obtain ⟨rfl, rfl, rfl⟩ := trodAll_nil r0
  obtain rfl : args = #[v0] := by cases args; simp_all
  obtain ⟨a, u, rfl, hr⟩ := open_args (hval 0 _ v0 rfl rfl) h0
  exact cuts_c a u W hr
end Go.Tr
