/- Equality of arrays of ints; bytes.Equal. No condition. -/
import Derived.Test.YtdbacbhopkdhgaaDoorBase
namespace Go.Tr
open Go.RowKit Go.Proofs

theorem run_part_int {P : Program} {e : TypeId} (ha : ∀ w, (isAgg e).run P w = .ok false w) (xs : List Int) (i : Nat) (x : Int) (hi : xs[i]? = some x) (w : World) :
   (part e (xs.map (Value.int .i64)).toArray i).run P w = .ok (.int .i64 x) w := by
  unfold part
  simp [ha, hi, Sem.run_bind, Sem.run_pure]

theorem run_eqarr {P : Program} {t e : TypeId} {n : Nat} (ht : P.underlying t = some (.array n e)) (he : P.underlying e = some (.int .i64)) (ha : ∀ w, (isAgg e).run P w = .ok false w) (hs : ∀ w, (sizeOf e).run P w = .ok 1 w)
   (xs ys : List Int) (hx : xs.length = n) (hy : ys.length = n) (d : Nat) (w : World) : (Op.equalIn (d + 2) t (.agg (xs.map (Value.int .i64)).toArray) (.agg (ys.map (Value.int .i64)).toArray)).run P w = .ok (xs == ys) w := by
  have gen : ∀ (m i : Nat), i + m = n → (forIn (List.range' i m 1) ((none, ()) : Option Bool × Unit) fun i __s => (do
            let __do_lift ← part e (xs.map (Value.int IntKind.i64)).toArray (i * 1)
            let __do_lift_1 ← part e (ys.map (Value.int IntKind.i64)).toArray (i * 1)
            let __do_lift ← Op.equalIn (d + 1) e __do_lift __do_lift_1
            if (!__do_lift) = true then pure (ForInStep.done (some false, ())) else pure (ForInStep.yield (none, ())) : Sem (ForInStep (Option Bool × Unit)))).run P w = .ok (if xs.drop i == ys.drop i then (none, ()) else (some false, ())) w := by
    intro m
    induction m with
    | zero =>
      intro i hi
      simp only [List.range'_zero, List.forIn_nil, Sem.run_pure]
      rw [List.drop_eq_nil_of_le (by omega), List.drop_eq_nil_of_le (by omega)]
      rfl
    | succ m ih =>
      intro i hi
      have h1 : xs[i]? = some xs[i] := List.getElem?_eq_getElem (by omega)
      have h2 : ys[i]? = some ys[i] := List.getElem?_eq_getElem (by omega)
      simp only [List.range'_succ, List.forIn_cons, Sem.run_bind, Nat.mul_one, Result.andThen]
      rw [run_part_int ha xs i _ h1]
      simp only []
      rw [run_part_int ha ys i _ h2]
      simp only []
      rw [run_equalIn_int w d e .i64 .i64 _ _ he]
      simp only []
      have hb : (xs.drop i == ys.drop i) = (xs[i] == ys[i] && xs.drop (i + 1) == ys.drop (i + 1)) := by
        rw [List.drop_eq_getElem_cons (l := xs) (i := i) (by omega), List.drop_eq_getElem_cons (l := ys) (i := i) (by omega)]
        rfl
      rw [hb]
      cases hxy : xs[i] == ys[i]
      · simp only [Bool.not_false, if_true, Sem.run_pure, Bool.false_and, Bool.false_eq_true, if_false]
      · have := ih (i + 1) (by omega)
        simp only [Nat.mul_one] at this
        simp only [Bool.not_true, Bool.false_eq_true, if_false, Sem.run_pure, Bool.true_and]
        exact this
  unfold Op.equalIn
  simp only [Sem.run_bind, run_underlying ht, Result.andThen]
  rw [hs]
  simp only []
  rw [Std.Legacy.Range.forIn_eq_forIn_range']
  have := gen n 0 (by omega)
  simp only [Std.Legacy.Range.size, Nat.sub_zero, Nat.add_sub_cancel, Nat.div_one]
  rw [this]
  simp only [List.drop_zero]
  cases xs == ys <;> rfl

theorem equal_c (v1 v2 : Value) (l1 l2 : List UInt8) (w : World) (h1 : BS w v1 l1) (h2 : BS w v2 l2) : Calls Tryd.prog 52 #[v1, v2] w fun e w' => e = .returned (.bool (l1 == l2)) ∧ w = w' := by
  obtain ⟨A1, c1, e1, _⟩ := id h1
  obtain ⟨A2, c2, e2, _⟩ := id h2
  subst e1 e2
  have k1 := run_convback w _ _ _ _ h1
  have k2 := run_convback w _ _ _ _ h2
  go_enter Tryd.func52, Tryd.ntmps52
  go_wp2
  go_ret
  exact ⟨rfl, rfl⟩
end Go.Tr
