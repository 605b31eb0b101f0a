/- A region of a Go function whose operations may come up in several orders is walked in one order (or in one order for each effect that may come up first). No program in sight; no condition. -/
import Derived.Orders
import Derived.Deep.Quiet
import Derived.WalkKit
import Derived.KernelRfl
namespace Go.Reg

inductive Cl where
  | W | H | Q | E (s : Bool)
  deriving DecidableEq

/-- the worlds in which a pure operation of this class must yield -/
def Tw (S : World → Prop) : Cl → World → Prop
  | .W => fun _ => True
  | _ => S

def yv (P : Program) (c : Cl) (o : Oper) (a : Act) (w : World) (v : Value) : Prop :=
  match c with
  | .Q => o.quietAt P a (fun w' => w' = w) w v
  | _ => (execOp a.eval o).run P w = .ok (.value v) w

def PY (P : Program) (ops : Array Oper) (S : World → Prop) (c : Cl) (o : Oper) (v : Value) (a : Act) : Prop :=
  (Region.wanted o (yielded ops a.tmps) = true ∧ ∀ w, Tw S c w → yv P c o a w v) ∨ (Region.wanted o (yielded ops a.tmps) = false ∧ v = undef)

def noQ : Exit → Act → World → Prop := fun _ _ _ => False

def opE (P : Program) (ops : Array Oper) (o : Oper) (K : Act → World → Prop) (a : Act) (w : World) : Prop :=
  if Region.wanted o (yielded ops a.tmps) = true then o.wp P a w K noQ else K (a.put o.dst undef) w

def wpC (P : Program) (ops : Array Oper) (S : World → Prop) (Q : Act → World → Prop) : List (Nat × Cl) → Act → World → Prop
  | [], a, w => Q a w
  | (i, .E s) :: r, a, w => ∃ o, ops[i]? = some o ∧ opE P ops o (fun a' w' => (s = true → S w') ∧ wpC P ops S Q r a' w') a w
  | (i, c) :: r, a, w => ∃ o, ops[i]? = some o ∧ ∃ v, PY P ops S c o v a ∧ wpC P ops S Q r (a.put o.dst v) w

section
variable {P : Program} {ops : Array Oper} {S : World → Prop} {Q : Act → World → Prop}

theorem yv_congr {c : Cl} {o : Oper} {a a' : Act} {w : World} {v : Value} (he : execOp a'.eval o = execOp a.eval o) (h : yv P c o a w v) : yv P c o a' w v := by
  cases c <;> simp only [yv, Oper.quietAt] at h ⊢ <;> rw [he] <;> exact h

theorem PY.of_same {c : Cl} {o : Oper} {v : Value} {a a' : Act} (hy : PY P ops S c o v a) (he : execOp a'.eval o = execOp a.eval o)
    (hw : Region.wanted o (yielded ops a'.tmps) = Region.wanted o (yielded ops a.tmps)) : PY P ops S c o v a' := by
  rcases hy with ⟨h1, h2⟩ | ⟨h1, h2⟩
  · exact .inl ⟨by rw [hw]; exact h1, fun w hw' => yv_congr he (h2 w hw')⟩
  · exact .inr ⟨by rw [hw]; exact h1, h2⟩

theorem PY.put {c : Cl} {o : Oper} {v u : Value} {a : Act} {d : Option Tmp} (hs : ∀ cs b, o.op ≠ .select cs b) (hd : ∀ x, d = some x → x ∉ o.looksAt ops) (hy : PY P ops S c o v a) : PY P ops S c o v (a.put d u) :=
  hy.of_same (execOp_put o hs a d u hd) (wanted_put o a d u hd)

theorem PY.unput {c : Cl} {o : Oper} {v u : Value} {a : Act} {d : Option Tmp} (hs : ∀ cs b, o.op ≠ .select cs b) (hd : ∀ x, d = some x → x ∉ o.looksAt ops) (hy : PY P ops S c o v (a.put d u)) : PY P ops S c o v a :=
  hy.of_same (execOp_put o hs a d u hd).symm (wanted_put o a d u hd).symm

/-- a value op yields one value -/
theorem PY.uniq {c c' : Cl} {o : Oper} {v v' : Value} {a : Act} {w : World} (hc : c ≠ .Q) (hc' : c' ≠ .Q) (h : PY P ops S c o v a) (h' : PY P ops S c' o v' a) (hw : Tw S c w) (hw' : Tw S c' w) : v = v' := by
  rcases h with ⟨h1, h2⟩ | ⟨h1, h2⟩ <;> rcases h' with ⟨h3, h4⟩ | ⟨h3, h4⟩
  · have e1 := h2 w hw
    have e2 := h4 w hw'
    cases c <;> first | exact absurd rfl hc | skip
    all_goals cases c' <;> first | exact absurd rfl hc' | skip
    all_goals
      simp only [yv] at e1 e2
      rw [e1] at e2
      injection e2 with e2
      injection e2
  · rw [h1] at h3; cases h3
  · rw [h1] at h3; cases h3
  · rw [h2, h4]

theorem opE_mono {o : Oper} {K K' : Act → World → Prop} {a : Act} {w : World} (h : ∀ a w, K a w → K' a w) (hh : opE P ops o K a w) : opE P ops o K' a w := by
  unfold opE at *
  split
  · rename_i hw; simp only [hw, if_true] at hh; exact Oper.wp_mono h hh
  · rename_i hw; simp only [hw] at hh; exact h _ _ hh

/-- the frames that an operation can leave -/
inductive Left (o : Oper) (a : Act) : Act → Prop
  | put (u : Value) : Left o a (a.put o.dst u)
  | dput (d : Deferred) : Left o a ({ a with defers := d :: a.defers }.put o.dst undef)

/-- what an effect leaves, with the form of the frame; moved over a slot that it does not look at -/
theorem opE_move {o : Oper} {x : Option Tmp} {v : Value} (hs : ∀ cs b, o.op ≠ .select cs b) (h1 : ∀ d, x = some d → d ∉ o.looksAt ops) (h2 : ∀ d, x = some d → o.dst ≠ some d)
    {K K' : Act → World → Prop} {a : Act} {w : World} (hK : ∀ a' w', Left o a a' → K (a'.put x v) w' → K' a' w')
    (h : opE P ops o K (a.put x v) w) : opE P ops o K' a w := by
  unfold opE at *
  rw [wanted_put o a x v h1] at h
  split
  · rename_i hw
    simp only [hw, if_true] at h
    unfold Oper.wp at *
    rw [execOp_put o hs a x v h1] at h
    generalize (execOp a.eval o).run P w = r at *
    cases r with
    | ok n w' =>
      cases n <;> simp only [Oper.upon] at h ⊢
      case value u => exact hK _ _ (.put u) (by rw [← Act.put_comm a v u h2]; exact h)
      case skip => exact hK _ _ (.put undef) (by rw [← Act.put_comm a v undef h2]; exact h)
      case defer d =>
        refine hK _ _ (.dput d) ?_
        rw [← Act.put_comm _ v undef h2, ← Act.put_defers]
        exact h
      case enter f args =>
        refine Calls.mono h fun e w'' he => ?_
        cases e with
        | returned u => exact hK _ _ (.put u) (by rw [← Act.put_comm a v u h2]; exact he)
        | panicked c => exact he
        | outgrown => exact he
      case row row args => exact Rows.mono h fun u w'' he => hK _ _ (.put u) (by rw [← Act.put_comm a v u h2]; exact he)
    | halt x' w' =>
      cases x' <;> simp only [Oper.upon] at h ⊢
      case panic u => exact h
  · rename_i hw
    simp only [hw] at h
    exact hK _ _ (.put undef) (by rw [← Act.put_comm a v undef h2]; exact h)

theorem opE_moveback {o : Oper} {x : Option Tmp} {v : Value} (hs : ∀ cs b, o.op ≠ .select cs b) (h1 : ∀ d, x = some d → d ∉ o.looksAt ops) (h2 : ∀ d, x = some d → o.dst ≠ some d)
    {K K' : Act → World → Prop} {a : Act} {w : World} (hK : ∀ a' w', Left o a a' → K a' w' → K' (a'.put x v) w')
    (h : opE P ops o K a w) : opE P ops o K' (a.put x v) w := by
  unfold opE at *
  rw [wanted_put o a x v h1]
  split
  · rename_i hw
    simp only [hw, if_true] at h
    unfold Oper.wp at *
    rw [execOp_put o hs a x v h1]
    generalize (execOp a.eval o).run P w = r at *
    cases r with
    | ok n w' =>
      cases n <;> simp only [Oper.upon] at h ⊢
      case value u => rw [Act.put_comm a v u h2]; exact hK _ _ (.put u) h
      case skip => rw [Act.put_comm a v undef h2]; exact hK _ _ (.put undef) h
      case defer d =>
        rw [Act.put_defers, Act.put_comm _ v undef h2]
        exact hK _ _ (.dput d) h
      case enter f args =>
        refine Calls.mono h fun e w'' he => ?_
        cases e with
        | returned u => simp only []; rw [Act.put_comm a v u h2]; exact hK _ _ (.put u) he
        | panicked c => exact he
        | outgrown => exact he
      case row row args => exact Rows.mono h fun u w'' he => by rw [Act.put_comm a v u h2]; exact hK _ _ (.put u) he
    | halt x' w' =>
      cases x' <;> simp only [Oper.upon] at h ⊢
      case panic u => exact h
  · rename_i hw
    simp only [hw] at h
    rw [Act.put_comm a v undef h2]
    exact hK _ _ (.put undef) h

theorem opE_some {o : Oper} {K : Act → World → Prop} {a : Act} {w : World} (h : opE P ops o K a w) : ∃ a' w', Left o a a' ∧ K a' w' := by
  unfold opE at h
  split at h
  · unfold Oper.wp at h
    generalize (execOp a.eval o).run P w = r at *
    cases r with
    | ok n w' =>
      cases n <;> simp only [Oper.upon] at h
      case value u => exact ⟨_, _, .put u, h⟩
      case skip => exact ⟨_, _, .put undef, h⟩
      case defer d => exact ⟨_, _, .dput d, h⟩
      case enter f args =>
        obtain ⟨e, w'', fr, hR, _⟩ := h []
        cases e with
        | returned u => exact ⟨_, _, .put u, hR⟩
        | panicked c => exact hR.elim
        | outgrown => obtain ⟨a₀, w₀, hq⟩ := hR; exact hq.elim
      case row row args =>
        obtain ⟨v, w'', hR, _⟩ := h default []
        exact ⟨_, _, .put v, hR⟩
    | halt x' w' =>
      cases x' <;> simp only [Oper.upon] at h
      case panic u => exact h.elim
  · exact ⟨_, _, .put undef, h⟩

theorem PY.left {c : Cl} {o x : Oper} {v : Value} {a a' : Act} (hs : ∀ cs b, o.op ≠ .select cs b) (hd : ∀ d, x.dst = some d → d ∉ o.looksAt ops) (hl : Left x a a') (hy : PY P ops S c o v a) : PY P ops S c o v a' := by
  cases hl with
  | put u => exact hy.put hs hd
  | dput d => exact PY.put hs hd (a := { a with defers := d :: a.defers }) (hy.of_same rfl rfl)
theorem PY.unleft {c : Cl} {o x : Oper} {v : Value} {a a' : Act} (hs : ∀ cs b, o.op ≠ .select cs b) (hd : ∀ d, x.dst = some d → d ∉ o.looksAt ops) (hl : Left x a a') (hy : PY P ops S c o v a') : PY P ops S c o v a := by
  cases hl with
  | put u => exact hy.unput hs hd
  | dput d => exact (PY.unput hs hd (a := { a with defers := d :: a.defers }) hy).of_same rfl rfl

theorem Tw.of {c : Cl} {w : World} (h : S w) : Tw S c w := by cases c <;> first | exact trivial | exact h

end
end Go.Reg
namespace Go.Reg

def isE : Cl → Bool | .E _ => true | _ => false
def isS : Cl → Bool | .H => true | .Q => true | _ => false

/-- two operations that the edges leave open, x ahead of y in the list: they may change places -/
def okC : Cl → Cl → Bool
  | .E _, .E _ => false
  | .E _, .W => true
  | .E s, .H => s
  | .E _, .Q => false
  | .W, _ => true
  | .H, .E s => s
  | .Q, .E s => s
  | _, _ => true

def okP (ops : Array Oper) (x y : Nat × Cl) : Bool :=
  match ops[x.1]?, ops[y.1]? with
  | some ox, some oy => ox.apart ops oy && okC x.2 y.2
  | _, _ => false

section
variable {P : Program} {ops : Array Oper} {S : World → Prop} {Q : Act → World → Prop}

theorem wpC_pure_iff {i : Nat} {c : Cl} {r : List (Nat × Cl)} {a : Act} {w : World} (hc : isE c = false) :
    wpC P ops S Q ((i, c) :: r) a w ↔ ∃ o, ops[i]? = some o ∧ ∃ v, PY P ops S c o v a ∧ wpC P ops S Q r (a.put o.dst v) w := by
  cases c with
  | E s => cases hc
  | _ => rfl

theorem wpC_tail {x : Nat × Cl} {L L' : List (Nat × Cl)} {a : Act} {w : World}
    (h : ∀ a' w', (isE x.2 = false → w' = w) → (∀ s, x.2 = .E s → s = true → S w') → wpC P ops S Q L a' w' → wpC P ops S Q L' a' w')
    (hh : wpC P ops S Q (x :: L) a w) : wpC P ops S Q (x :: L') a w := by
  obtain ⟨i, c⟩ := x
  cases hc : isE c with
  | false =>
    rw [wpC_pure_iff hc] at *
    obtain ⟨o, ho, v, hp, hr⟩ := hh
    exact ⟨o, ho, v, hp, h _ _ (fun _ => rfl) (fun s hs => by simp only at hs; subst hs; cases hc) hr⟩
  | true =>
    cases c with
    | E s =>
      obtain ⟨o, ho, hr⟩ := hh
      exact ⟨o, ho, opE_mono (fun a' w' ⟨h1, h2⟩ => ⟨h1, h _ _ (fun hh => by cases hh) (fun s' hs' => by cases hs'; exact h1) h2⟩) hr⟩
    | _ => cases hc

theorem wpC_swap (hsel : Region.noSelect ops = true) {x y : Nat × Cl} {r : List (Nat × Cl)} {a : Act} {w : World} (hok : okP ops x y = true) (hS : (isS x.2 = true ∨ isS y.2 = true) → S w)
    (h : wpC P ops S Q (x :: y :: r) a w) : wpC P ops S Q (y :: x :: r) a w := by
  obtain ⟨i, c⟩ := x
  obtain ⟨j, d⟩ := y
  unfold okP at hok
  simp only at hok
  cases hox : ops[i]? with
  | none => simp [hox] at hok
  | some ox =>
  cases hoy : ops[j]? with
  | none => simp [hox, hoy] at hok
  | some oy =>
  simp only [hox, hoy, Bool.and_eq_true] at hok
  obtain ⟨hap, hcc⟩ := hok
  obtain ⟨h1, h2, h3⟩ := Oper.apart_spec hap
  have sx := fun cs b => Region.noSelect_spec hsel i ox cs b hox
  have sy := fun cs b => Region.noSelect_spec hsel j oy cs b hoy
  have h2' : ∀ d, oy.dst = some d → ox.dst ≠ some d := fun d hd he => h2 d he hd
  cases hc : isE c with
  | false =>
    rw [wpC_pure_iff hc] at h
    obtain ⟨o, ho, v, hp, hr⟩ := h
    obtain rfl : ox = o := Option.some.inj (hox.symm.trans ho)
    cases hd : isE d with
    | false =>
      rw [wpC_pure_iff hd] at hr
      obtain ⟨o', ho', u, hq, hr⟩ := hr
      obtain rfl : oy = o' := Option.some.inj (hoy.symm.trans ho')
      rw [wpC_pure_iff hd]
      refine ⟨oy, hoy, u, hq.unput sy h1, ?_⟩
      rw [wpC_pure_iff hc]
      exact ⟨ox, hox, v, hp.put sx h3, by rw [Act.put_comm _ u v h2']; exact hr⟩
    | true =>
      cases d with
      | E s =>
        obtain ⟨o', ho', hr⟩ := hr
        obtain rfl : oy = o' := Option.some.inj (hoy.symm.trans ho')
        refine ⟨oy, hoy, ?_⟩
        refine opE_move sy h1 h2 (fun a' w' hl hk => ⟨hk.1, ?_⟩) hr
        rw [wpC_pure_iff hc]
        exact ⟨ox, hox, v, hp.left sx h3 hl, hk.2⟩
      | _ => cases hd
  | true =>
    cases c with
    | E s =>
      obtain ⟨o, ho, hr⟩ := h
      obtain rfl : ox = o := Option.some.inj (hox.symm.trans ho)
      have hd : isE d = false := by cases d <;> first | rfl | cases hcc
      have hdq : d ≠ .Q := by rintro rfl; cases hcc
      have hds : d = .W ∨ s = true := by
        cases d with
        | W => exact .inl rfl
        | H => exact .inr (by simpa [okC] using hcc)
        | Q => cases hcc
        | E _ => cases hcc
      have hr' : opE P ops ox (fun a' w' => (s = true → S w') ∧ ∃ v, PY P ops S d oy v a' ∧ wpC P ops S Q r (a'.put oy.dst v) w') a w := by
        refine opE_mono (fun a' w' hk => ⟨hk.1, ?_⟩) hr
        have := (wpC_pure_iff hd).1 hk.2
        obtain ⟨o', ho', hv⟩ := this
        obtain rfl : oy = o' := Option.some.inj (hoy.symm.trans ho')
        exact hv
      obtain ⟨a₁, w₁, hl₁, hS₁, v, hv, _⟩ := opE_some hr'
      have hva : PY P ops S d oy v a := hv.unleft sy h1 hl₁
      rw [wpC_pure_iff hd]
      refine ⟨oy, hoy, v, hva, ox, hox, ?_⟩
      refine opE_moveback sx h3 h2' (fun a' w' hl hk => ⟨hk.1, ?_⟩) hr'
      obtain ⟨hs', v', hv', hr⟩ := hk
      have hT : Tw S d w' := by
        rcases hds with rfl | hs
        · exact trivial
        · exact Tw.of (hs' hs)
      obtain rfl : v = v' := PY.uniq hdq hdq (hva.left sy h1 hl) hv' hT hT
      exact hr
    | _ => cases hc

/-- an effect ahead of what leans on S leaves S -/
def c2 : List (Nat × Cl) → Bool
  | [] => true
  | (_, .E s) :: r => (s || !r.any fun x => isS x.2) && c2 r
  | _ :: r => c2 r

theorem c2_tail {x : Nat × Cl} {r : List (Nat × Cl)} (h : c2 (x :: r) = true) : c2 r = true := by
  obtain ⟨i, c⟩ := x
  cases c <;> simp only [c2, Bool.and_eq_true] at h <;> first | exact h | exact h.2

theorem c2_E {x : Nat × Cl} {s : Bool} {r : List (Nat × Cl)} (hx : x.2 = .E s) (h : c2 (x :: r) = true) (hr : (r.any fun x => isS x.2) = true) : s = true := by
  obtain ⟨i, c⟩ := x
  simp only at hx
  subst hx
  simp only [c2, Bool.and_eq_true, hr] at h
  simpa using h.1

theorem c2_drop {i : Nat × Cl} {r2 : List (Nat × Cl)} : ∀ (r1 : List (Nat × Cl)), c2 (r1 ++ i :: r2) = true → c2 (r1 ++ r2) = true
  | [], h => c2_tail h
  | (j, c) :: r1, h => by
    have ih := c2_drop r1 (c2_tail h)
    cases c with
    | E s =>
      simp only [List.cons_append, c2, Bool.and_eq_true] at h ⊢
      refine ⟨?_, ih⟩
      have := h.1
      simp only [List.any_append, List.any_cons, Bool.or_eq_true, Bool.not_eq_true', Bool.or_eq_false_iff] at this ⊢
      rcases this with h | h
      · exact .inl h
      · exact .inr ⟨h.1, h.2.2⟩
    | _ => exact ih

theorem bubble (hsel : Region.noSelect ops = true) {i : Nat × Cl} {r2 : List (Nat × Cl)} : ∀ (r1 : List (Nat × Cl)) (a : Act) (w : World), (∀ x ∈ r1, okP ops x i = true) → c2 (r1 ++ i :: r2) = true →
    (((r1 ++ i :: r2).any fun x => isS x.2) = true → S w) → wpC P ops S Q (r1 ++ i :: r2) a w → wpC P ops S Q (i :: (r1 ++ r2)) a w
  | [], _, _, _, _, _, h => h
  | x :: r1, a, w, hok, hc2, hS, h => by
    have ht : wpC P ops S Q (x :: i :: (r1 ++ r2)) a w := by
      refine wpC_tail (fun a' w' hw hs hh => ?_) h
      refine bubble hsel r1 a' w' (fun y hy => hok y (List.mem_cons_of_mem _ hy)) (c2_tail hc2) (fun hany => ?_) hh
      cases hx : isE x.2 with
      | false =>
        rw [hw hx]
        exact hS (by simp only [List.cons_append, List.any_cons, Bool.or_eq_true]; exact .inr hany)
      | true =>
        obtain ⟨k, c⟩ := x
        cases c with
        | E s => exact hs s rfl (c2_E rfl hc2 hany)
        | _ => cases hx
    refine wpC_swap hsel (hok x (by simp)) (fun hxy => hS ?_) ht
    simp only [List.cons_append, List.any_cons, List.any_append, Bool.or_eq_true]
    rcases hxy with h | h
    · exact .inl h
    · exact .inr (.inr (.inl h))

/-- the pairs of a list; f: no effect has stood yet, and the first one may stand ahead of effects that the edges leave open -/
def pw (ops : Array Oper) (rch : Nat → Nat → Bool) : Bool → List (Nat × Cl) → Bool
  | _, [] => true
  | f, x :: r => (r.all fun y => rch x.1 y.1 || okP ops x y || (f && isE x.2 && isE y.2)) && pw ops rch (f && !isE x.2) r

theorem pw_weak {rch : Nat → Nat → Bool} : ∀ {f : Bool} {L : List (Nat × Cl)}, pw ops rch false L = true → pw ops rch f L = true
  | _, [], _ => rfl
  | f, x :: r, h => by
    simp only [pw, Bool.and_eq_true, List.all_eq_true, Bool.false_and, Bool.or_false] at h ⊢
    exact ⟨fun y hy => by rw [h.1 y hy]; rfl, pw_weak h.2⟩

theorem pw_drop {rch : Nat → Nat → Bool} {i : Nat × Cl} {r2 : List (Nat × Cl)} : ∀ {f : Bool} (r1 : List (Nat × Cl)), (f = true → isE i.2 = false) → pw ops rch f (r1 ++ i :: r2) = true → pw ops rch f (r1 ++ r2) = true
  | f, [], hi, h => by
    simp only [List.nil_append, pw, Bool.and_eq_true] at h
    cases f with
    | false => simpa using h.2
    | true => simpa [hi rfl] using h.2
  | f, x :: r1, hi, h => by
    simp only [List.cons_append, pw, Bool.and_eq_true, List.all_eq_true] at h ⊢
    refine ⟨fun y hy => h.1 y ?_, pw_drop r1 (fun hf => hi (by revert hf; cases f <;> simp)) h.2⟩
    simp only [List.mem_append, List.mem_cons] at hy ⊢
    rcases hy with h | h
    · exact .inl h
    · exact .inr (.inr h)

/-- the first effect is taken away: what is left is whole -/
theorem pw_first {rch : Nat → Nat → Bool} {i : Nat × Cl} {r2 : List (Nat × Cl)} (hi : isE i.2 = true) : ∀ (r1 : List (Nat × Cl)), (∀ x ∈ r1, isE x.2 = false) → pw ops rch true (r1 ++ i :: r2) = true → pw ops rch false (r1 ++ r2) = true
  | [], _, h => by
    simp only [List.nil_append, pw, Bool.and_eq_true] at h
    simpa [hi] using h.2
  | x :: r1, hx, h => by
    simp only [List.cons_append, pw, Bool.and_eq_true, List.all_eq_true] at h ⊢
    have hx0 := hx x (by simp)
    refine ⟨fun y hy => ?_, pw_first hi r1 (fun y hy => hx y (List.mem_cons_of_mem _ hy)) (by simpa [hx0] using h.2)⟩
    have := h.1 y (by
      simp only [List.mem_append, List.mem_cons] at hy ⊢
      rcases hy with h | h
      · exact .inl h
      · exact .inr (.inr h))
    simpa [hx0] using this

theorem pw_head {rch : Nat → Nat → Bool} {i : Nat × Cl} {r2 : List (Nat × Cl)} : ∀ {f : Bool} (r1 : List (Nat × Cl)), (f = true → isE i.2 = true → ∀ x ∈ r1, isE x.2 = false) → pw ops rch f (r1 ++ i :: r2) = true → ∀ x ∈ r1, rch x.1 i.1 = true ∨ okP ops x i = true
  | f, x :: r1, hfi, h, y, hy => by
    simp only [List.cons_append, pw, Bool.and_eq_true, List.all_eq_true] at h
    rcases List.mem_cons.1 hy with rfl | hy
    · have := h.1 i (by simp)
      simp only [Bool.or_eq_true, Bool.and_eq_true] at this
      rcases this with (h | h) | ⟨⟨hf, h1⟩, h2⟩
      · exact .inl h
      · exact .inr h
      · have := hfi hf h2 y (by simp)
        rw [h1] at this; cases this
    · refine pw_head r1 (fun hf hi z hz => hfi (by revert hf; cases f <;> simp) hi z (List.mem_cons_of_mem _ hz)) h.2 y hy

/-- a listed operation's edges are listed -/
def Closed (ops : Array Oper) (listed : Array Bool) : Prop :=
  ∀ j o, ops[j]? = some o → listed.getD j false = true → ∀ e ∈ o.after, Region.binds .any e = true → listed.getD e.on false = true

/-- rch j i: j comes ahead of i whatever the order -/
def Reaches (ops : Array Oper) (rch : Nat → Nat → Bool) : Prop :=
  ∀ listed : Array Bool, listed.size = ops.size → Closed ops listed → ∀ i ∈ Region.ready .any ops listed, ∀ j, rch j i = true → listed.getD j false = true

theorem closed_set {listed : Array Bool} {i : Nat} (h : Closed ops listed) (hi : i ∈ Region.ready .any ops listed) : Closed ops (listed.setIfInBounds i true) := by
  obtain ⟨_, oi, hoi, hall⟩ := mem_ready.1 hi
  intro j o hj hl e he hb
  by_cases hij : i = j
  · subst hij
    obtain rfl : oi = o := Option.some.inj (hoi.symm.trans hj)
    exact getD_set_true (hall e he hb)
  · rw [getD_set_ne false hij] at hl
    exact getD_set_true (h j o hj hl e he hb)

theorem getD_flip {listed : Array Bool} {j : Nat} (h : listed.getD j true = false) : listed.getD j false = false := by
  rcases Nat.lt_or_ge j listed.size with h' | h'
  · simp [h'] at h ⊢; exact h
  · simp [Array.getElem?_eq_none h'] at h

structure Rem (ops : Array Oper) (listed : Array Bool) (L : List (Nat × Cl)) : Prop where
  size : listed.size = ops.size
  mem : ∀ i, i ∈ L.map (·.1) ↔ listed.getD i true = false
  nodup : (L.map (·.1)).Nodup

theorem Rem.step {listed : Array Bool} {i : Nat × Cl} {r1 r2 : List (Nat × Cl)} (h : Rem ops listed (r1 ++ i :: r2)) : Rem ops (listed.setIfInBounds i.1 true) (r1 ++ r2) := by
  have hi : listed.getD i.1 true = false := (h.mem i.1).1 (by simp)
  have hil : i.1 < listed.size := by
    rcases Nat.lt_or_ge i.1 listed.size with h' | h'
    · exact h'
    · simp [Array.getElem?_eq_none h'] at hi
  have hnd := h.nodup
  simp only [List.map_append, List.map_cons] at hnd
  have hnd' : i.1 ∉ (r1 ++ r2).map (·.1) := by
    rw [List.map_append]
    rw [List.nodup_append] at hnd
    obtain ⟨_, h2, h3⟩ := hnd
    rw [List.nodup_cons] at h2
    intro hm
    rcases List.mem_append.1 hm with hm | hm
    · exact h3 _ hm _ (by simp) rfl
    · exact h2.1 hm
  refine ⟨by simp [h.size], fun j => ?_, ?_⟩
  · by_cases hij : i.1 = j
    · subst hij
      refine ⟨fun hm => absurd hm hnd', fun hl => ?_⟩
      simp [hil] at hl
    · rw [getD_set_ne true hij, ← h.mem j]
      simp only [List.map_append, List.map_cons, List.mem_append, List.mem_cons]
      constructor
      · rintro (h | h)
        · exact .inl h
        · exact .inr (.inr h)
      · rintro (h | h | h)
        · exact .inl h
        · exact absurd h.symm hij
        · exact .inr h
  · rw [List.map_append]
    rw [List.nodup_append] at hnd ⊢
    obtain ⟨h1, h2, h3⟩ := hnd
    rw [List.nodup_cons] at h2
    exact ⟨h1, h2.2, fun a ha b hb => h3 a ha b (List.mem_cons_of_mem _ hb)⟩

theorem Rem.split {listed : Array Bool} {i : Nat} {L : List (Nat × Cl)} (h : Rem ops listed L) (hi : i ∈ Region.ready .any ops listed) : ∃ r1 c r2, L = r1 ++ (i, c) :: r2 := by
  obtain ⟨h0, _⟩ := mem_ready.1 hi
  obtain ⟨⟨k, c⟩, hm, hk⟩ := List.mem_map.1 ((h.mem i).2 h0)
  simp only at hk
  subst hk
  obtain ⟨r1, r2, rfl⟩ := List.append_of_mem hm
  exact ⟨r1, c, r2, rfl⟩

end
end Go.Reg
namespace Go.Reg
section
variable {P : Program} {ops : Array Oper} {S : World → Prop} {Q : Act → World → Prop}

theorem wpOp_pure {i : Nat} {c : Cl} {o : Oper} {v : Value} {a : Act} {w : World} {K : Act → World → Prop} {Q' : Exit → Act → World → Prop} (ho : ops[i]? = some o) (hT : Tw S c w) (hp : PY P ops S c o v a) (h : K (a.put o.dst v) w) :
    wpOp P ops Q' i K a w := by
  unfold wpOp
  simp only [ho]
  rcases hp with ⟨h1, h2⟩ | ⟨h1, rfl⟩
  · simp only [h1, if_true]
    refine .inl ?_
    have h3 := h2 w hT
    unfold Oper.wp
    cases c <;> simp only [yv, Oper.quietAt] at h3
    case Q =>
      generalize (execOp a.eval o).run P w = r at *
      cases r with
      | ok n w' =>
        cases n <;> simp only [Oper.quietUpon] at h3 <;> simp only [Oper.upon]
        case value u => obtain ⟨rfl, rfl⟩ := h3; exact h
        case skip => obtain ⟨rfl, rfl⟩ := h3; exact h
        case enter f args =>
          obtain ⟨rfl, h3⟩ := h3
          refine h3.mono fun e w'' he => ?_
          obtain ⟨rfl, rfl⟩ := he
          exact h
      | halt x w' => simp only [Oper.quietUpon] at h3
    all_goals (rw [h3]; exact h)
  · simp only [h1]; exact h

theorem wpOp_opE {i : Nat} {o : Oper} {a : Act} {w : World} {K : Act → World → Prop} {Q' : Exit → Act → World → Prop} (ho : ops[i]? = some o) (h : opE P ops o K a w) : wpOp P ops Q' i K a w := by
  unfold wpOp
  simp only [ho]
  unfold opE at h
  split
  · rename_i hw
    simp only [hw, if_true] at h
    refine .inl ?_
    unfold Oper.wp at *
    generalize (execOp a.eval o).run P w = r at *
    cases r with
    | ok n w' =>
      cases n <;> simp only [Oper.upon] at h ⊢ <;> first | exact h | skip
      case enter f args =>
        refine h.mono fun e w'' he => ?_
        cases e with
        | returned u => exact he
        | panicked c => exact he.elim
        | outgrown => obtain ⟨a₀, w₀, hq⟩ := he; exact hq.elim
    | halt x w' =>
      cases x <;> simp only [Oper.upon] at h ⊢
      case panic u => exact h.elim
  · rename_i hw
    simp only [hw] at h
    exact h

theorem any_of_mem {L : List (Nat × Cl)} {x : Nat × Cl} (hx : x ∈ L) (h : isS x.2 = true) : (L.any fun x => isS x.2) = true := List.any_eq_true.2 ⟨x, hx, h⟩

theorem any_drop {i : Nat × Cl} {r1 r2 : List (Nat × Cl)} (h : ((r1 ++ r2).any fun x => isS x.2) = true) : ((r1 ++ i :: r2).any fun x => isS x.2) = true := by
  simp only [List.any_append, List.any_cons, Bool.or_eq_true] at h ⊢
  rcases h with h | h
  · exact .inl h
  · exact .inr (.inr h)

theorem any_drop' {i : Nat × Cl} {r1 r2 : List (Nat × Cl)} (h : ((i :: (r1 ++ r2)).any fun x => isS x.2) = true) : ((r1 ++ i :: r2).any fun x => isS x.2) = true := by
  simp only [List.any_append, List.any_cons, Bool.or_eq_true] at h ⊢
  rcases h with h | h | h
  · exact .inr (.inl h)
  · exact .inl h
  · exact .inr (.inr h)

/-- an effect behind which something that leans on S is still to come leaves S, wherever it stood -/
def c3 (rch : Nat → Nat → Bool) (L : List (Nat × Cl)) : Bool :=
  L.all fun x => match x.2 with
    | .E s => s || L.all fun y => !isS y.2 || rch y.1 x.1
    | _ => true

theorem c3_drop {rch : Nat → Nat → Bool} {i : Nat × Cl} {r1 r2 : List (Nat × Cl)} (h : c3 rch (r1 ++ i :: r2) = true) : c3 rch (r1 ++ r2) = true := by
  have sub : ∀ x, x ∈ r1 ++ r2 → x ∈ r1 ++ i :: r2 := fun x hx => by
    simp only [List.mem_append, List.mem_cons] at hx ⊢
    rcases hx with h | h
    · exact .inl h
    · exact .inr (.inr h)
  unfold c3 at *
  rw [List.all_eq_true] at *
  intro x hx
  have := h x (sub x hx)
  split at this
  · rename_i s hs
    simp only [Bool.or_eq_true, List.all_eq_true] at this ⊢
    rcases this with h | h
    · exact .inl h
    · exact .inr fun y hy => h y (sub y hy)
  · rfl

theorem c3_E {rch : Nat → Nat → Bool} {x : Nat × Cl} {s : Bool} {L : List (Nat × Cl)} (h : c3 rch L = true) (hx : x ∈ L) (hs : x.2 = .E s) {y : Nat × Cl} (hy : y ∈ L) (hyS : isS y.2 = true) : s = true ∨ rch y.1 x.1 = true := by
  unfold c3 at h
  rw [List.all_eq_true] at h
  have := h x hx
  rw [hs] at this
  simp only [Bool.or_eq_true, List.all_eq_true] at this
  rcases this with h | h
  · exact .inl h
  · have := h y hy
    simp [hyS] at this
    exact .inr this

theorem main1 {rch : Nat → Nat → Bool} (hsel : Region.noSelect ops = true) (hr : Reaches ops rch) {Q' : Exit → Act → World → Prop} (hQ : ∀ a w, Q a w → Q' .normal a w) (hrdy : ∀ listed L, Rem ops listed L → L ≠ [] → Region.ready .any ops listed ≠ []) :
    ∀ (fuel : Nat) (listed : Array Bool) (L : List (Nat × Cl)) (a : Act) (w : World), L.length = fuel → Closed ops listed → Rem ops listed L → pw ops rch false L = true → c2 L = true → c3 rch L = true →
      ((L.any fun x => isS x.2) = true → S w) → wpC P ops S Q L a w → wpAny P .any ops Q' fuel listed a w := by
  intro fuel
  induction fuel with
  | zero =>
    intro listed L a w hlen _ hrem _ _ _ _ h
    obtain rfl : L = [] := List.eq_nil_of_length_eq_zero hlen
    refine ⟨?_, hQ _ _ h⟩
    rcases hrd : Region.ready .any ops listed with _ | ⟨i, _⟩
    · rfl
    · have : i ∈ Region.ready .any ops listed := by rw [hrd]; simp
      obtain ⟨h0, _⟩ := mem_ready.1 this
      have := (hrem.mem i).2 h0
      simp at this
  | succ fuel ih =>
    intro listed L a w hlen hcl hrem hpw hc2 hc3 hS h
    have hne : L ≠ [] := by intro e; subst e; simp at hlen
    refine ⟨fun h0 => absurd h0 (hrdy listed L hrem hne), fun i hi => ?_⟩
    obtain ⟨r1, c, r2, rfl⟩ := hrem.split hi
    have hunl : ∀ x ∈ r1 ++ (i, c) :: r2, listed.getD x.1 false = false := fun x hx =>
      getD_flip ((hrem.mem x.1).1 (List.mem_map.2 ⟨x, hx, rfl⟩))
    have hnr : ∀ x ∈ r1 ++ (i, c) :: r2, rch x.1 i = false := fun x hx => by
      cases hx' : rch x.1 i with
      | false => rfl
      | true => have := hr listed hrem.size hcl i hi x.1 hx'; rw [hunl x hx] at this; cases this
    have hok : ∀ x ∈ r1, okP ops x (i, c) = true := fun x hx => by
      rcases pw_head r1 (by intro hf; cases hf) hpw x hx with h | h
      · rw [hnr x (by simp [hx])] at h; cases h
      · exact h
    have hb := bubble hsel r1 a w hok hc2 hS h
    have hpw' := pw_drop r1 (by intro hf; cases hf) hpw
    have hlen' : (r1 ++ r2).length = fuel := by simp only [List.length_append, List.length_cons] at hlen ⊢; omega
    cases hc : isE c with
    | false =>
      rw [wpC_pure_iff hc] at hb
      obtain ⟨o, ho, v, hp, hrest⟩ := hb
      have hT : Tw S c w := by
        cases hs : isS c with
        | true => exact Tw.of (hS (any_of_mem (x := (i, c)) (by simp) hs))
        | false =>
          cases c with
          | W => exact trivial
          | H => cases hs
          | Q => cases hs
          | E s => cases hc
      exact wpOp_pure ho hT hp (ih _ (r1 ++ r2) _ _ hlen' (closed_set hcl hi) hrem.step hpw' (c2_drop r1 hc2) (c3_drop hc3) (fun hh => hS (any_drop hh)) hrest)
    | true =>
      cases c with
      | E s =>
        obtain ⟨o, ho, hop⟩ := hb
        refine wpOp_mono ?_ (wpOp_opE (Q' := Q') ho hop)
        intro a' w' ⟨hs, hrest⟩
        refine ih _ (r1 ++ r2) _ _ hlen' (closed_set hcl hi) hrem.step hpw' (c2_drop r1 hc2) (c3_drop hc3) (fun hh => ?_) hrest
        obtain ⟨y, hy, hyS⟩ := List.any_eq_true.1 hh
        have hy' : y ∈ r1 ++ (i, Cl.E s) :: r2 := by
          simp only [List.mem_append, List.mem_cons] at hy ⊢
          rcases hy with h | h
          · exact .inl h
          · exact .inr (.inr h)
        rcases c3_E hc3 (x := (i, Cl.E s)) (by simp) rfl hy' hyS with h | h
        · exact hs h
        · rw [hnr y hy'] at h; cases h
      | _ => cases hc


theorem rdy_of {listed : Array Bool} {L : List (Nat × Cl)} (hedge : ∀ (i : Nat) o, ops[i]? = some o → ∀ e ∈ o.after, Region.binds .any e = true → e.on < i) (hrem : Rem ops listed L) (hne : L ≠ []) : Region.ready .any ops listed ≠ [] := by
  have hex : ∃ i, listed.getD i true = false := by
    obtain ⟨x, hx⟩ := List.exists_mem_of_ne_nil L hne
    exact ⟨x.1, (hrem.mem x.1).1 (List.mem_map.2 ⟨x, hx, rfl⟩)⟩
  have hleast : ∀ n i, i = n → listed.getD i true = false → ∃ k, listed.getD k true = false ∧ ∀ j, j < k → listed.getD j true = true := by
    intro n
    induction n using Nat.strongRecOn with
    | _ n ih =>
      intro i hi h
      by_cases hall : ∀ j, j < i → listed.getD j true = true
      · exact ⟨i, h, hall⟩
      · simp only [Classical.not_forall] at hall
        obtain ⟨j, hj, hj2⟩ := hall
        exact ih j (by omega) j rfl (by simpa using hj2)
  obtain ⟨i, hi⟩ := hex
  obtain ⟨k, hk, hlt⟩ := hleast i i rfl hi
  have hkl : k < listed.size := by
    rcases Nat.lt_or_ge k listed.size with h' | h'
    · exact h'
    · simp [Array.getElem?_eq_none h'] at hk
  have hko : k < ops.size := by rw [← hrem.size]; exact hkl
  intro h0
  have : k ∈ Region.ready .any ops listed := by
    rw [mem_ready]
    refine ⟨hk, ops[k], Array.getElem?_eq_getElem hko, fun e he hb => ?_⟩
    have hlt' := hedge k _ (Array.getElem?_eq_getElem hko) e he hb
    have h1 := hlt _ hlt'
    have h2 : e.on < listed.size := by omega
    simp [h2] at h1 ⊢
    exact h1
  rw [h0] at this
  simp at this

/-! ### the certificate: A i: a bit for each operation that comes ahead of i whatever the order -/
def ancOr (A : List Nat) (es : List Edge) : Nat := es.foldl (fun s e => if Region.binds .any e then s ||| (2 ^ e.on ||| A.getD e.on 0) else s) 0

def chkA (ops : Array Oper) (A : List Nat) : Bool :=
  (List.range ops.size).all fun i => match ops[i]? with
    | none => false
    | some o => (o.after.toList.all fun e => !Region.binds .any e || decide (e.on < i)) && A.getD i 0 == ancOr A o.after.toList

theorem ancOr_bit {A : List Nat} {es : List Edge} {j : Nat} (h : (ancOr A es).testBit j = true) : ∃ e ∈ es, Region.binds .any e = true ∧ (e.on = j ∨ (A.getD e.on 0).testBit j = true) := by
  have gen : ∀ (es : List Edge) (s : Nat), (es.foldl (fun s e => if Region.binds .any e then s ||| (2 ^ e.on ||| A.getD e.on 0) else s) s).testBit j = true → s.testBit j = true ∨ ∃ e ∈ es, Region.binds .any e = true ∧ (e.on = j ∨ (A.getD e.on 0).testBit j = true) := by
    intro es
    induction es with
    | nil => intro s h; exact .inl h
    | cons e es ih =>
      intro s h
      rw [List.foldl_cons] at h
      rcases ih _ h with h | ⟨e', he', h⟩
      · split at h
        · rename_i hb
          rw [Nat.testBit_or, Nat.testBit_or, Bool.or_eq_true, Bool.or_eq_true] at h
          rcases h with h | h | h
          · exact .inl h
          · exact .inr ⟨e, by simp, hb, .inl (by rw [Nat.testBit_two_pow] at h; simpa using h)⟩
          · exact .inr ⟨e, by simp, hb, .inr h⟩
        · exact .inl h
      · exact .inr ⟨e', by simp [he'], h⟩
  rcases gen es 0 h with h | h
  · simp at h
  · exact h

theorem chkA_at {A : List Nat} (h : chkA ops A = true) {i : Nat} {o : Oper} (ho : ops[i]? = some o) : (∀ e ∈ o.after, Region.binds .any e = true → e.on < i) ∧ A.getD i 0 = ancOr A o.after.toList := by
  unfold chkA at h
  rw [List.all_eq_true] at h
  have := h i (List.mem_range.2 (Array.getElem?_eq_some_iff.1 ho).1)
  rw [ho] at this
  simp only [Bool.and_eq_true, List.all_eq_true, Bool.or_eq_true, Bool.not_eq_true', decide_eq_true_eq, beq_iff_eq] at this
  exact ⟨fun e he hb => (this.1 e (by simpa using he)).resolve_left (by simp [hb]), this.2⟩

def rchA (A : List Nat) (j i : Nat) : Bool := (A.getD i 0).testBit j

theorem reaches_of {A : List Nat} (h : chkA ops A = true) : Reaches ops (rchA A) := by
  intro listed hsz hcl
  have claim : ∀ (n k : Nat), k = n → listed.getD k false = true → ∀ j, (A.getD k 0).testBit j = true → listed.getD j false = true := by
    intro n
    induction n using Nat.strongRecOn with
    | _ n ih =>
      intro k hk hl j hj
      have hkl : k < listed.size := by
        rcases Nat.lt_or_ge k listed.size with h' | h'
        · exact h'
        · simp [Array.getElem?_eq_none h'] at hl
      have ho : ops[k]? = some ops[k] := Array.getElem?_eq_getElem (by omega)
      obtain ⟨h1, h2⟩ := chkA_at h ho
      rw [h2] at hj
      obtain ⟨e, he, hb, hj⟩ := ancOr_bit hj
      have he' : e ∈ (ops[k]).after := by simpa using he
      have hle := hcl k _ ho hl e he' hb
      rcases hj with rfl | hj
      · exact hle
      · exact ih e.on (by have := h1 e he' hb; omega) e.on rfl hle j hj
  intro i hi j hj
  obtain ⟨_, o, ho, hall⟩ := mem_ready.1 hi
  obtain ⟨h1, h2⟩ := chkA_at h ho
  unfold rchA at hj
  rw [h2] at hj
  obtain ⟨e, he, hb, hj⟩ := ancOr_bit hj
  have he' : e ∈ o.after := by simpa using he
  rcases hj with rfl | hj
  · exact hall e he' hb
  · exact claim e.on e.on rfl (hall e he' hb) j hj

def chkL (ops : Array Oper) (A : List Nat) (f : Bool) (L : List (Nat × Cl)) : Bool :=
  L.length == ops.size && ((List.range ops.size).all fun i => (L.map (·.1)).contains i) && pw ops (rchA A) f L && c2 L && c3 (rchA A) L

theorem nodup_of_range : ∀ (n : Nat) (l : List Nat), l.length = n → (∀ i, i < n → i ∈ l) → l.Nodup ∧ ∀ i ∈ l, i < n := by
  intro n
  induction n with
  | zero => intro l hl _; have := List.eq_nil_of_length_eq_zero hl; subst this; simp
  | succ n ih =>
    intro l hl hm
    obtain ⟨r1, r2, rfl⟩ := List.append_of_mem (hm n (by omega))
    have := ih (r1 ++ r2) (by simp only [List.length_append, List.length_cons] at hl ⊢; omega) (fun i hi => by
      have := hm i (by omega)
      simp only [List.mem_append, List.mem_cons] at this ⊢
      rcases this with h | h | h
      · exact .inl h
      · omega
      · exact .inr h)
    obtain ⟨h1, h2⟩ := this
    refine ⟨?_, fun i hi => ?_⟩
    · have hn : n ∉ r1 ++ r2 := fun h => absurd (h2 n h) (by omega)
      rw [List.nodup_append] at h1 ⊢
      refine ⟨h1.1, ?_, ?_⟩
      · rw [List.nodup_cons]
        exact ⟨fun h => hn (List.mem_append_right _ h), h1.2.1⟩
      · intro a ha b hb
        rcases List.mem_cons.1 hb with rfl | hb
        · intro e; subst e; exact hn (List.mem_append_left _ ha)
        · exact h1.2.2 a ha b hb
    · simp only [List.mem_append, List.mem_cons] at hi
      rcases hi with h | h | h
      · have := h2 i (List.mem_append_left _ h); omega
      · omega
      · have := h2 i (List.mem_append_right _ h); omega

theorem rem_start {A : List Nat} {f : Bool} {L : List (Nat × Cl)} (h : chkL ops A f L = true) : Rem ops (Array.replicate ops.size false) L := by
  unfold chkL at h
  simp only [Bool.and_eq_true, beq_iff_eq, List.all_eq_true, List.contains_iff_mem] at h
  obtain ⟨⟨⟨⟨h1, h2⟩, _⟩, _⟩, _⟩ := h
  obtain ⟨g1, g2⟩ := nodup_of_range ops.size (L.map (·.1)) (by simpa using h1) (fun i hi => h2 i (List.mem_range.2 hi))
  refine ⟨by simp, fun i => ⟨fun hi => ?_, fun hi => ?_⟩, g1⟩
  · have := g2 i hi
    simp [this]
  · refine h2 i (List.mem_range.2 ?_)
    rcases Nat.lt_or_ge i ops.size with h' | h'
    · exact h'
    · simp [h'] at hi

theorem closed_start : Closed ops (Array.replicate ops.size false) := by
  intro j o hj hl
  have : (Array.replicate ops.size false).getD j false = false := by
    rcases Nat.lt_or_ge j ops.size with h | h
    · simp [h]
    · simp [h]
  rw [this] at hl
  cases hl

def chk1 (ops : Array Oper) (A : List Nat) (L : List (Nat × Cl)) : Bool := Region.noSelect ops && chkA ops A && chkL ops A false L

/-- A REGION THAT DRAWS, WALKED IN ONE ORDER. -/
theorem wp_reg {id : Nat} {l : List Oper} {Q' : Exit → Act → World → Prop} {a : Act} {w : World} (A : List Nat) (L : List (Nat × Cl)) (S : World → Prop) (hm : P.follows .mixedOrders = true) (hchk : chk1 l.toArray A L = true)
    (hS : (L.any fun x => isS x.2) = true → S w.drew) (h : wpC P l.toArray S (Q' .normal) L a w.drew) : (Code.region id l.toArray true).wp P Q' a w := by
  refine wp_region_any hm ?_
  unfold chk1 at hchk
  simp only [Bool.and_eq_true] at hchk
  obtain ⟨⟨h1, h2⟩, h3⟩ := hchk
  have h3' := h3
  unfold chkL at h3'
  simp only [Bool.and_eq_true, beq_iff_eq] at h3'
  exact main1 h1 (reaches_of h2) (fun _ _ h => h) (fun listed L hrem hne => rdy_of (fun i o ho => (chkA_at h2 ho).1) hrem hne) l.toArray.size _ L a _ h3'.1.1.1.1 closed_start (rem_start h3) h3'.1.1.2 h3'.1.2 h3'.2 hS h

/-! ### several orders of the effects -/
def firstE : List (Nat × Cl) → Option Nat
  | [] => none
  | (i, c) :: r => if isE c then some i else firstE r

theorem firstE_split {i : Nat} : ∀ {L : List (Nat × Cl)}, firstE L = some i → ∃ r1 c r2, L = r1 ++ (i, c) :: r2 ∧ isE c = true ∧ ∀ x ∈ r1, isE x.2 = false
  | [], h => by cases h
  | (j, c) :: r, h => by
    unfold firstE at h
    cases hc : isE c with
    | true =>
      rw [hc] at h
      obtain rfl : j = i := by simpa using h
      exact ⟨[], c, r, rfl, hc, fun x hx => by cases hx⟩
    | false =>
      rw [hc] at h
      obtain ⟨r1, c', r2, rfl, h1, h2⟩ := firstE_split (L := r) (by simpa using h)
      exact ⟨(j, c) :: r1, c', r2, rfl, h1, fun x hx => by
        rcases List.mem_cons.1 hx with rfl | hx
        · exact hc
        · exact h2 x hx⟩

theorem firstE_drop {i : Nat × Cl} {r2 : List (Nat × Cl)} (hi : isE i.2 = false) : ∀ (r1 : List (Nat × Cl)), firstE (r1 ++ i :: r2) = firstE (r1 ++ r2)
  | [] => by
    obtain ⟨k, c⟩ := i
    simp only at hi
    simp [firstE, hi]
  | (j, c) :: r1 => by
    simp only [List.cons_append, firstE]
    rw [firstE_drop hi r1]

/-- whatever effect may come up first, one of the lists begins with it; ec: which operations are effects -/
structure Cov (ops : Array Oper) (rch : Nat → Nat → Bool) (ec : Nat → Bool) (listed : Array Bool) (Ls : List (List (Nat × Cl))) : Prop where
  cls : ∀ L ∈ Ls, ∀ x ∈ L, isE x.2 = ec x.1 ∧ x.2 ≠ .Q
  first : ∀ i, listed.getD i true = false → ec i = true → (∃ j, listed.getD j true = false ∧ ec j = true ∧ rch j i = true) ∨ ∃ L ∈ Ls, firstE L = some i

theorem main2 {rch : Nat → Nat → Bool} {ec : Nat → Bool} (hsel : Region.noSelect ops = true) (hr : Reaches ops rch) {Q' : Exit → Act → World → Prop} (hQ : ∀ a w, Q a w → Q' .normal a w) (hrdy : ∀ listed L, Rem ops listed L → L ≠ [] → Region.ready .any ops listed ≠ []) :
    ∀ (fuel : Nat) (listed : Array Bool) (Ls : List (List (Nat × Cl))) (a : Act) (w : World), Ls ≠ [] → Closed ops listed → Cov ops rch ec listed Ls →
      (∀ L ∈ Ls, L.length = fuel ∧ Rem ops listed L ∧ pw ops rch true L = true ∧ c2 L = true ∧ c3 rch L = true ∧ ((L.any fun x => isS x.2) = true → S w) ∧ wpC P ops S Q L a w) → wpAny P .any ops Q' fuel listed a w := by
  intro fuel
  induction fuel with
  | zero =>
    intro listed Ls a w hne _ _ hall
    obtain ⟨L, hL⟩ := List.exists_mem_of_ne_nil Ls hne
    obtain ⟨hlen, hrem, _, _, _, _, h⟩ := hall L hL
    obtain rfl : L = [] := List.eq_nil_of_length_eq_zero hlen
    refine ⟨?_, hQ _ _ h⟩
    rcases hrd : Region.ready .any ops listed with _ | ⟨i, _⟩
    · rfl
    · have : i ∈ Region.ready .any ops listed := by rw [hrd]; simp
      obtain ⟨h0, _⟩ := mem_ready.1 this
      have := (hrem.mem i).2 h0
      simp at this
  | succ fuel ih =>
    intro listed Ls a w hne hcl hcov hall
    obtain ⟨L0, hL0⟩ := List.exists_mem_of_ne_nil Ls hne
    have hne0 : L0 ≠ [] := by intro e; have := (hall L0 hL0).1; subst e; simp at this
    refine ⟨fun h0 => absurd h0 (hrdy listed L0 (hall L0 hL0).2.1 hne0), fun i hi => ?_⟩
    have hi0 : listed.getD i true = false := (mem_ready.1 hi).1
    have hnr : ∀ j, listed.getD j true = false → rch j i = false := fun j hj => by
      cases hx' : rch j i with
      | false => rfl
      | true => have := hr listed (hall L0 hL0).2.1.size hcl i hi j hx'; rw [getD_flip hj] at this; cases this
    cases hec : ec i with
    | false =>
      -- a pure operation: taken in each list
      have each : ∀ L ∈ Ls, ∃ r1 c r2, L = r1 ++ (i, c) :: r2 ∧ isE c = false ∧ c ≠ .Q ∧ ∃ o, ops[i]? = some o ∧ ∃ v, PY P ops S c o v a ∧ Tw S c w ∧ wpC P ops S Q (r1 ++ r2) (a.put o.dst v) w := by
        intro L hL
        obtain ⟨hlen, hrem, hpw, hc2, hc3, hS, h⟩ := hall L hL
        obtain ⟨r1, c, r2, rfl⟩ := hrem.split hi
        obtain ⟨hc, hcq⟩ := hcov.cls _ hL (i, c) (by simp)
        simp only at hc hcq
        rw [hec] at hc
        have hok : ∀ x ∈ r1, okP ops x (i, c) = true := fun x hx => by
          rcases pw_head r1 (by intro _ h; simp only at h; rw [hc] at h; cases h) hpw x hx with h | h
          · rw [hnr x.1 ((hrem.mem x.1).1 (List.mem_map.2 ⟨x, by simp [hx], rfl⟩))] at h; cases h
          · exact h
        have hb := bubble hsel r1 a w hok hc2 hS h
        rw [wpC_pure_iff hc] at hb
        obtain ⟨o, ho, v, hp, hrest⟩ := hb
        have hT : Tw S c w := by
          cases hs : isS c with
          | true => exact Tw.of (hS (any_of_mem (x := (i, c)) (by simp) hs))
          | false =>
            cases c with
            | W => exact trivial
            | H => cases hs
            | Q => cases hs
            | E s => cases hc
        exact ⟨r1, c, r2, rfl, hc, hcq, o, ho, v, hp, hT, hrest⟩
      obtain ⟨_, c0, _, _, hc0, hq0, o, ho, v, hp, hT, _⟩ := each L0 hL0
      refine wpOp_pure (S := S) ho hT hp ?_
      refine ih _ (Ls.map fun L => L.filter fun x => x.1 != i) _ _ (by simpa using hne) (closed_set hcl hi) ?_ ?_
      · constructor
        · intro L hL x hx
          obtain ⟨L', hL', rfl⟩ := List.mem_map.1 hL
          exact hcov.cls L' hL' x ((List.mem_filter.1 hx).1)
        · intro j hj hecj
          have hij : i ≠ j := by rintro rfl; rw [hec] at hecj; cases hecj
          rw [getD_set_ne true hij] at hj
          rcases hcov.first j hj hecj with ⟨k, hk, hek, hkj⟩ | ⟨L, hL, hf⟩
          · have hik : i ≠ k := by rintro rfl; rw [hec] at hek; cases hek
            exact .inl ⟨k, by rw [getD_set_ne true hik]; exact hk, hek, hkj⟩
          · refine .inr ⟨_, List.mem_map.2 ⟨L, hL, rfl⟩, ?_⟩
            obtain ⟨r1, c, r2, rfl, hc, _⟩ := each L hL
            have hnd := (hall _ hL).2.1.nodup
            have hfil : ((r1 ++ (i, c) :: r2).filter fun x => x.1 != i) = r1 ++ r2 := by
              simp only [List.map_append, List.map_cons] at hnd
              rw [List.nodup_append] at hnd
              obtain ⟨_, h2, h3⟩ := hnd
              rw [List.nodup_cons] at h2
              rw [List.filter_append, List.filter_cons]
              simp only [bne_self_eq_false, Bool.false_eq_true, if_false]
              rw [List.filter_eq_self.2, List.filter_eq_self.2]
              · intro x hx
                simp only [bne_iff_ne]
                intro e
                exact h2.1 (by rw [← e]; exact List.mem_map.2 ⟨x, hx, rfl⟩)
              · intro x hx
                simp only [bne_iff_ne]
                intro e
                exact h3 x.1 (List.mem_map.2 ⟨x, hx, rfl⟩) i (by simp) e
            rw [hfil, ← firstE_drop (i := (i, c)) hc r1]
            exact hf
      · intro L hL
        obtain ⟨L', hL', rfl⟩ := List.mem_map.1 hL
        obtain ⟨r1, c, r2, rfl, hc, hcq, o', ho', v', hp', hT', hrest⟩ := each L' hL'
        obtain rfl : o = o' := Option.some.inj (ho.symm.trans ho')
        obtain rfl : v = v' := PY.uniq hq0 hcq hp hp' hT hT'
        obtain ⟨hlen, hrem, hpw, hc2, hc3, hS, _⟩ := hall _ hL'
        have hnd := hrem.nodup
        have hfil : ((r1 ++ (i, c) :: r2).filter fun x => x.1 != i) = r1 ++ r2 := by
          simp only [List.map_append, List.map_cons] at hnd
          rw [List.nodup_append] at hnd
          obtain ⟨_, h2, h3⟩ := hnd
          rw [List.nodup_cons] at h2
          rw [List.filter_append, List.filter_cons]
          simp only [bne_self_eq_false, Bool.false_eq_true, if_false]
          rw [List.filter_eq_self.2, List.filter_eq_self.2]
          · intro x hx
            simp only [bne_iff_ne]
            intro e
            exact h2.1 (by rw [← e]; exact List.mem_map.2 ⟨x, hx, rfl⟩)
          · intro x hx
            simp only [bne_iff_ne]
            intro e
            exact h3 x.1 (List.mem_map.2 ⟨x, hx, rfl⟩) i (by simp) e
        rw [hfil]
        exact ⟨by simp only [List.length_append, List.length_cons] at hlen ⊢; omega, hrem.step, pw_drop r1 (fun _ => hc) hpw, c2_drop r1 hc2, c3_drop hc3, fun hh => hS (any_drop hh), hrest⟩
    | true =>
      rcases hcov.first i hi0 hec with ⟨j, hj, _, hji⟩ | ⟨L, hL, hf⟩
      · rw [hnr j hj] at hji; cases hji
      · obtain ⟨hlen, hrem, hpw, hc2, hc3, hS, h⟩ := hall L hL
        obtain ⟨r1, c, r2, rfl, hc, hr1⟩ := firstE_split hf
        have hunl : ∀ x ∈ r1 ++ (i, c) :: r2, listed.getD x.1 true = false := fun x hx =>
          (hrem.mem x.1).1 (List.mem_map.2 ⟨x, hx, rfl⟩)
        have hok : ∀ x ∈ r1, okP ops x (i, c) = true := fun x hx => by
          rcases pw_head r1 (fun _ _ => hr1) hpw x hx with h | h
          · rw [hnr x.1 (hunl x (by simp [hx]))] at h; cases h
          · exact h
        have hb := bubble hsel r1 a w hok hc2 hS h
        have hpw' := pw_first (i := (i, c)) hc r1 hr1 hpw
        cases c with
        | E s =>
          obtain ⟨o, ho, hop⟩ := hb
          refine wpOp_mono ?_ (wpOp_opE (Q' := Q') ho hop)
          intro a' w' ⟨hs, hrest⟩
          refine main1 hsel hr hQ hrdy fuel _ (r1 ++ r2) _ _ (by simp only [List.length_append, List.length_cons] at hlen ⊢; omega) (closed_set hcl hi) hrem.step hpw' (c2_drop r1 hc2) (c3_drop hc3) (fun hh => ?_) hrest
          obtain ⟨y, hy, hyS⟩ := List.any_eq_true.1 hh
          have hy' : y ∈ r1 ++ (i, Cl.E s) :: r2 := by
            simp only [List.mem_append, List.mem_cons] at hy ⊢
            rcases hy with h | h
            · exact .inl h
            · exact .inr (.inr h)
          rcases c3_E hc3 (x := (i, Cl.E s)) (by simp) rfl hy' hyS with h | h
          · exact hs h
          · rw [hnr y.1 (hunl y hy')] at h; cases h
        | _ => cases hc

def esOf (L : List (Nat × Cl)) : List Nat := (L.filter fun x => isE x.2).map (·.1)

def chk2 (ops : Array Oper) (A : List Nat) (L0 : List (Nat × Cl)) (Ls : List (List (Nat × Cl))) : Bool :=
  Region.noSelect ops && chkA ops A && ((L0 :: Ls).all fun L => chkL ops A true L && L.all fun x => isE x.2 == (esOf L0).contains x.1 && x.2 != .Q) &&
    (esOf L0).all fun i => ((esOf L0).any fun j => rchA A j i) || (L0 :: Ls).any fun L => firstE L == some i

/-- A REGION THAT DRAWS, WALKED IN SEVERAL ORDERS: one for each effect that may come up first. -/
theorem wp_reg2 {id : Nat} {l : List Oper} {Q' : Exit → Act → World → Prop} {a : Act} {w : World} (A : List Nat) (L0 : List (Nat × Cl)) (Ls : List (List (Nat × Cl))) (S : World → Prop) (hm : P.follows .mixedOrders = true) (hchk : chk2 l.toArray A L0 Ls = true)
    (hS : S w.drew) (h : ∀ L ∈ L0 :: Ls, wpC P l.toArray S (Q' .normal) L a w.drew) : (Code.region id l.toArray true).wp P Q' a w := by
  refine wp_region_any hm ?_
  unfold chk2 at hchk
  simp only [Bool.and_eq_true] at hchk
  obtain ⟨⟨⟨h1, h2⟩, h3⟩, h4⟩ := hchk
  rw [List.all_eq_true] at h3 h4
  have hL : ∀ L ∈ L0 :: Ls, chkL l.toArray A true L = true := fun L hL => by
    have := h3 L hL
    rw [Bool.and_eq_true] at this
    exact this.1
  refine main2 (S := S) (ec := fun i => (esOf L0).contains i) h1 (reaches_of h2) (fun _ _ h => h) (fun listed L hrem hne => rdy_of (fun i o ho => (chkA_at h2 ho).1) hrem hne) l.toArray.size _ (L0 :: Ls) a _ (by simp) closed_start ⟨fun L hL' x hx => ?_, fun i hi hec => ?_⟩ (fun L hL' => ?_)
  · have := h3 L hL'
    rw [Bool.and_eq_true, List.all_eq_true] at this
    have := this.2 x hx
    simpa using this
  · have hm : i ∈ esOf L0 := by simpa using hec
    have := h4 i hm
    rw [Bool.or_eq_true, List.any_eq_true, List.any_eq_true] at this
    rcases this with ⟨j, hj, hji⟩ | ⟨L, hL', hf⟩
    · refine .inl ⟨j, ?_, by simpa using hj, hji⟩
      have hrem := rem_start (hL L0 (by simp))
      refine (hrem.mem j).1 ?_
      unfold esOf at hj
      obtain ⟨x, hx, rfl⟩ := List.mem_map.1 hj
      exact List.mem_map.2 ⟨x, (List.mem_filter.1 hx).1, rfl⟩
    · exact .inr ⟨L, hL', by simpa using hf⟩
  · have h3' := hL L hL'
    unfold chkL at h3'
    simp only [Bool.and_eq_true, beq_iff_eq] at h3'
    exact ⟨h3'.1.1.1.1, rem_start (hL L hL'), h3'.1.1.2, h3'.1.2, h3'.2, fun _ => hS, h L hL'⟩

/-! ### steps -/
theorem wpC_nil {a : Act} {w : World} (h : Q a w) : wpC P ops S Q [] a w := h

theorem wpC_W {i : Nat} {r : List (Nat × Cl)} {o : Oper} {a : Act} {w : World} (hi : ops[i]? = some o)
    (h : ∀ K : Act → Prop, (∀ a', wpC P ops S Q r a' w → K a') → if Region.wanted o (yielded ops a.tmps) = true then ∃ v, (∀ w', (execOp a.eval o).run P w' = .ok (.value v) w') ∧ K (a.put o.dst v) else K (a.put o.dst undef)) :
    wpC P ops S Q ((i, .W) :: r) a w := by
  have := h _ (fun _ h => h)
  split at this
  · rename_i hw
    obtain ⟨v, hv, hk⟩ := this
    exact ⟨o, hi, v, .inl ⟨hw, fun w' _ => hv w'⟩, hk⟩
  · rename_i hw
    exact ⟨o, hi, undef, .inr ⟨by simpa using hw, rfl⟩, this⟩

theorem wpC_H {i : Nat} {r : List (Nat × Cl)} {o : Oper} {a : Act} {w : World} (hi : ops[i]? = some o)
    (h : ∀ K : Act → Prop, (∀ a', wpC P ops S Q r a' w → K a') → if Region.wanted o (yielded ops a.tmps) = true then ∃ v, (∀ w', S w' → (execOp a.eval o).run P w' = .ok (.value v) w') ∧ K (a.put o.dst v) else K (a.put o.dst undef)) :
    wpC P ops S Q ((i, .H) :: r) a w := by
  have := h _ (fun _ h => h)
  split at this
  · rename_i hw
    obtain ⟨v, hv, hk⟩ := this
    exact ⟨o, hi, v, .inl ⟨hw, fun w' hs => hv w' hs⟩, hk⟩
  · rename_i hw
    exact ⟨o, hi, undef, .inr ⟨by simpa using hw, rfl⟩, this⟩

theorem wpC_Q {i : Nat} {r : List (Nat × Cl)} {o : Oper} {a : Act} {w : World} (hi : ops[i]? = some o)
    (h : ∀ K : Act → Prop, (∀ a', wpC P ops S Q r a' w → K a') → if Region.wanted o (yielded ops a.tmps) = true then ∃ v, (∀ w', S w' → o.quietAt P a (fun x => x = w') w' v) ∧ K (a.put o.dst v) else K (a.put o.dst undef)) :
    wpC P ops S Q ((i, .Q) :: r) a w := by
  have := h _ (fun _ h => h)
  split at this
  · rename_i hw
    obtain ⟨v, hv, hk⟩ := this
    exact ⟨o, hi, v, .inl ⟨hw, fun w' hs => hv w' hs⟩, hk⟩
  · rename_i hw
    exact ⟨o, hi, undef, .inr ⟨by simpa using hw, rfl⟩, this⟩

theorem wpC_E {i : Nat} {s : Bool} {r : List (Nat × Cl)} {o : Oper} {a : Act} {w : World} (hi : ops[i]? = some o)
    (h : ∀ K : Act → World → Prop, (∀ a' w', (s = true → S w') → wpC P ops S Q r a' w' → K a' w') → if Region.wanted o (yielded ops a.tmps) = true then o.wp P a w K noQ else K (a.put o.dst undef) w) :
    wpC P ops S Q ((i, .E s) :: r) a w := by
  have := h (fun a' w' => (s = true → S w') ∧ wpC P ops S Q r a' w') (fun _ _ h1 h2 => ⟨h1, h2⟩)
  refine ⟨o, hi, ?_⟩
  unfold opE
  exact this

theorem wpC_H2 {i : Nat} {r : List (Nat × Cl)} {o : Oper} {a : Act} {w : World} (hi : ops[i]? = some o) (hw : Region.wanted o (yielded ops a.tmps) = true)
    (h : ∀ K : Act → Prop, (∀ a', wpC P ops S Q r a' w → K a') → ∃ v, (∀ w', S w' → (execOp a.eval o).run P w' = .ok (.value v) w') ∧ K (a.put o.dst v)) : wpC P ops S Q ((i, .H) :: r) a w :=
  have ⟨v, hv, hk⟩ := h _ (fun _ h => h)
  ⟨o, hi, v, .inl ⟨hw, fun w' hs => hv w' hs⟩, hk⟩

theorem wpC_N {i : Nat} {r : List (Nat × Cl)} {o : Oper} {a : Act} {w : World} (hi : ops[i]? = some o) (hw : Region.wanted o (yielded ops a.tmps) = false)
    (h : ∀ K : Act → Prop, (∀ a', wpC P ops S Q r a' w → K a') → K (a.put o.dst undef)) : wpC P ops S Q ((i, .H) :: r) a w :=
  ⟨o, hi, undef, .inr ⟨hw, rfl⟩, h _ (fun _ h => h)⟩

theorem wpC_Q2 {i : Nat} {r : List (Nat × Cl)} {o : Oper} {a : Act} {w : World} (hi : ops[i]? = some o) (hw : Region.wanted o (yielded ops a.tmps) = true)
    (h : ∀ K : Act → Prop, (∀ a', wpC P ops S Q r a' w → K a') → ∃ v, (∀ w', S w' → o.quietAt P a (fun x => x = w') w' v) ∧ K (a.put o.dst v)) : wpC P ops S Q ((i, .Q) :: r) a w :=
  have ⟨v, hv, hk⟩ := h _ (fun _ h => h)
  ⟨o, hi, v, .inl ⟨hw, fun w' hs => hv w' hs⟩, hk⟩

end

/-- of what was there every cell reads as it did -/
structure Old (W w' : World) : Prop where
  size : W.heap.size ≤ w'.heap.size
  cell : ∀ b o, b < W.heap.size → w'.cell? ⟨b, o, none⟩ = W.cell? ⟨b, o, none⟩

theorem Old.refl (W : World) : Old W W := ⟨Nat.le_refl _, fun _ _ _ => rfl⟩
theorem Old.drew {W w : World} (h : Old W w) : Old W w.drew := ⟨h.size, h.cell⟩
theorem Old.trans {W w w' : World} (h : Old W w) (h' : Old w w') : Old W w' :=
  ⟨Nat.le_trans h.size h'.size, fun b o hb => (h'.cell b o (Nat.lt_of_lt_of_le hb h.size)).trans (h.cell b o hb)⟩
theorem Old.grown {W w w' : World} (h : Old W w) (hg : w.grownBy w' none) : Old W w' :=
  h.trans ⟨hg.size, fun b o hb => World.cell?_of_block (hg.block b hb (by simp))⟩
theorem Old.below {W w w' : World} (h : Old W w) (hg : RowKit.Below w.heap.size w w') : Old W w' :=
  h.trans ⟨hg.size, fun b o hb => hg.cell (p := ⟨b, o, none⟩) hb⟩
theorem Old.alloc {W w : World} (h : Old W w) (o : Obj) : Old W (w.alloc o) :=
  h.trans ⟨by simp, fun b o' hb => World.cell?_alloc_lt w o ⟨b, o', none⟩ hb⟩
theorem Old.setCell {W w : World} (h : Old W w) {p : Addr} (hp : W.heap.size ≤ p.block) (u : Value) : Old W (w.setCell p u) :=
  ⟨by simpa using h.size, fun b o hb => by
    rw [World.cell?_setCell_other w p ⟨b, o, none⟩ u (fun e => by subst e; simp only at hp; omega)]; exact h.cell b o hb⟩
end Go.Reg
