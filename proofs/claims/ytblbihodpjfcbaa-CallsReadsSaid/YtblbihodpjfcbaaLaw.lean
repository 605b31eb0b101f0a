/- A law of plain data: what is left to prove is the walk. For every law of this seat. -/
import Derived.Test.YtblbihodpjfcbaaRows
import Derived.Test.YtblbihodpjfcbaaBase
import Derived.WalkKit
import Derived.ProofKit
import Derived.OpenShut
import Derived.Carry
import Derived.DataShut
namespace Go.Tr
open Go.ChangeShapes Go.WideShapes Go.ChangeAt Go.RowKit Go.Proofs Go.Proofs.Ytblbihodpjfcbaa
set_option linter.unusedVariables false

theorem ownK : ownKnob Try.prog.godebug = none := by kernel_rfl
theorem laidOut : laidOutB Try.prog = true := by kernel_rfl

/-- arguments read as they did where no old block was turned -/
theorem trodAll_old {H : Type} {enc : TypeId × Value → H} {W W' : World} {sp : Nat → Bool} (hb : Below W.heap.size W W') : ∀ (ts : List TypeId) (vs : List Value) (ds : List (DataW H)) (ps : List MemPlace),
    (∀ t ∈ ts, Try.prog.readableRec t = true ∧ t < Try.prog.types.size) → (∀ x ∈ ps, x.block < W.heap.size) → (∀ x ∈ ps, sp x.block = true) →
    DataW.TrodAll enc Try.prog W 0 (fun _ => true) true ts vs ds ps → DataW.TrodAll enc Try.prog W' 0 sp true ts vs ds ps
  | [], vs, ds, ps, _, _, _, h => by
    obtain ⟨rfl, rfl, rfl⟩ := trodAll_nil h
    exact trodAll_mk0
  | t :: ts, vs, ds, ps, ht, hlt, hsp, h => by
    obtain ⟨v, vs1, d, ds1, a, b, rfl, rfl, rfl, h1, h2⟩ := trodAll_cons h
    have hta := ht t (by simp)
    exact trodAll_cons_mk (WideElems.Trod_stays laidOut hta.1 hta.2 h1 (fun x hx => hb.same (hlt x (by simp [hx]))) (fun x hx => hsp x (by simp [hx])))
      (trodAll_old hb ts vs1 ds1 b (fun u hu => ht u (by simp [hu])) (fun x hx => hlt x (by simp [hx])) (fun x hx => hsp x (by simp [hx])) h2)

theorem trodAll_len {H : Type} {enc : TypeId × Value → H} {W : World} {sp : Nat → Bool} : ∀ (ts : List TypeId) (vs : List Value) (ds : List (DataW H)) (ps : List MemPlace), DataW.TrodAll enc Try.prog W 0 sp true ts vs ds ps → ds.length = ts.length
  | [], vs, ds, ps, h => by
    obtain ⟨rfl, rfl, rfl⟩ := trodAll_nil h
    rfl
  | t :: ts, vs, ds, ps, h => by
    obtain ⟨v, vs1, d, ds1, a, b, rfl, rfl, rfl, h1, h2⟩ := trodAll_cons h
    simp [trodAll_len ts vs1 ds1 b h2]

/-- what the statement of a law asks, of a walk -/
theorem law_lift (os : Os) (started : os.Started) (H : Type) (enc : TypeId × Value → H) {fid : FuncId} {f : Func} {s : ChangeSpec} {dom : List PathCond} (hno : Try.prog.inits.idxOf? fid = none) (hfn : Try.prog.funcs[fid]? = some f)
    (hw : ∃ (w : World) (tape : Tape) (i : Input), w.os = os ∧ (w.forCall tape i).Shaped Try.prog ∧ i.vars = [] ∧ Input.okWide Try.prog (w.forCall tape i) .any w.heap.size fid i ∧
      s.pre6 enc Try.prog f dom false (w.forCall tape i).memory i.args ∧ ({} : Assume).holds Try.prog (lone (Frame.enter Try.prog fid i.args .normal) [] (w.forCall tape i)))
    (hres : f.resultTypes = #[4]) (hv : s.vars = []) (hs : ∀ ds : List (DataW H), ds.length = f.params.size → s.fn H ds = { results := [.lit (.bool true)], args := ds })
    (hpar : ∀ t ∈ f.params.toList, Try.prog.readableRec t = true ∧ t < Try.prog.types.size)
    (walk : ∀ (W : World) (base : Nat) (args : Array Value) (ds : List (DataW H)) (p : List MemPlace), (∀ (j : Nat) t v, f.params[j]? = some t → args[j]? = some v → Value.okWide Try.prog W .any base t v) →
      DataW.TrodAll enc Try.prog W 0 (fun _ => true) true f.params.toList args.toList ds p → Calls Try.prog fid args W fun e W' => e = .returned (.bool true) ∧ W.grownBy W' none) :
    ReturnsInHanded {} Try.checked os fid .any (s.pre6 enc Try.prog f dom false) (s.post enc Try.prog f false true false false) := by
  refine returnsInHanded_of_change (C := Try.checked) ownK started hno hfn hw ?_
  intro W base args ds gs before hval hW hcnd _
  have hW' := hW
  obtain ⟨p, q, hA, hV, rfl, hfz, hnd⟩ := hW
  rw [hv] at hV
  obtain ⟨rfl, rfl⟩ := trodVars_none hV
  have hA2 : DataW.TrodAll enc Try.prog W 0 (fun _ => true) true f.params.toList args.toList ds p := hA
  have hlen : ds.length = f.params.size := by rw [trodAll_len _ _ _ _ hA2, Array.length_toList]
  refine (walk W base args ds p hval hA2).mono fun e W' ⟨he, hg⟩ => ?_
  subst he
  have hb := gb_below hg (Nat.le_refl _)
  have hlt : ∀ x ∈ p, x.block < W.heap.size := fun x hx => hW'.lt x (by simp [hx])
  have hargs : ∀ sp : Nat → Bool, (∀ x ∈ p, sp x.block = true) → DataW.TrodAll enc Try.prog W' 0 sp true f.params.toList args.toList (s.fn H (ds ++ [])).args p := fun sp hsp => by
    rw [List.append_nil, hs ds hlen]
    exact trodAll_old hb _ _ _ _ hpar hlt hsp hA2
  have hvars : ∀ sp : Nat → Bool, DataW.TrodVars enc Try.prog W' sp s.vars (s.fn H (ds ++ [])).vars [] := fun sp => by
    rw [hv, List.append_nil, hs ds hlen]
    rfl
  have hresR : ∀ (b : Nat) (sp : Nat → Bool) (hd : Bool), DataW.TrodAll enc Try.prog W' b sp hd f.resultTypes.toList ((Value.bool true).resultList f.resultTypes.size) (s.fn H (ds ++ [])).results [] := fun b sp hd => by
    rw [hres, List.append_nil, hs ds hlen]
    exact trodAll_cons_mk (shut_bool Try.underlying4 _) trodAll_mk0
  have hok := ok_one (W' := W') (f := f) (v := .bool true) hres rfl (okWide_bool_mk Try.underlying4 _)
  have hold : ∀ x ∈ p, (fun b => decide (b < W.heap.size)) x.block = true := fun x hx => by simpa using hlt x hx
  refine ⟨.bool true, rfl, ds, [], p ++ [], [], p, [], hW', hresR _ _ _, hargs _ hold, hvars _, World.keptBut_mono (fun x hx => ⟨hx, by simpa using hx⟩) (hb.frame _), fun _ => ?_⟩
  refine ⟨hok, _, _, ([] ++ p) ++ [], ⟨[] ++ p, [], trodAll_append (hargs _ (fun _ _ => rfl)) (hresR _ _ _), hvars _, rfl, ?_, ?_⟩, ?_⟩
  · intro b off hp
    have hin : MemPlace.cell b off ∈ p := by simpa using hp
    rw [hb.frozen (hlt _ hin)]
    exact hfz b off (by simpa using hin)
  · intro h
    cases h
  · intro x hx _
    simpa using hx
end Go.Tr
