/- The document's Same, of two that are the same. No condition. -/
import Derived.Test.YtblbihodpjfcbaaCread3
namespace Go.Tr
open Go.RowKit Go.Proofs
set_option linter.unusedVariables false
set_option maxRecDepth 20000 in
set_option maxHeartbeats 4000000 in
theorem rsame_c (a : AA) (u u' : Value) (w : World) (hu : BS w u a.dl) (hu' : BS w u' a.dl) : Calls Try.prog 17 #[(a.at u).val, (a.at u').val] w fun e w' => e = .returned (.bool true) ∧ w.grownBy w' none := by
  obtain ⟨A, c, rfl, _⟩ := id hu
  obtain ⟨A', c', rfl, _⟩ := id hu'
  have h1 : ∀ o1 o2, (convert tBs tStr (.slice A a.dl.length c)).run Try.prog ((w.alloc o1).alloc o2) = .ok (.string ⟨a.dl.toArray⟩) ((w.alloc o1).alloc o2) := fun o1 o2 => run_convback _ A _ c a.dl ((hu.alloc _).alloc _)
  have h2 : ∀ o1 o2, (convert tBs tStr (.slice A' a.dl.length c')).run Try.prog ((w.alloc o1).alloc o2) = .ok (.string ⟨a.dl.toArray⟩) ((w.alloc o1).alloc o2) := fun o1 o2 => run_convback _ A' _ c' a.dl ((hu'.alloc _).alloc _)
  clear hu hu'
  generalize (⟨a.dl.toArray⟩ : ByteArray) = sd at h1 h2
  simp only [AA.at, AA.val, AA.cells]
  go_enter Try.func17, Try.ntmps17
  go_wp2
  go_ret
  exact ⟨rfl, gb_alloc (gb_alloc (gb_refl _ _) _) _⟩
end Go.Tr
