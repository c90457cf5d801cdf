/- A world is loaded just if its program is right and there is room for its globals, else the checker's error or ErrFull is told (the law MachineLoads, whatever the input). Conditions: none. This file: part N. -/
import Derived.Test.YtgghlkikgebipaaGreatG
set_option linter.all false

section
open Go Go.Av Go.Proofs
namespace Go.Tw
theorem mixed : Tryz.prog.follows .mixedOrders = true := by kernel_rfl
theorem fok : funcsOk Tryz.prog = true := by kernel_rfl
theorem hn : NoopSpec Tryz.prog noopN := by
  intro f hf cap args
  have : f = 158 := Nat.eq_of_beq_eq_true hf
  subst this
  have hf : Tryz.prog.funcs[158]? = some Tryz.f158 := by kernel_rfl
  exact quiet_recover hf (by kernel_rfl) (i := 0) (t1 := 1) (t2 := 2) rfl rfl rfl rfl rfl rfl rfl (by kernel_rfl) ⟨by decide, by decide⟩ rfl cap args
theorem x0ok : XOk Tryz.prog X0 := xok mixed hn fok
def isT : Option (AVal × Heap) → Bool
  | some (.bool true, _) => true
  | _ => false
def isGo : Option XFn → Bool
  | some (.go _) => true
  | _ => false
theorem isGo_spec {o : Option XFn} (h : isGo o = true) : ∃ x, o = some (.go x) := by
  unfold isGo at h
  split at h
  · exact ⟨_, rfl⟩
  · cases h
theorem isT_spec {o : Option (AVal × Heap)} (h : isT o = true) : ∃ h', o = some (.bool true, h') := by
  unfold isT at h
  split at h
  · exact ⟨_, rfl⟩
  · cases h
theorem runs : isT (callA X0 1000 50 5 [] Heap.empty) = true := by kernel_rfl
theorem isgo : isGo (X0.func 5) = true := by kernel_rfl
theorem bodied : (Tryz.prog.funcs[5]?.bind (·.body)).isSome = true := by kernel_rfl
theorem awake_const : ConstSpec Tryz.prog 5 (.bool true) := by
  obtain ⟨xfn, hx⟩ := isGo_spec isgo
  obtain ⟨h', hr⟩ := isT_spec runs
  obtain ⟨c, hc⟩ := Option.isSome_iff_exists.1 bodied
  obtain ⟨fn, hf, hc⟩ := Option.bind_eq_some_iff.1 hc
  exact const_of_run x0ok hf hc hx hr
theorem xok' : XOk Tryz.prog X := x0ok.know awake_const
end Go.Tw
end
