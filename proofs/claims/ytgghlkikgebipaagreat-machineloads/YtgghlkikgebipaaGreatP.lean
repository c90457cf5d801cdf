/- A world is loaded just if its program is right and there is room for its globals, else the checker's error or ErrFull is told (the law MachineLoads, whatever the input). Conditions: none. This file: part P. -/
import Derived.Below
import Derived.Test.YtgghlkikgebipaaGreatG
import Derived.Test.YtgghlkikgebipaaGreatF
import Derived.Test.YtgghlkikgebipaaGreatM
import Derived.Test.YtgghlkikgebipaaGreatN
set_option linter.all false

section
open Go Go.Av Go.Proofs Go.Ck
namespace Go.Tw
set_option linter.unusedVariables false
section
variable {H : Type} {enc : TypeId × Value → H} {w : World}
theorem rInt : Rd enc Tryz.prog w 3 1 (fun n : Int => [I n]) (fun n => True) := (rd_int (k := .i64) (by kernel_rfl) (by kernel_rfl)).map id (fun _ => rfl) (fun _ _ => trivial)
theorem rBool : Rd enc Tryz.prog w 4 1 (fun b : Bool => [.bool b]) (fun _ => True) := rd_bool (by kernel_rfl) (by kernel_rfl)
theorem rStr : Rd enc Tryz.prog w 9 1 (fun l : List Nat => [.str l]) (fun l => (∀ x ∈ l, x < 256) ∧ l.length ≤ reachBytes) := rd_str (by kernel_rfl) (by kernel_rfl)
theorem rU64 : Rd enc Tryz.prog w 112 1 (fun n : Int => [.int .u64 n]) (fun n => 0 ≤ n ∧ n < 18446744073709551616) :=
  (rd_int (k := .u64) (by kernel_rfl) (by kernel_rfl)).map id (fun _ => rfl) (fun n h => by
    have h' : IntKind.u64.min ≤ n ∧ n ≤ IntKind.u64.max := by simpa [Lit.wf] using h
    have e1 : IntKind.u64.min = 0 := by decide
    have e2 : IntKind.u64.max = 18446744073709551615 := by decide
    rw [e1, e2] at h'
    show 0 ≤ n ∧ n < 18446744073709551616; omega)
def K47 (n : Nat) : Prop := n ≤ reachBytes
theorem K47.le {n : Nat} (h : K47 n) : (n : Int) ≤ 140737488355328 := by
  have : reachBytes = 140737488351232 := by decide
  simp only [K47] at h; omega
theorem rAtom : Rd enc Tryz.prog w 85 2 PAtom.enc (fun _ => True) :=
  (rd_struct (l := [(4, 0), (3, 1)]) (by kernel_rfl) (by kernel_rfl) (rdf_cons rBool (rdf_cons rInt rdf_nil))).map (fun p => ⟨p.1, p.2.1⟩) (fun _ => rfl) (fun _ _ => trivial)
theorem rAtoms : Rd enc Tryz.prog w 86 1 (fun s : Sl PAtom => [s.val PAtom.enc]) (fun s => K47 s.list.length) :=
  (rd_slice (e := 85) (by kernel_rfl) (by kernel_rfl) rAtom (by decide) (by decide +kernel)).map id (fun _ => rfl) (fun _ h => h.2)
theorem rInts : Rd enc Tryz.prog w 48 1 (fun s : Sl Int => [s.val fun n => [I n]]) (fun s => K47 s.list.length) :=
  (rd_slice (e := 3) (by kernel_rfl) (by kernel_rfl) rInt (by decide) (by decide +kernel)).map id (fun _ => rfl) (fun _ h => h.2)
theorem rClo : Rd enc Tryz.prog w 153 2 PClos.enc (fun c => K47 c.caps.list.length) :=
  (rd_struct (l := [(3, 0), (48, 1)]) (by kernel_rfl) (by kernel_rfl) (rdf_cons rInt (rdf_cons rInts rdf_nil))).map (fun p => ⟨p.1, p.2.1⟩) (fun _ => rfl) (fun _ h => h.2.1)
theorem rClos : Rd enc Tryz.prog w 87 1 (fun s : Sl PClos => [s.val PClos.enc]) (fun s => (∀ c ∈ s.list, K47 c.caps.list.length) ∧ K47 s.list.length) :=
  rd_slice (e := 153) (by kernel_rfl) (by kernel_rfl) rClo (by decide) (by decide +kernel)
theorem rBr : Rd enc Tryz.prog w 265 4 PBranch.enc (fun _ => True) :=
  (rd_struct (l := [(3, 0), (3, 1), (3, 2), (3, 3)]) (by kernel_rfl) (by kernel_rfl) (rdf_cons rInt (rdf_cons rInt (rdf_cons rInt (rdf_cons rInt rdf_nil))))).map (fun p => ⟨p.1, p.2.1, p.2.2.1, p.2.2.2.1⟩) (fun _ => rfl) (fun _ _ => trivial)
theorem rBrs : Rd enc Tryz.prog w 88 1 (fun s : Sl PBranch => [s.val PBranch.enc]) (fun s => K47 s.list.length) :=
  (rd_slice (e := 265) (by kernel_rfl) (by kernel_rfl) rBr (by decide) (by decide +kernel)).map id (fun _ => rfl) (fun _ h => h.2)
def NodeIn (n : PNode) : Prop := K47 n.args.list.length ∧ ((∀ c ∈ n.clos.list, K47 c.caps.list.length) ∧ K47 n.clos.list.length) ∧ K47 n.brs.list.length
theorem rNode : Rd enc Tryz.prog w 90 8 PNode.enc NodeIn :=
  (rd_struct (l := [(3, 0), (3, 1), (85, 2), (86, 4), (87, 5), (3, 6), (88, 7)]) (by kernel_rfl) (by kernel_rfl) (rdf_cons rInt (rdf_cons rInt (rdf_cons rAtom (rdf_cons rAtoms (rdf_cons rClos (rdf_cons rInt (rdf_cons rBrs rdf_nil)))))))).map
    (fun p => ⟨p.1, p.2.1, p.2.2.1, p.2.2.2.1, p.2.2.2.2.1, p.2.2.2.2.2.1, p.2.2.2.2.2.2.1⟩) (fun _ => rfl) (fun p h => ⟨h.2.2.2.1, h.2.2.2.2.1, h.2.2.2.2.2.2.1⟩)
theorem rNodes : Rd enc Tryz.prog w 25 1 (fun s : Sl PNode => [s.val PNode.enc]) (fun s => (∀ n ∈ s.list, NodeIn n) ∧ K47 s.list.length) :=
  rd_slice (e := 90) (by kernel_rfl) (by kernel_rfl) rNode (by decide) (by decide +kernel)
theorem rCode : Rd enc Tryz.prog w 151 4 PCode.enc (fun _ => True) :=
  (rd_struct (l := [(9, 0), (3, 1), (3, 2), (3, 3)]) (by kernel_rfl) (by kernel_rfl) (rdf_cons rStr (rdf_cons rInt (rdf_cons rInt (rdf_cons rInt rdf_nil))))).map (fun p => ⟨p.1, p.2.1, p.2.2.1, p.2.2.2.1⟩) (fun _ => rfl) (fun _ _ => trivial)
theorem rCodes : Rd enc Tryz.prog w 24 1 (fun s : Sl PCode => [s.val PCode.enc]) (fun s => K47 s.list.length) :=
  (rd_slice (e := 151) (by kernel_rfl) (by kernel_rfl) rCode (by decide) (by decide +kernel)).map id (fun _ => rfl) (fun _ h => h.2)
theorem rDecl : Rd enc Tryz.prog w 210 2 PCon.enc (fun _ => True) :=
  (rd_struct (l := [(9, 0), (3, 1)]) (by kernel_rfl) (by kernel_rfl) (rdf_cons rStr (rdf_cons rInt rdf_nil))).map (fun p => ⟨p.1, p.2.1⟩) (fun _ => rfl) (fun _ _ => trivial)
theorem rDecls : Rd enc Tryz.prog w 23 1 (fun s : Sl PCon => [s.val PCon.enc]) (fun s => K47 s.list.length) :=
  (rd_slice (e := 210) (by kernel_rfl) (by kernel_rfl) rDecl (by decide) (by decide +kernel)).map id (fun _ => rfl) (fun _ h => h.2)
theorem rNum : Rd enc Tryz.prog w 114 2 (fun p : Bool × Int => [.bool p.1, .int .u64 p.2]) (fun p => 0 ≤ p.2 ∧ p.2 < 18446744073709551616) :=
  (rd_struct (l := [(4, 0), (112, 1)]) (by kernel_rfl) (by kernel_rfl) (rdf_cons rBool (rdf_cons rU64 rdf_nil))).map (fun p => (p.1, p.2.1)) (fun _ => rfl) (fun _ h => h.2.1)
theorem rGlobal : Rd enc Tryz.prog w 116 3 PGlobal.enc (fun g => 0 ≤ g.bits ∧ g.bits < 18446744073709551616) :=
  (rd_struct (l := [(3, 0), (114, 1)]) (by kernel_rfl) (by kernel_rfl) (rdf_cons rInt (rdf_cons rNum rdf_nil))).map (fun p => ⟨p.1, p.2.1.1, p.2.1.2⟩) (fun _ => rfl) (fun _ h => h.2.1)
theorem rGlobals : Rd enc Tryz.prog w 26 1 (fun s : Sl PGlobal => [s.val PGlobal.enc]) (fun s => (∀ g ∈ s.list, 0 ≤ g.bits ∧ g.bits < 18446744073709551616) ∧ K47 s.list.length) :=
  rd_slice (e := 116) (by kernel_rfl) (by kernel_rfl) rGlobal (by decide) (by decide +kernel)
theorem rProg : Rd enc Tryz.prog w 28 5 PProg.enc PLaw :=
  (rd_struct (l := [(23, 0), (24, 1), (25, 2), (26, 3), (3, 4)]) (by kernel_rfl) (by kernel_rfl) (rdf_cons rDecls (rdf_cons rCodes (rdf_cons rNodes (rdf_cons rGlobals (rdf_cons rInt rdf_nil)))))).map
    (fun p => ⟨p.1, p.2.1, p.2.2.1, p.2.2.2.1, p.2.2.2.2.1⟩) (fun _ => rfl) (fun p h => by
      obtain ⟨h1, h2, ⟨h3, h4⟩, ⟨h5, h6⟩, _⟩ := h
      exact ⟨by have := h1.le; simp only [len]; omega, by have := h2.le; simp only [len]; omega, by have := h4.le; simp only [len]; omega, by have := h6.le; simp only [len]; omega,
        fun n hn => (h3 n hn).2.1.2.le, fun n hn => by have := (h3 n hn).1.le; simp only [len]; omega, fun n hn => by have := (h3 n hn).2.2.le; simp only [len]; omega,
        fun n hn x hx => by have := ((h3 n hn).2.1.1 x hx).le; simp only [len]; omega, h5⟩)
end
end Go.Tw
end

section
namespace Go.Proofs.YtgghlkikgebipaaGreat
open Go.RowKit Go.Av Go.Ck Go.Tw
set_option linter.unusedVariables false
theorem loads_calls {p : PProg} (hp : PLaw p) {words : Int} {W : World} {v0 : Value} (h0 : VR (Gh.old W) (.agg p.enc) v0) :
    Calls Tryz.prog 4 #[v0, .int .i64 words] W fun e W' => e = .returned (.bool true) ∧ Below W.heap.size W W' := by
  obtain ⟨v, h', hc, rfl⟩ := MachineLoads_w (h := Heap.empty) hp (words := words) (Q := fun v _ => v = .bool true) (fun _ => rfl)
  obtain ⟨lf, n, hr⟩ := callF_iff.1 hc
  have hf : X.func 4 = some (.go ⟨125, [rt 4], b_law19_MachineLoads⟩) := by kernel_rfl
  refine Calls.mono (calls_of_spec xok' hf hr (g := Gh.old W) (vs := #[v0, .int .i64 words]) (Sim.old W) (by simp only [VRs]; exact ⟨_, _, rfl, h0, _, _, rfl, by simp only [VR], rfl⟩)) fun e w' he => ?_
  obtain ⟨v, g', rfl, rfl, _, h4, h5⟩ := he
  simp only [VR] at h5
  subst h5
  exact ⟨rfl, h4.belowOld⟩

end Go.Proofs.YtgghlkikgebipaaGreat
end
