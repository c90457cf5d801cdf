/- A world is loaded just if its program is right and there is room for its globals, else the checker's error or ErrFull is told (the law MachineLoads, whatever the input). Conditions: none. This file: part C. -/
import Derived.Defers
import Derived.Orders
import Derived.Test.YtgghlkikgebipaaGreatB
import Derived.Test.YtgghlkikgebipaaGreatA
set_option linter.all false

section
/- What becomes of the relation when memory is made, written, let go. -/
namespace Go.Av
section
variable {P : Program} {g : Gh} {h : Heap}

theorem Heap.get_new (h : Heap) (x : Blk) (b : Pos) : (h.new x).get b = if h.next = b then some x else h.get b := by
  simp [Heap.get, Heap.new, Tr.get_put]
theorem Heap.get_put (h : Heap) (x : Blk) (c b : Pos) : (h.put c x).get b = if c = b then some x else h.get b := by
  simp [Heap.get, Heap.put, Tr.get_put]
theorem Heap.get_kill (h : Heap) (c b : Pos) : (h.kill c).get b = if c = b then none else h.get b := by
  simp [Heap.get, Heap.kill, Tr.get_put]

theorem Sim.live (hS : Sim g h) {b : Pos} {x : Blk} (hb : h.get b = some x) : ∃ R O, g.ρ b = some (R, O) := by
  have := hS.blk b x hb
  cases x
  · obtain ⟨R, O, c, e, hr, _⟩ := this; exact ⟨R, O, hr⟩
  · obtain ⟨R, O, es', c, hr, _⟩ := this; exact ⟨R, O, hr⟩

theorem Sim.lt (hS : Sim g h) {b : Pos} {x : Blk} (hb : h.get b = some x) {R O : Nat} (hr : g.ρ b = some (R, O)) : R < g.w.heap.size := by
  have := hS.blk b x hb
  cases x
  · obtain ⟨R', O', c, e, hr', hw, _⟩ := this
    rw [hr] at hr'; injection hr' with hr'; injection hr' with e1 _; subst e1
    exact (Array.getElem?_eq_some_iff.1 hw).1
  · obtain ⟨R', O', es', c, hr', hw, _⟩ := this
    rw [hr] at hr'; injection hr' with hr'; injection hr' with e1 _; subst e1
    exact (Array.getElem?_eq_some_iff.1 hw).1

theorem Sim.nextFresh (hS : Sim g h) : g.ρ h.next = none := by
  cases hr : g.ρ h.next with
  | none => rfl
  | some p => exact absurd (hS.fresh _ _ hr) (Nat.lt_irrefl _)

theorem Sim.kill (hS : Sim g h) (c : Pos) : Sim g (h.kill c) ∧ Step g h g (h.kill c) := by
  have hget : ∀ b x, (h.kill c).get b = some x → h.get b = some x := by
    intro b x hb; rw [Heap.get_kill] at hb; split at hb
    · cases hb
    · exact hb
  have hown : ∀ R, owned g (h.kill c) R → owned g h R := by
    rintro R ⟨b, x, O, hb, hr⟩; exact ⟨b, x, O, hget _ _ hb, hr⟩
  refine ⟨⟨fun b x hb => hS.blk b x (hget _ _ hb), fun b b' x x' R O O' hb hb' => hS.inj b b' x x' R O O' (hget _ _ hb) (hget _ _ hb'), fun b p hr => hS.fresh b p hr, fun R hR => ⟨(hS.im R hR).1, fun ho => (hS.im R hR).2 (hown R ho)⟩⟩, ?_⟩
  exact ⟨fun _ _ h => h, fun _ h => h, fun _ _ _ h => h, ⟨rfl, rfl, rfl⟩, Nat.le_refl _, fun R _ ho => ⟨rfl, fun h => ho (hown R h)⟩, fun R c e f h => ⟨c, f, h, rfl⟩⟩

/-- the world with a block more -/
def Gh.new (g : Gh) (b : Pos) (o : Obj) : Gh := { g with ρ := fun c => if b = c then some (g.w.heap.size, 0) else g.ρ c, w := { g.w with heap := g.w.heap.push o } }

theorem push_get (a : Array Obj) (o : Obj) (R : Nat) : (a.push o)[R]? = if R = a.size then some o else a[R]? := by
  rw [Array.getElem?_push]

theorem Sim.stepNew (hS : Sim g h) (x : Blk) (o : Obj) : Step g h (g.new h.next o) (h.new x) where
  rho b p hr := by
    have : ¬ h.next = b := by rintro rfl; rw [hS.nextFresh] at hr; cases hr
    simp [Gh.new, this, hr]
  im R hR := hR
  imo _ _ _ h := h
  rest := ⟨rfl, rfl, rfl⟩
  size := by simp [Gh.new]
  frame R hR ho := by
    refine ⟨?_, ?_⟩
    · simp only [Gh.new, push_get]; rw [if_neg (by omega)]
    · rintro ⟨b, y, O, hb, hr⟩
      simp only [Gh.new] at hr
      rw [Heap.get_new] at hb
      split at hr
      · injection hr with hr; injection hr with e1 _; omega
      · rename_i hne
        rw [if_neg hne] at hb
        exact ho ⟨b, y, O, hb, hr⟩
  shape R c e f hw := by
    refine ⟨c, f, ?_, rfl⟩
    have : R < g.w.heap.size := (Array.getElem?_eq_some_iff.1 hw).1
    simp only [Gh.new, push_get]; rw [if_neg (by omega)]; exact hw

theorem BR.mono {g' : Gh} {h' : Heap} (s : Step g h g' h') (hS : Sim g h) {b : Pos} {x : Blk} (hb : BR g b x) (hw : ∀ R O, g.ρ b = some (R, O) → g'.w.heap[R]? = g.w.heap[R]?) : BR g' b x := by
  cases x with
  | cells n t =>
    obtain ⟨R, O, c, e, hr, hh, hc⟩ := hb
    refine ⟨R, O, c, e, s.rho _ _ hr, (hw R O hr).trans hh, fun i a hi => ?_⟩
    obtain ⟨v, hv, hvr⟩ := hc i a hi
    exact ⟨v, hv, VR.mono s hS _ _ hvr⟩
  | map es =>
    obtain ⟨R, O, es', cl, hr, hh, hm⟩ := hb
    exact ⟨R, O, es', cl, s.rho _ _ hr, (hw R O hr).trans hh, MR.mono s hS _ _ hm⟩

theorem Sim.new (hS : Sim g h) (x : Blk) (o : Obj) (hx : BR (g.new h.next o) h.next x) : Sim (g.new h.next o) (h.new x) where
  blk b y hb := by
    rw [Heap.get_new] at hb
    split at hb
    · rename_i e; subst e; injection hb with hb; subst hb; exact hx
    · refine BR.mono (hS.stepNew x o) hS (hS.blk b y hb) fun R O hr => ?_
      have := hS.lt hb hr
      simp only [Gh.new, push_get]; rw [if_neg (by omega)]
  inj b b' y y' R O O' hb hb' hr hr' := by
    rw [Heap.get_new] at hb hb'
    simp only [Gh.new] at hr hr'
    split at hb <;> split at hb'
    · rename_i e e'; exact e.symm.trans e'
    · rename_i e e'
      rw [if_pos e] at hr; rw [if_neg e'] at hr'
      injection hr with hr; injection hr with e1 _
      have := hS.lt hb' hr'; omega
    · rename_i e e'
      rw [if_neg e] at hr; rw [if_pos e'] at hr'
      injection hr' with hr'; injection hr' with e1 _
      have := hS.lt hb hr; omega
    · rename_i e e'
      rw [if_neg e] at hr; rw [if_neg e'] at hr'
      exact hS.inj b b' y y' R O O' hb hb' hr hr'
  fresh b p hr := by
    simp only [Gh.new] at hr
    show b.val < h.next.succ.val
    rw [Pos.val_succ]
    split at hr
    · rename_i e; subst e; omega
    · have := hS.fresh b p hr; omega
  im R hR := by
    have h1 := hS.im R hR
    exact ⟨by simp [Gh.new]; omega, ((hS.stepNew x o).frame R h1.1 h1.2).2⟩

/-- a new row of cells -/
theorem newCells' (hS : Sim g h) {cs : List AVal} {ds : Array Value} (hc : ∀ (i : Nat) (a : AVal), cs[i]? = some a → ∃ v, ds[i]? = some v ∧ VR g a v) (e : TypeId) {n : Nat} {t : Bt AVal} (ht : ∀ i a, t.get i = some a → cs[i]? = some a) :
    Sim (g.new h.next (.cells ds e)) (h.new (.cells n t)) ∧ Step g h (g.new h.next (.cells ds e)) (h.new (.cells n t)) := by
  have st := hS.stepNew (.cells n t) (.cells ds e)
  refine ⟨hS.new _ _ ?_, st⟩
  refine ⟨g.w.heap.size, 0, ds, e, by simp [Gh.new], (by show (g.w.heap.push _)[g.w.heap.size]? = _; rw [push_get, if_pos rfl]), fun i a hi => ?_⟩
  obtain ⟨v, hv, hvr⟩ := hc i a (ht i a hi)
  exact ⟨v, by simpa using hv, VR.mono st hS _ _ hvr⟩

theorem newCells (hS : Sim g h) {cs : List AVal} {ds : Array Value} (hc : VRs g cs ds.toList) (e : TypeId) {n : Nat} {t : Bt AVal} (ht : ∀ i a, t.get i = some a → cs[i]? = some a) :
    Sim (g.new h.next (.cells ds e)) (h.new (.cells n t)) ∧ Step g h (g.new h.next (.cells ds e)) (h.new (.cells n t)) :=
  newCells' hS (fun i a hi => by obtain ⟨v, hv, hr⟩ := VRs.get hc hi; exact ⟨v, by simpa using hv, hr⟩) e ht

theorem newL (hS : Sim g h) {cs : List AVal} {ds : Array Value} (hc : VRs g cs ds.toList) (e : TypeId) :
    Sim (g.new h.next (.cells ds e)) (h.new (Blk.ofL cs)) ∧ Step g h (g.new h.next (.cells ds e)) (h.new (Blk.ofL cs)) :=
  newCells hS hc e fun i a hi => by rwa [Bt.get_ofL _ _ _ (Nat.le_refl _)] at hi

theorem run_newRow {w : World} (e : TypeId) (ds : Array Value) : (newRow e ds).run P w = .ok ⟨w.heap.size, 0, none⟩ { w with heap := w.heap.push (.cells ds e) } := by
  simp [newRow]

/-! stores -/
theorem sets_get {α : Type} : ∀ {l : List α} {t t' : Bt α} {i : Nat}, t.sets i l = some t' →
    (∀ j, j < l.length → (t.get (i + j)).isSome) ∧ ∀ k, t'.get k = (if i ≤ k ∧ k < i + l.length then l[k - i]? else t.get k)
  | [], t, t', i, h => by simp only [Bt.sets, Option.some.injEq] at h; subst h; exact ⟨by simp, fun k => by rw [if_neg (by simp)]⟩
  | x :: l, t, t', i, h => by
    simp only [Bt.sets] at h
    split at h
    · cases h
    · rename_i y hy
      obtain ⟨h1, h2⟩ := sets_get h
      refine ⟨?_, ?_⟩
      · intro j hj
        cases j with
        | zero => simp [hy]
        | succ j =>
          have := h1 j (by simp at hj; omega)
          rw [Bt.get_set, if_neg (by omega)] at this
          rwa [show i + (j + 1) = i + 1 + j from by omega]
      · intro k
        rw [h2 k, Bt.get_set]
        simp only [List.length_cons]
        by_cases hk : k = i
        · subst hk; rw [if_neg (by omega), if_pos rfl, if_pos (by omega)]; simp [hy]
        · by_cases hr : i + 1 ≤ k ∧ k < i + 1 + l.length
          · rw [if_pos hr, if_pos (by omega), show k - i = (k - (i + 1)) + 1 from by omega, List.getElem?_cons_succ]
          · rw [if_neg hr, if_neg (by omega), if_neg (by omega)]

/-- cells from a place on, set -/
def putCells (c : Array Value) (i : Nat) : List Value → Array Value
  | [] => c
  | v :: l => putCells (c.setIfInBounds i v) (i + 1) l
theorem size_putCells : ∀ (l : List Value) (c : Array Value) (i : Nat), (putCells c i l).size = c.size
  | [], _, _ => rfl
  | v :: l, c, i => by simp [putCells, size_putCells l]
theorem get_putCells : ∀ (l : List Value) (c : Array Value) (i k : Nat), (∀ j, j < l.length → i + j < c.size) → (putCells c i l)[k]? = if i ≤ k ∧ k < i + l.length then l[k - i]? else c[k]?
  | [], c, i, k, h => by rw [if_neg (by simp)]; rfl
  | v :: l, c, i, k, h => by
    have h0 := h 0 (by simp)
    rw [putCells, get_putCells l _ _ _ (fun j hj => by have := h (j + 1) (by simp; omega); simp; omega)]
    simp only [List.length_cons]
    by_cases hk : k = i
    · subst hk; rw [if_neg (by omega), if_pos (by omega)]; simp [Array.getElem?_setIfInBounds]; omega
    · by_cases hr : i + 1 ≤ k ∧ k < i + 1 + l.length
      · rw [if_pos hr, if_pos (by omega), show k - i = (k - (i + 1)) + 1 from by omega, List.getElem?_cons_succ]
      · rw [if_neg hr, if_neg (by omega), Array.getElem?_setIfInBounds, if_neg (by omega)]

theorem run_storeCells {R o : Nat} {e : TypeId} : ∀ (l : List Value) (i : Nat) (w : World) (c : Array Value), w.heap[R]? = some (Obj.cells c e (0, 0)) → (∀ j, j < l.length → o + i + j < c.size) → (∀ v ∈ l, v.oneCell' = true) →
    (storeCells ⟨R, o, none⟩ l i).run P w = .ok () { w with heap := w.heap.setIfInBounds R (.cells (putCells c (o + i) l) e (0, 0)) }
  | [], i, w, c, hw, _, _ => by
    simp only [storeCells, Sem.run_pure, putCells]
    congr 1
    obtain ⟨hR, hget⟩ := Array.getElem?_eq_some_iff.1 hw
    have : w.heap.setIfInBounds R (.cells c e (0, 0)) = w.heap := by
      apply Array.ext_getElem?
      intro k
      rw [Array.getElem?_setIfInBounds]
      split
      · rename_i hk; subst hk; exact hw.symm
      · rfl
    rw [this]
  | v :: l, i, w, c, hw, hl, hs => by
    obtain ⟨hR, hget⟩ := Array.getElem?_eq_some_iff.1 hw
    have hcell : w.cell? ⟨R, o + i, none⟩ = c[o + i]? := cell_of_cells hw
    have hlt : o + i < c.size := by have := hl 0 (by simp); omega
    have hfro : w.frozen? ⟨R, o + i, none⟩ = false := by simp [World.frozen?, hw]
    have hset : w.setCell ⟨R, o + i, none⟩ v = { w with heap := w.heap.setIfInBounds R (.cells (c.setIfInBounds (o + i) v) e (0, 0)) } := by
      simp only [World.setCell, Option.isSome_none, Bool.false_eq_true, if_false]
      congr 1
      apply Array.ext_getElem?
      intro k
      rw [Array.getElem?_modify, Array.getElem?_setIfInBounds]
      by_cases hk : R = k
      · subst hk; rw [if_pos rfl, if_pos rfl, if_pos hR, hw]; rfl
      · simp [hk]
    have hw2 : (w.setCell ⟨R, o + i, none⟩ v).heap[R]? = some (Obj.cells (c.setIfInBounds (o + i) v) e (0, 0)) := by
      rw [hset]; simp only [Array.getElem?_setIfInBounds, if_true, if_pos hR]
    have ih := run_storeCells (o := o) l (i + 1) (w.setCell ⟨R, o + i, none⟩ v) (c.setIfInBounds (o + i) v) hw2 (fun j hj => by have := hl (j + 1) (by simp; omega); simp; omega) (fun u hu => hs u (by simp [hu]))
    simp only [storeCells, Sem.run_bind, addr_add, run_store P w _ v .plain (hs v (by simp)), hcell, Array.getElem?_eq_getElem hlt, hfro, Bool.false_eq_true, if_false, Result.andThen_ok, ih, putCells]
    rw [hset]
    simp [Nat.add_assoc]

/-- the world with a block's cells set -/
def Gh.set (g : Gh) (R : Nat) (o : Obj) : Gh := { g with w := { g.w with heap := g.w.heap.setIfInBounds R o } }

theorem Sim.stepSet (hS : Sim g h) {b : Pos} {x y : Blk} {R O : Nat} (hb : h.get b = some x) (hr : g.ρ b = some (R, O)) (o : Obj)
    (hsh : ∀ (c : Array Value) (e : TypeId) (f : Nat × Nat), g.w.heap[R]? = some (Obj.cells c e f) → ∃ (c' : Array Value) (f' : Nat × Nat), o = Obj.cells c' e f' ∧ c'.size = c.size) : Step g h (g.set R o) (h.put b y) where
  rho _ _ h := h
  im _ h := h
  imo _ _ _ h := h
  rest := ⟨rfl, rfl, rfl⟩
  size := by simp [Gh.set]
  frame R' hR' ho := by
    have hne : ¬ R = R' := by rintro rfl; exact ho ⟨b, x, O, hb, hr⟩
    refine ⟨by simp [Gh.set, hne], ?_⟩
    rintro ⟨b', z, O', hb', hr'⟩
    rw [Heap.get_put] at hb'
    split at hb'
    · rename_i e; subst e; exact ho ⟨b, x, O', hb, hr'⟩
    · exact ho ⟨b', z, O', hb', hr'⟩
  shape R' c e f hw := by
    by_cases hne : R = R'
    · subst hne
      obtain ⟨c', f', rfl, hs⟩ := hsh c e f hw
      have hlt := hS.lt hb hr
      exact ⟨c', f', by simp [Gh.set, hlt], hs⟩
    · exact ⟨c, f, by simp [Gh.set, hne, hw], rfl⟩

theorem Sim.set (hS : Sim g h) {b : Pos} {x y : Blk} {R O : Nat} (hb : h.get b = some x) (hr : g.ρ b = some (R, O)) (o : Obj)
    (hsh : ∀ (c : Array Value) (e : TypeId) (f : Nat × Nat), g.w.heap[R]? = some (Obj.cells c e f) → ∃ (c' : Array Value) (f' : Nat × Nat), o = Obj.cells c' e f' ∧ c'.size = c.size)
    (hy : BR (g.set R o) b y) : Sim (g.set R o) (h.put b y) ∧ Step g h (g.set R o) (h.put b y) := by
  have st := hS.stepSet (y := y) hb hr o hsh
  refine ⟨⟨?_, ?_, ?_, ?_⟩, st⟩
  · intro b' z hb'
    rw [Heap.get_put] at hb'
    split at hb'
    · rename_i e; subst e; injection hb' with hb'; subst hb'; exact hy
    · rename_i hne
      refine BR.mono st hS (hS.blk b' z hb') fun R' O' hr' => ?_
      have : ¬ R = R' := by
        rintro rfl
        exact hne (hS.inj b b' x z R O O' hb hb' hr hr')
      simp [Gh.set, this]
  · intro b1 b2 z1 z2 R1 O1 O2 h1 h2 hr1 hr2
    rw [Heap.get_put] at h1 h2
    have g1 : ∃ z, h.get b1 = some z := by
      split at h1
      · rename_i e; subst e; exact ⟨x, hb⟩
      · exact ⟨_, h1⟩
    have g2 : ∃ z, h.get b2 = some z := by
      split at h2
      · rename_i e; subst e; exact ⟨x, hb⟩
      · exact ⟨_, h2⟩
    obtain ⟨z1', g1⟩ := g1
    obtain ⟨z2', g2⟩ := g2
    exact hS.inj b1 b2 z1' z2' R1 O1 O2 g1 g2 hr1 hr2
  · exact fun b p h => hS.fresh b p h
  · intro R' hR'
    have h1 := hS.im R' hR'
    exact ⟨by simpa [Gh.set] using h1.1, (st.frame R' h1.1 h1.2).2⟩

/-- cells of a block, stored -/
theorem storeAt_sound (hS : Sim g h) {b : Pos} {o : Nat} {vs : List AVal} {h' : Heap} (hst : storeAt h b o vs = some h') {us : List Value} (hv : VRs g vs us) {R O : Nat} (hr : g.ρ b = some (R, O)) :
    ∃ g', (storeCells ⟨R, O + o, none⟩ us).run P g.w = .ok () g'.w ∧ Sim g' h' ∧ Step g h g' h' := by
  unfold storeAt at hst
  split at hst
  · rename_i n t hb
    obtain ⟨hsc, hst⟩ := cond_some hst
    split at hst
    · rename_i t' ht
      injection hst with hst; subst hst
      obtain ⟨h1, h2⟩ := sets_get ht
      obtain ⟨R', O', c, e, hr', hw, hc⟩ := hS.blk _ _ hb
      rw [hr] at hr'; injection hr' with hr'; injection hr' with e1 e2; subst e1; subst e2
      have hl := VRs.length hv
      have hsz : ∀ j, j < us.length → O + o + j < c.size := by
        intro j hj
        have := h1 j (by omega)
        obtain ⟨a, ha⟩ := Option.isSome_iff_exists.1 this
        obtain ⟨v, hvv, _⟩ := hc _ _ ha
        have := (Array.getElem?_eq_some_iff.1 hvv).1
        omega
      have hone : ∀ v ∈ us, v.oneCell' = true := by
        intro v hm
        obtain ⟨i, hi⟩ := List.getElem?_of_mem hm
        have : i < vs.length := by have := (List.getElem?_eq_some_iff.1 hi).1; omega
        obtain ⟨y, hy, hyr⟩ := VRs.get hv (List.getElem?_eq_getElem this)
        rw [hi] at hy; injection hy with hy; subst hy
        exact VR.scalar hyr (List.all_eq_true.1 hsc _ (List.getElem_mem this))
      have hrun := run_storeCells (P := P) (R := R) (o := O + o) us 0 g.w c hw (by simpa using hsz) hone
      simp only [Nat.add_zero] at hrun
      have hset := hS.set (y := .cells n t') hb hr (.cells (putCells c (O + o) us) e (0, 0)) (by
        intro c' e' f' hw'
        rw [hw] at hw'; injection hw' with hw'; injection hw' with e1 e2 e3; subst e1; subst e2
        exact ⟨_, _, rfl, size_putCells _ _ _⟩)
      have st := hS.stepSet (y := .cells n t') hb hr (.cells (putCells c (O + o) us) e (0, 0)) (by
        intro c' e' f' hw'
        rw [hw] at hw'; injection hw' with hw'; injection hw' with e1 e2 e3; subst e1; subst e2
        exact ⟨_, _, rfl, size_putCells _ _ _⟩)
      refine ⟨_, hrun, hset ?_⟩
      refine ⟨R, O, putCells c (O + o) us, e, hr, by simp [Gh.set, hS.lt hb hr], fun i a hi => ?_⟩
      rw [h2 i] at hi
      rw [get_putCells _ _ _ _ hsz]
      split at hi
      · rename_i hin
        rw [if_pos (by omega)]
        obtain ⟨v, hv1, hv2⟩ := VRs.get hv hi
        exact ⟨v, by rw [show O + i - (O + o) = i - o from by omega]; exact hv1, VR.mono st hS _ _ hv2⟩
      · rename_i hin
        rw [if_neg (by omega)]
        obtain ⟨v, hv1, hv2⟩ := hc i a hi
        exact ⟨v, hv1, VR.mono st hS _ _ hv2⟩
    · cases hst
  · cases hst

end
end Go.Av
end

section
/- A row that is appended to: the old block dies, a new one has its place, or a place of its own. -/
namespace Go.Av
section
variable {P : Program} {g : Gh} {h : Heap}

/-- the same world, but for draws -/
def Gh.draw (g : Gh) : Gh := { g with w := { g.w with drawn := g.w.drawn + 1 } }

theorem Sim.draw (hS : Sim g h) : Sim g.draw h ∧ Step g h g.draw h := by
  have st : Step g h g.draw h := ⟨fun _ _ h => h, fun _ h => h, fun _ _ _ h => h, ⟨rfl, rfl, rfl⟩, Nat.le_refl _, fun R _ ho => ⟨rfl, ho⟩, fun R c e f h => ⟨c, f, h, rfl⟩⟩
  exact ⟨⟨fun b x hb => BR.mono st hS (hS.blk b x hb) fun _ _ _ => rfl, hS.inj, hS.fresh, hS.im⟩, st⟩

def Gh.move (g : Gh) (b : Pos) (R O : Nat) (o : Obj) : Gh := { g with ρ := fun c => if b = c then some (R, O) else g.ρ c, w := { g.w with heap := g.w.heap.setIfInBounds R o } }

theorem Sim.move (hS : Sim g h) {b : Pos} {n : Nat} {t : Bt AVal} (hb : h.get b = some (.cells n t)) {R O : Nat} (hr : g.ρ b = some (R, O)) {c c' : Array Value} {e : TypeId}
    (hw : g.w.heap[R]? = some (Obj.cells c e (0, 0))) (hsz : c'.size = c.size) {O2 : Nat} {cs : List AVal} (hcs : ∀ i a, cs[i]? = some a → ∃ v, c'[O2 + i]? = some v ∧ VR g a v) :
    Sim (g.move h.next R O2 (.cells c' e (0, 0))) ((h.kill b).new (Blk.ofL cs)) ∧ Step g h (g.move h.next R O2 (.cells c' e (0, 0))) ((h.kill b).new (Blk.ofL cs)) := by
  have hnb : ¬ h.next = b := by rintro rfl; rw [hS.nextFresh] at hr; cases hr
  have hlt := hS.lt hb hr
  have hget : ∀ d x, ((h.kill b).new (Blk.ofL cs)).get d = some x → (d = h.next ∧ x = Blk.ofL cs) ∨ (¬ h.next = d ∧ ¬ b = d ∧ h.get d = some x) := by
    intro d x hd
    rw [Heap.get_new] at hd
    have : (h.kill b).next = h.next := rfl
    rw [this] at hd
    split at hd
    · rename_i e1; injection hd with hd; exact .inl ⟨e1.symm, hd.symm⟩
    · rename_i e1
      rw [Heap.get_kill] at hd
      split at hd
      · cases hd
      · rename_i e2; exact .inr ⟨e1, e2, hd⟩
  have st : Step g h (g.move h.next R O2 (.cells c' e (0, 0))) ((h.kill b).new (Blk.ofL cs)) := by
    refine ⟨?_, fun _ h => h, fun _ _ _ h => h, ⟨rfl, rfl, rfl⟩, by simp [Gh.move], ?_, ?_⟩
    · intro d p hd
      have : ¬ h.next = d := by rintro rfl; rw [hS.nextFresh] at hd; cases hd
      simp [Gh.move, this, hd]
    · intro R' hR' ho
      have hne : ¬ R = R' := by rintro rfl; exact ho ⟨b, _, O, hb, hr⟩
      refine ⟨by simp [Gh.move, hne], ?_⟩
      rintro ⟨d, x, O', hd, hr'⟩
      rcases hget d x hd with ⟨rfl, rfl⟩ | ⟨h1, h2, h3⟩
      · simp only [Gh.move, if_true] at hr'
        injection hr' with hr'; injection hr' with e1 _; exact hne e1
      · simp only [Gh.move, if_neg h1] at hr'
        exact ho ⟨d, x, O', h3, hr'⟩
    · intro R' c0 e0 f0 hw0
      by_cases hne : R = R'
      · subst hne
        rw [hw] at hw0; injection hw0 with hw0; injection hw0 with e1 e2 e3; subst e1; subst e2
        exact ⟨c', (0, 0), by simp [Gh.move, hlt], hsz⟩
      · exact ⟨c0, f0, by simp [Gh.move, hne, hw0], rfl⟩
  refine ⟨⟨?_, ?_, ?_, ?_⟩, st⟩
  · intro d x hd
    rcases hget d x hd with ⟨rfl, rfl⟩ | ⟨h1, h2, h3⟩
    · refine ⟨R, O2, c', e, by simp [Gh.move], by simp [Gh.move, hlt], fun i a hi => ?_⟩
      rw [Bt.get_ofL _ _ _ (Nat.le_refl _)] at hi
      obtain ⟨v, hv, hvr⟩ := hcs i a hi
      exact ⟨v, hv, VR.mono st hS _ _ hvr⟩
    · refine BR.mono st hS (hS.blk d x h3) fun R' O' hr' => ?_
      have : ¬ R = R' := by
        rintro rfl
        exact h2 (hS.inj b d _ _ R O O' hb h3 hr hr')
      simp [Gh.move, this]
  · intro d d' x x' R' O' O'' hd hd' hr1 hr2
    rcases hget d x hd with ⟨rfl, rfl⟩ | ⟨h1, h2, h3⟩ <;> rcases hget d' x' hd' with ⟨rfl, rfl⟩ | ⟨h1', h2', h3'⟩
    · rfl
    · simp only [Gh.move, if_true] at hr1
      simp only [Gh.move, if_neg h1'] at hr2
      injection hr1 with hr1; injection hr1 with e1 _; subst e1
      exact absurd (hS.inj b d' _ _ R O O'' hb h3' hr hr2) h2'
    · simp only [Gh.move, if_true] at hr2
      simp only [Gh.move, if_neg h1] at hr1
      injection hr2 with hr2; injection hr2 with e1 _; subst e1
      exact absurd (hS.inj b d _ _ R O O' hb h3 hr hr1) h2
    · simp only [Gh.move, if_neg h1] at hr1
      simp only [Gh.move, if_neg h1'] at hr2
      exact hS.inj d d' x x' R' O' O'' h3 h3' hr1 hr2
  · intro d p hd
    show d.val < h.next.succ.val
    rw [Pos.val_succ]
    simp only [Gh.move] at hd
    split at hd
    · rename_i e1; subst e1; omega
    · have := hS.fresh d p hd; omega
  · intro R' hR'
    have h1 := hS.im R' hR'
    exact ⟨by simpa [Gh.move] using h1.1, (st.frame R' h1.1 h1.2).2⟩

/-! the cells of a slice -/
theorem elems_CR (hS : Sim g h) {es n : Nat} {x : AVal} {cs : List AVal} (he : elemsOf h es n x = some cs) {v : Value} (hv : VR g x v) :
    cs.length = n * es ∧ ((∃ R o sp m rc, v = .slice (some ⟨R, o, sp⟩) m rc ∧ n ≤ m ∧ CR g cs R o ∧ (cs = [] ∨ sp = none)) ∨ (v = .slice none 0 0 ∧ n = 0 ∧ cs = [])) := by
  unfold elemsOf at he
  split at he
  · obtain ⟨hb, he⟩ := cond_some he
    injection he with he; subst he
    simp only [VR] at hv
    have := Nat.eq_of_beq_eq_true hb
    exact ⟨by simp [this], .inr ⟨hv, this, rfl⟩⟩
  · rename_i b o m ex c es'
    obtain ⟨hb, he⟩ := cond_some he
    simp only [Bool.and_eq_true] at hb
    have h1 := Nat.le_of_ble_eq_true hb.1
    simp only [VR] at hv
    obtain ⟨R, O, rc, hr, rfl, _⟩ := hv
    split at he
    · rename_i n' t hb'
      obtain ⟨h2, h3⟩ := cells_CR hS hb' hr he
      exact ⟨h3, .inl ⟨R, O + o, none, m, rc, rfl, h1, h2, .inr rfl⟩⟩
    · cases he
  · rename_i m l
    obtain ⟨hb, he⟩ := cond_some he
    injection he with he; subst he
    simp only [Bool.and_eq_true] at hb
    have h1 := Nat.le_of_ble_eq_true hb.1
    have h2 := Nat.le_of_ble_eq_true hb.2
    simp only [VR] at hv
    obtain ⟨R, o, rc, sp, rfl, _, _, hc, hsp⟩ := hv
    refine ⟨by simp; omega, .inl ⟨R, o, sp, m, rc, rfl, h1, CR.take _ hc, hsp.imp (fun e => ?_) id⟩⟩
    have : n = 0 := by omega
    simp [this]
  · cases he

theorem run_firstCells (hS : Sim g h) {es n : Nat} {x : AVal} {cs : List AVal} (he : elemsOf h es n x = some cs) {v : Value} (hv : VR g x v) :
    ∃ ds : Array Value, (Builtin.firstCells es n v).run P g.w = .ok ds g.w ∧ VRs g cs ds.toList := by
  obtain ⟨hl, hc⟩ := elems_CR hS he hv
  rcases hc with ⟨R, o, sp, m, rc, rfl, hle, hc, hsp⟩ | ⟨rfl, rfl, rfl⟩
  · obtain ⟨ds, hd, hcell⟩ := CR_vals hc
    have hlen := VRs.length hd
    have hln : n * es = ds.length := by omega
    refine ⟨ds.toArray, ?_, by simpa using hd⟩
    simp only [Builtin.firstCells, hln]
    rcases hsp with rfl | rfl
    · have : ds = [] := List.length_eq_zero_iff.1 hlen.symm
      subst this
      exact run_loadCells_list (P := P) g.w ⟨R, o, sp⟩ [] (fun j v hj => by simp at hj)
    · exact run_loadCells_list (P := P) g.w ⟨R, o, none⟩ ds (fun j v hj => by rw [addr_add]; exact hcell j v hj)
  · exact ⟨#[], rfl, by simp [VRs]⟩

theorem run_lenOf {x : AVal} {n : Nat} (hl : lenOf x = some n) {v : Value} (hv : VR g x v) : (Builtin.lenOf v).run P g.w = .ok n g.w := by
  unfold lenOf at hl
  split at hl <;> (try (cases hl; done)) <;> injection hl with hl <;> subst hl <;> simp only [VR] at hv
  · subst hv; rfl
  · obtain ⟨R, O, rc, _, rfl, _⟩ := hv; rfl
  · obtain ⟨R, o, rc, sp, rfl, _⟩ := hv; rfl

theorem growBy_le (need : Nat) : ∀ (k c : Nat), c ≤ need → Builtin.growBy need k c ≤ 2 * need + 1000
  | 0, c, h => by simp only [Builtin.growBy]; omega
  | k + 1, c, h => by
    simp only [Builtin.growBy]
    split
    · omega
    · rename_i hc
      by_cases h2 : c + (c + 768) / 4 ≤ need
      · exact growBy_le need k _ h2
      · cases k with
        | zero => simp only [Builtin.growBy]; omega
        | succ k => simp only [Builtin.growBy]; rw [if_pos (by omega)]; omega
theorem nextcap_le {need c : Nat} (h : c < need) : Builtin.nextslicecap need c ≤ 2 * need + 1000 := by
  unfold Builtin.nextslicecap
  split
  · omega
  · split
    · omega
    · exact growBy_le need 4 c (by omega)

end
end Go.Av
end

section
/- The evaluator looks at no operand but those it lists. -/
namespace Go.Av

theorem map_parts {ρ ρ' : XOpd → AVal} {ps : List (Nat × Nat × XOpd)} (h : ∀ y ∈ partsL ps, ρ y = ρ' y) : (ps.map fun p => (p.1, p.2.1, ρ p.2.2)) = ps.map fun p => (p.1, p.2.1, ρ' p.2.2) :=
  List.map_congr_left fun p hp => by rw [h p.2.2 (List.mem_map.2 ⟨p, hp, rfl⟩)]

theorem map_oL {ρ ρ' : XOpd → AVal} {o : Option XOpd} (h : ∀ y ∈ oL o, ρ y = ρ' y) : o.map ρ = o.map ρ' := by
  cases o with
  | none => rfl
  | some x => simp only [Option.map_some, h x (by simp [oL])]

theorem map_l {ρ ρ' : XOpd → AVal} {l : List XOpd} (h : ∀ y ∈ l, ρ y = ρ' y) : l.map ρ = l.map ρ' := List.map_congr_left h

theorem pureA_congr {ρ ρ' : XOpd → AVal} (x : XPure) (h : ∀ y ∈ x.opds, ρ y = ρ' y) : pureA ρ x = pureA ρ' x := by
  cases x <;> simp only [XPure.opds] at h <;> simp only [pureA]
  case build z ps => rw [map_parts h]
  case mkFunc f a c => rw [map_l fun y hy => h y (by simp [hy]), map_l fun y hy => h y (by simp [hy])]
  case slice k x lo hi mx =>
    rw [h x (by simp), map_oL (o := lo) fun y hy => h y (by simp [hy]), map_oL (o := hi) fun y hy => h y (by simp [hy]), map_oL (o := mx) fun y hy => h y (by simp [hy])]
  case pick c a b => rw [h c (by simp), h a (by simp), h b (by simp)]
  case int op k x y => rw [h x (by simp), h y (by simp)]
  case shift l k x y => rw [h x (by simp), h y (by simp)]
  case str op x y => rw [h x (by simp), h y (by simp)]
  case eqs a b c x y => rw [h x (by simp), h y (by simp)]
  case nileq a b c x y => rw [h x (by simp), h y (by simp)]
  case addrArr a b x y => rw [h x (by simp), h y (by simp)]
  case addrSl a x y => rw [h x (by simp), h y (by simp)]
  case indexArr a b c x y => rw [h x (by simp), h y (by simp)]
  case indexStr x y => rw [h x (by simp), h y (by simp)]
  case minmax a b x y => rw [h x (by simp), h y (by simp)]
  all_goals (rename_i x; first | rw [h x (by simp)] | (rename_i z; rw [h z (by simp)]))

theorem readA_congr {hp : Heap} {ρ ρ' : XOpd → AVal} (x : XRead) (h : ∀ y ∈ x.opds, ρ y = ρ' y) : readA hp ρ x = readA hp ρ' x := by
  cases x <;> simp only [XRead.opds] at h <;> simp only [readA]
  case load a n x => rw [h x (by simp)]
  case lookup a ks z ok m k => rw [h m (by simp), h k (by simp)]
  case lenMap m => rw [h m (by simp)]

theorem effA_congr {hp : Heap} {ρ ρ' : XOpd → AVal} (x : XEff) (h : ∀ y ∈ x.opds, ρ y = ρ' y) : effA hp ρ x = effA hp ρ' x := by
  cases x <;> simp only [XEff.opds] at h <;> simp only [effA]
  case box n x => rw [h x (by simp)]
  case buildSlice es n z ps => rw [map_parts h]
  case mkSlice z bs l c => rw [h l (by simp), h c (by simp)]
  case store n a v => rw [h a (by simp), h v (by simp)]
  case mapUpdate a ks m k v => rw [h m (by simp), h k (by simp), h v (by simp)]
  case append es bs s x => rw [h s (by simp), h x (by simp)]
  case copy es d s => rw [h d (by simp), h s (by simp)]
  case clear z s => rw [h s (by simp)]

theorem opA_congr {call : CallFn} {noop : Nat → Bool} {hp : Heap} {ρ ρ' : XOpd → AVal} (x : XOp) (h : ∀ y ∈ x.opds, ρ y = ρ' y) : opA call noop hp ρ x = opA call noop hp ρ' x := by
  cases x <;> simp only [XOp.opds] at h <;> simp only [opA]
  case p x => rw [pureA_congr x h]
  case r x => rw [readA_congr x h]
  case f x => rw [effA_congr x h]
  case call g args => rw [h g (by simp), map_l fun y hy => h y (by simp [hy])]
  case dfr g => rw [h g (by simp)]

mutual
theorem eqV_eq : ∀ (a b : AVal), eqV a b = true → a = b
  | .bool x, b => by cases b <;> simp [eqV]
  | .int j x, b => by cases b <;> simp [eqV]
  | .float j x, b => by cases b <;> simp [eqV]
  | .str x, b => by cases b <;> simp [eqV]
  | .nilp, b => by cases b <;> simp [eqV]
  | .ptr x i, b => by cases b <;> simp [eqV]
  | .cptr l, b => by
    cases b <;> simp only [eqV, Bool.false_eq_true, false_implies]
    intro h; rw [eqVs_eq _ _ h]
  | .nils, b => by cases b <;> simp [eqV]
  | .slice x i n e c s, b => by cases b <;> simp [eqV]; intros; simp_all
  | .vec n l, b => by
    cases b <;> simp only [eqV, Bool.false_eq_true, false_implies, Bool.and_eq_true]
    rintro ⟨h1, h2⟩; rw [eqVs_eq _ _ h2, Nat.eq_of_beq_eq_true h1]
  | .nilmap, b => by cases b <;> simp [eqV]
  | .map x, b => by cases b <;> simp [eqV]
  | .func f l m, b => by
    cases b <;> simp only [eqV, Bool.false_eq_true, false_implies, Bool.and_eq_true]
    rintro ⟨⟨h1, h2⟩, h3⟩; rw [eqVs_eq _ _ h2, eqVs_eq _ _ h3, Nat.eq_of_beq_eq_true h1]
  | .nilFunc, b => by cases b <;> simp [eqV]
  | .iface t x, b => by
    cases b <;> simp only [eqV, Bool.false_eq_true, false_implies, Bool.and_eq_true]
    rintro ⟨h1, h2⟩; rw [eqV_eq _ _ h2, Nat.eq_of_beq_eq_true h1]
  | .nilIface, b => by cases b <;> simp [eqV]
  | .agg l, b => by
    cases b <;> simp only [eqV, Bool.false_eq_true, false_implies]
    intro h; rw [eqVs_eq _ _ h]
  | .tup l, b => by
    cases b <;> simp only [eqV, Bool.false_eq_true, false_implies]
    intro h; rw [eqVs_eq _ _ h]
theorem eqVs_eq : ∀ (a b : List AVal), eqVs a b = true → a = b
  | [], b => by cases b <;> simp [eqVs]
  | x :: l, b => by
    cases b <;> simp only [eqVs, Bool.false_eq_true, false_implies, Bool.and_eq_true]
    rintro ⟨h1, h2⟩; rw [eqV_eq _ _ h1, eqVs_eq _ _ h2]
end
mutual
theorem eqV_refl : ∀ (a : AVal), eqV a a = true
  | .bool x => by simp [eqV]
  | .int j x => by simp [eqV]
  | .float j x => by simp [eqV]
  | .str x => by simp [eqV]
  | .nilp => by simp [eqV]
  | .ptr x i => by simp [eqV]
  | .cptr l => by simp [eqV, eqVs_refl l]
  | .nils => by simp [eqV]
  | .slice x i n e c s => by simp [eqV]
  | .vec n l => by simp [eqV, eqVs_refl l]
  | .nilmap => by simp [eqV]
  | .map x => by simp [eqV]
  | .func f l m => by simp [eqV, eqVs_refl l, eqVs_refl m]
  | .nilFunc => by simp [eqV]
  | .iface t x => by simp [eqV, eqV_refl x]
  | .nilIface => by simp [eqV]
  | .agg l => by simp [eqV, eqVs_refl l]
  | .tup l => by simp [eqV, eqVs_refl l]
theorem eqVs_refl : ∀ (a : List AVal), eqVs a a = true
  | [] => rfl
  | x :: l => by simp [eqVs, eqV_refl x, eqVs_refl l]
end
theorem sameS_eq {a b : AVal} (h : sameS a b = true) : a = b := by
  unfold sameS at h
  split at h <;> first | exact eqV_eq _ _ h | (simp_all; done) | rfl
theorem sameS_refl (a : AVal) : sameS a a = true := by
  cases a <;> simp [sameS, eqV_refl]

theorem sameL_eq : ∀ {a b : List AVal}, sameL a b = true → a = b
  | [], [], _ => rfl
  | [], _ :: _, h => by simp [sameL] at h
  | _ :: _, [], h => by simp [sameL] at h
  | a :: l, b :: m, h => by
    simp only [sameL, Bool.and_eq_true] at h
    rw [sameS_eq h.1, sameL_eq h.2]

theorem sameA_eq {a b : AVal} (h : sameA a b = true) : a = b := by
  unfold sameA at h
  split at h
  · rw [sameL_eq h]
  · exact sameS_eq h

theorem sameL_refl : ∀ a : List AVal, sameL a a = true
  | [] => rfl
  | x :: l => by simp [sameL, sameS_refl, sameL_refl l]
theorem sameA_refl (a : AVal) : sameA a a = true := by
  cases a <;> simp [sameA, sameS_refl, sameL_refl]
theorem sameRead_of {h : Heap} {ρ : XOpd → AVal} {x : XRead} {v : AVal} (hr : readA h ρ x = some v) : sameRead h ρ x v = true := by
  simp only [sameRead, hr, sameA_refl]

theorem sameRead_eq {h : Heap} {ρ : XOpd → AVal} {x : XRead} {v : AVal} (hs : sameRead h ρ x v = true) : readA h ρ x = some v := by
  unfold sameRead at hs
  split at hs
  · rename_i u hu; rw [hu, sameA_eq hs]
  · cases hs

/-! what makes a block -/
inductive AK where
  | ptr
  | slice (l c es : Nat)
  | map

def AK.val : AK → Pos → AVal
  | .ptr, b => .ptr b 0
  | .slice l c es, b => .slice b 0 l true c es
  | .map, b => .map b

def allocA (ρ : XOpd → AVal) : XEff → Option (AK × Blk)
  | .alloc z => some (.ptr, Blk.ofL z)
  | .box n x => bif Nat.beq (ρ x).cells.length n then some (.ptr, Blk.ofL (ρ x).cells) else none
  | .buildSlice es n z ps => match fills (repl n z) (ps.map fun p => (p.1, p.2.1, ρ p.2.2)) with
    | some cs => some (.slice n n es, Blk.ofL cs)
    | none => none
  | .mkMap => some (.map, .map [])
  | .mkSlice z bytes l c => match asNat (ρ l), asNat (ρ c) with
    | some l, some c => bif Nat.ble l c && Nat.ble (c * bytes) 140737488355328 && Nat.ble c 1073741824 then
        some (.slice l c z.length, mkRow z c) else none
    | _, _ => none
  | _ => none

theorem effA_alloc {h h' : Heap} {ρ : XOpd → AVal} {x : XEff} {v : AVal} (hal : XOp.isAl (.f x) = true) (he : effA h ρ x = some (v, h')) :
    ∃ k b, allocA ρ x = some (k, b) ∧ v = k.val h.next ∧ h' = h.new b := by
  cases x <;> simp only [XOp.isAl, Bool.false_eq_true] at hal <;> simp only [effA] at he <;> simp only [allocA]
  case alloc z => injection he with he; injection he with h1 h2; exact ⟨_, _, rfl, h1.symm, h2.symm⟩
  case mkMap => injection he with he; injection he with h1 h2; exact ⟨_, _, rfl, h1.symm, h2.symm⟩
  case box n x =>
    cases hc : Nat.beq (ρ x).cells.length n with
    | false => simp [hc] at he
    | true => simp only [hc, cond_true] at he ⊢; injection he with he; injection he with h1 h2; exact ⟨_, _, rfl, h1.symm, h2.symm⟩
  case buildSlice es n z ps =>
    split at he
    · rename_i cs hcs
      injection he with he; injection he with h1 h2
      exact ⟨.slice n n es, _, by simp only [hcs], h1.symm, h2.symm⟩
    · cases he
  case mkSlice z bs l c =>
    split at he
    · rename_i l' c' hl hcc
      cases hc : Nat.ble l' c' && Nat.ble (c' * bs) 140737488355328 && Nat.ble c' 1073741824 with
      | false => simp [hc] at he
      | true =>
        simp only [hc, cond_true] at he; injection he with he; injection he with h1 h2
        exact ⟨.slice l' c' z.length, _, by simp only [hl, hcc, hc, cond_true], h1.symm, h2.symm⟩
    · cases he

end Go.Av
end

section
/- append. -/
namespace Go.Av
section
variable {P : Program} {g : Gh} {h : Heap}

theorem size_zeroCells (z : Array Value) (n : Nat) : (Builtin.zeroCells z n).size = n * z.size := by simp [Builtin.zeroCells]

theorem run_choose_cap (w : World) (need old : Nat) (e : TypeId) (_ : need < 2 ^ 63) : ∃ cap, need ≤ cap ∧ (choose (.appendCap need old e)).run P w = .ok cap { w with drawn := w.drawn + 1 } := by
  refine ⟨need + w.tape w.drawn (.appendCap need old e) % (2 ^ 63 - need), by omega, ?_⟩
  simp [choose, Sem.run, Question.forced, Question.cut]

theorem append_sound (hS : Sim g h) {es bytes : Nat} {s x : AVal} {a : AVal} {h' : Heap} (ha : appendA h es bytes s x = some (a, h')) {t u e : TypeId} {z : AVal} {argTypes : Array TypeId} {ty : TypeId} {d : TypeId}
    (ht : argTypes[0]? = some t) (hu : argTypes[1]? = some u) (hte : P.underlying t = some (.slice e)) (hud : P.underlying u = some (.slice d)) (hes : sizeT P e = some es) (hbs : bytesT P e = some bytes) (hz : zeroT P e = some z)
    (hzl : es = z.cells.length) (hbp : 0 < bytes) {vs vx : Value} (hvs : VR g s vs) (hvx : VR g x vx) :
    ∃ v g', (Builtin.append_ argTypes ty #[vs, vx]).run P g.w = .ok v g'.w ∧ Sim g' h' ∧ Step g h g' h' ∧ VR g' a v := by
  unfold appendA at ha
  split at ha
  · cases ha
  · rename_i n hn
    split at ha
    · cases ha
    · rename_i new hnew
      have hrl := run_lenOf (P := P) hn hvx
      obtain ⟨nds, hrf, hnd⟩ := run_firstCells (P := P) hS hnew hvx
      have hnl := (elems_CR hS hnew hvx).1
      have hnlen := VRs.length hnd
      simp only [Array.length_toList] at hnlen
      obtain ⟨zv, hzr, hzo⟩ := run_zeroT' (w := g.draw.w) hz
      have hzc : zv.cells.size = es := by
        have := VRs.length (VR.cells (ofValue_VR g zv z hzo)); simp only [Array.length_toList] at this; omega
      obtain ⟨ti, hti, htis, _⟩ := sizeT_info hes
      have htb : ti.bytes = bytes := by unfold bytesT at hbs; rw [hti] at hbs; injection hbs
      have htinfo : ∀ w, (typeInfo e).run P w = .ok ti w := fun w => by simp [typeInfo, hti]
      -- what a growing append comes to
      have grow : ∀ (base : Option Addr) (len cap : Nat) (old : Array Value), vs = .slice base len cap → cap < len + n → (2 * (len + n) + 1000) * bytes ≤ 281474976710656 →
          (Builtin.firstCells es len vs).run P g.draw.w = .ok old g.draw.w → ∀ nds : Array Value, (Builtin.firstCells es n vx).run P g.draw.w = .ok nds g.draw.w →
          ∃ rc, len + n ≤ rc ∧ ∃ rest : Array Value, rest.size = (rc - (len + n)) * es ∧ (Builtin.append_ argTypes ty #[vs, vx]).run P g.w = .ok (.slice (some ⟨g.draw.w.heap.size, 0, none⟩) (len + n) rc) { g.draw.w with heap := g.draw.w.heap.push (.cells (old ++ nds ++ rest) e) } := by
        intro base len cap old hb hlt hbound hold nds hnew2
        subst hb
        have hneed : len + n < 2 ^ 63 := by
          have h1 : (2 * (len + n) + 1000) * 1 ≤ (2 * (len + n) + 1000) * bytes := Nat.mul_le_mul_left _ hbp
          omega
        obtain ⟨rc, hrc, hch⟩ := run_choose_cap (P := P) g.w (len + n) cap e hneed
        refine ⟨rc, hrc, Builtin.zeroCells zv.cells (rc - (len + n)), by rw [size_zeroCells, hzc], ?_⟩
        have hncap : ¬ (Builtin.nextslicecap (len + n) cap * ti.bytes > 2 ^ 48) := by
          have h1 := nextcap_le hlt
          have h2 : Builtin.nextslicecap (len + n) cap * ti.bytes ≤ (2 * (len + n) + 1000) * bytes := by rw [htb]; exact Nat.mul_le_mul_right _ h1
          omega
        have hb0 : ¬ (ti.bytes = 0) := by omega
        have hno : ¬ (len + n ≤ cap) := by omega
        have hch' : (choose (.appendCap (len + n) cap e)).run P g.w = .ok rc g.draw.w := hch
        unfold Builtin.append_
        simp only [ht, hu, List.getElem?_toArray, List.getElem?_cons_zero, List.getElem?_cons_succ, Sem.run_bind, run_underlying hte, run_underlying hud, Result.andThen_ok, run_sizeT hes, Sem.run_pure,
          Bool.false_eq_true, if_false, Sem.run_ite, hrl, hno, htinfo, false_or, hb0, and_false, hncap, hch', run_askRoom, hold, Bool.not_false, if_true, hnew2, hzr, run_newRow]
      -- what one that fits comes to
      have fits : ∀ (base : Option Addr) (len cap : Nat), vs = .slice base len cap → len + n ≤ cap → ∀ w', (match base with | some a => storeCells (a.add (len * es)) nds.toList | none => pure () : Sem Unit).run P g.w = .ok () w' →
          (Builtin.append_ argTypes ty #[vs, vx]).run P g.w = .ok (.slice base (len + n) cap) w' := by
        intro base len cap hb hle w' hst
        subst hb
        unfold Builtin.append_
        simp only [ht, hu, List.getElem?_toArray, List.getElem?_cons_zero, List.getElem?_cons_succ, Sem.run_bind, run_underlying hte, run_underlying hud, Result.andThen_ok, run_sizeT hes, Sem.run_pure,
          Bool.false_eq_true, if_false, Sem.run_ite, hrl, hle, Bool.not_false, if_true, hrf]
        cases base with
        | none =>
          simp only [Sem.run_pure, Result.ok.injEq, true_and] at hst; subst hst
          simp only [Sem.run_pure]
        | some b => simp only at hst; simp only [Sem.run_bind, hst, Result.andThen_ok, Sem.run_pure]
      obtain ⟨hSd, std⟩ := hS.draw
      obtain ⟨nds2, hrf2, hnd2⟩ := run_firstCells (P := P) hSd hnew (VR.mono std hS _ _ hvx)
      split at ha
      · -- nil
        simp only [VR] at hvs
        cases hb : Nat.beq n 0 with
        | true =>
          have hn0 := Nat.eq_of_beq_eq_true hb
          subst hn0
          simp at ha
          obtain ⟨rfl, rfl⟩ := ha
          exact ⟨_, g, fits none 0 0 hvs (by omega) g.w rfl, hS, Step.refl _ _, by simp only [VR]⟩
        | false =>
          simp only [hb, cond_false] at ha
          obtain ⟨hbd, ha⟩ := cond_some ha
          injection ha with ha; injection ha with ha1 ha2; subst ha1; subst ha2
          have hbd' := Nat.le_of_ble_eq_true hbd
          have hn0 : 0 < n := by
            cases n with
            | zero => simp at hb
            | succ n => omega
          obtain ⟨rc, hrc, rest, hrest, hrun⟩ := grow none 0 0 #[] hvs (by omega) (by simpa using hbd') (by rw [hvs]; rfl) nds2 hrf2
          have hcs : ∀ (i : Nat) (a : AVal), new[i]? = some a → ∃ v, (#[] ++ nds2 ++ rest)[i]? = some v ∧ VR g.draw a v := by
            intro i a hi
            obtain ⟨v, hv, hvr⟩ := VRs.get hnd2 hi
            refine ⟨v, ?_, hvr⟩
            have hlt := (List.getElem?_eq_some_iff.1 hv).1
            simp only [Array.length_toList] at hlt
            rw [Array.getElem?_append_left (by simpa using hlt)]
            simpa using hv
          obtain ⟨hS2, st2⟩ := newCells' hSd hcs e (n := new.length) (t := Bt.ofL new.length new) (fun i a hi => by rwa [Bt.get_ofL _ _ _ (Nat.le_refl _)] at hi)
          refine ⟨_, _, hrun, hS2, std.trans st2, ?_⟩
          simp only [VR]
          refine ⟨g.draw.w.heap.size, 0, rc, by simp [Gh.new], by simp, by simp, by omega, Nat.le_refl _, _, e, (0, 0), (by show (g.draw.w.heap.push _)[g.draw.w.heap.size]? = _; rw [push_get, if_pos rfl]), ?_⟩
          have hl2 := VRs.length hnd2
          simp only [Array.length_toList] at hl2
          simp only [Array.size_append, hrest]
          have : n * es + (rc - n) * es = rc * es := by rw [← Nat.add_mul]; congr 1; omega
          simp; omega
      · -- a slice of the call's own
        rename_i b o len ex c es'
        obtain ⟨hb, ha⟩ := cond_some ha
        have e0 := Nat.eq_of_beq_eq_true hb
        subst e0
        have hvs' := hvs
        simp only [VR] at hvs'
        obtain ⟨R, O, rc0, hr, hvse, hex, hc, hlen, hroom⟩ := hvs'
        cases hfit : Nat.ble (len + n) c with
        | true =>
          simp only [hfit, cond_true] at ha
          have hfit' := Nat.le_of_ble_eq_true hfit
          split at ha
          · rename_i h2 hst
            injection ha with ha; injection ha with ha1 ha2; subst ha1; subst ha2
            obtain ⟨g', hrun, hS2, st2⟩ := storeAt_sound (P := P) hS hst hnd hr
            refine ⟨_, g', fits (some ⟨R, O + o, none⟩) len rc0 hvse (by omega) g'.w (by simp only [addr_add]; rw [show O + o + len * es = O + (o + len * es) from by omega]; exact hrun), hS2, st2, ?_⟩
            simp only [VR]
            exact ⟨R, O, rc0, st2.rho _ _ hr, rfl, hex, hc, hfit', st2.room hroom⟩
          · cases ha
        | false =>
          simp only [hfit, cond_false] at ha
          obtain ⟨hbd, ha⟩ := cond_some ha
          simp only [Bool.and_eq_true] at hbd
          have hbd' := Nat.le_of_ble_eq_true hbd.2
          have hnfit : c < len + n := by
            rcases Nat.lt_or_ge c (len + n) with h | h
            · exact h
            · exact absurd (Nat.ble_eq_true_of_le h) (by simp [hfit])
          split at ha
          · rename_i old hold
            injection ha with ha; injection ha with ha1 ha2; subst ha1; subst ha2
            obtain ⟨ods, hof, hod⟩ := run_firstCells (P := P) hS hold hvs
            have hol := (elems_CR hS hold hvs).1
            have holen := VRs.length hod
            simp only [Array.length_toList] at holen
            by_cases hin : len + n ≤ rc0
            · -- there was room after all
              have hexf : ex = false := by
                cases ex with
                | false => rfl
                | true => have := hex rfl; omega
              subst hexf
              obtain ⟨m, t', hbg⟩ : ∃ m t, h.get b = some (.cells m t) := by
                simp only [elemsOf] at hold
                obtain ⟨_, hold⟩ := cond_some hold
                split at hold
                · rename_i m t hg; exact ⟨m, t, hg⟩
                · cases hold
              obtain ⟨R', O', c1, e1, hr1, hw1, hc1⟩ := hS.blk _ _ hbg
              rw [hr] at hr1; injection hr1 with hr1; injection hr1 with q1 q2; subst q1; subst q2
              have hcsz : O + o + rc0 * es ≤ c1.size := by
                obtain ⟨c2, e2, f2, h2, h3⟩ := hroom
                rw [hw1] at h2; injection h2 with h2; injection h2 with q1 _ _; subst q1; exact h3
              have hmul : len * es + n * es ≤ rc0 * es := by rw [← Nat.add_mul]; exact Nat.mul_le_mul_right _ hin
              have hone : ∀ v ∈ nds.toList, v.oneCell' = true := by
                intro v hm
                obtain ⟨i, hi⟩ := List.getElem?_of_mem hm
                have : i < new.length := by have := (List.getElem?_eq_some_iff.1 hi).1; simp at this; omega
                obtain ⟨y, hy, hyr⟩ := VRs.get hnd (List.getElem?_eq_getElem this)
                rw [hi] at hy; injection hy with hy; subst hy
                exact VR.scalar hyr (List.all_eq_true.1 hbd.1 _ (List.getElem_mem this))
              have hlenn : nds.toList.length = n * es := by simp; omega
              have hrun := run_storeCells (P := P) (R := R) (o := O + (o + len * es)) (e := e1) nds.toList 0 g.w c1 hw1 (fun j hj => by omega) hone
              simp only [Nat.add_zero] at hrun
              have hcs : ∀ (i : Nat) (a : AVal), (old ++ new)[i]? = some a → ∃ v, (putCells c1 (O + (o + len * es)) nds.toList)[(O + o) + i]? = some v ∧ VR g a v := by
                intro i a hi
                rw [get_putCells _ _ _ _ (fun j hj => by omega)]
                by_cases hio : i < old.length
                · rw [List.getElem?_append_left hio] at hi
                  rw [if_neg (by omega)]
                  simp only [elemsOf] at hold
                  obtain ⟨_, hold⟩ := cond_some hold
                  rw [hbg] at hold
                  simp only at hold
                  obtain ⟨_, hsl⟩ := slice_inv hold
                  obtain ⟨v, hv, hvr⟩ := hc1 _ _ (hsl i a hi)
                  exact ⟨v, by rw [Nat.add_assoc]; exact hv, hvr⟩
                · rw [List.getElem?_append_right (by omega)] at hi
                  have hlt := (List.getElem?_eq_some_iff.1 hi).1
                  rw [if_pos (by omega)]
                  obtain ⟨v, hv, hvr⟩ := VRs.get hnd hi
                  exact ⟨v, by rw [show O + o + i - (O + (o + len * es)) = i - old.length from by omega]; exact hv, hvr⟩
              obtain ⟨hS2, st2⟩ := hS.move hbg hr hw1 (size_putCells nds.toList c1 (O + (o + len * es))) hcs
              refine ⟨_, _, fits (some ⟨R, O + o, none⟩) len rc0 hvse hin _ (by simp only [addr_add]; rw [show O + o + len * es = O + (o + len * es) from by omega]; exact hrun), hS2, st2, ?_⟩
              simp only [VR]
              refine ⟨R, O + o, rc0, by simp [Gh.move], rfl, by simp, hin, Nat.le_refl _, ?_⟩
              exact st2.room hroom
            · obtain ⟨ods2, hof2, hod2⟩ := run_firstCells (P := P) hSd hold (VR.mono std hS _ _ hvs)
              obtain ⟨rc, hrc, rest, hrest, hrun⟩ := grow (some ⟨R, O + o, none⟩) len rc0 ods2 hvse (by omega) hbd' hof2 nds2 hrf2
              have hcs : ∀ (i : Nat) (a : AVal), (old ++ new)[i]? = some a → ∃ v, (ods2 ++ nds2 ++ rest)[i]? = some v ∧ VR g.draw a v := by
                intro i a hi
                obtain ⟨v, hv, hvr⟩ := VRs.get (VRs.append hod2 hnd2) hi
                refine ⟨v, ?_, hvr⟩
                have hlt := (List.getElem?_eq_some_iff.1 hv).1
                simp only [List.length_append, Array.length_toList] at hlt
                rw [Array.getElem?_append_left (by simpa using hlt), ← Array.getElem?_toList, Array.toList_append]
                exact hv
              have hk : ∃ h1, h1 = (bif ex then h else h.kill b) ∧ Sim g.draw h1 ∧ Step g.draw h g.draw h1 ∧ h1.next = h.next := by
                cases ex
                · exact ⟨_, rfl, (hSd.kill b).1, (hSd.kill b).2, rfl⟩
                · exact ⟨_, rfl, hSd, Step.refl _ _, rfl⟩
              obtain ⟨h1, hh1, hS1, st1, hnx⟩ := hk
              rw [← hh1]
              obtain ⟨hS2, st2⟩ := newCells' hS1 hcs e (n := (old ++ new).length) (t := Bt.ofL (old ++ new).length (old ++ new)) (fun i a hi => by rwa [Bt.get_ofL _ _ _ (Nat.le_refl _)] at hi)
              refine ⟨_, _, hrun, hS2, std.trans (st1.trans st2), ?_⟩
              simp only [VR]
              refine ⟨g.draw.w.heap.size, 0, rc, by simp [Gh.new, hnx], by simp, by simp, by omega, Nat.le_refl _, _, e, (0, 0), (by show (g.draw.w.heap.push _)[g.draw.w.heap.size]? = _; rw [push_get, if_pos rfl]), ?_⟩
              have hl2 := VRs.length hnd2
              have hl3 := VRs.length hod2
              simp only [Array.length_toList] at hl2 hl3
              simp only [Array.size_append, hrest]
              have e1 : len * es + n * es = (len + n) * es := by rw [Nat.add_mul]
              have e2 : (len + n) * es + (rc - (len + n)) * es = rc * es := by rw [← Nat.add_mul]; congr 1; omega
              omega
          · cases ha
      · cases ha

end
end Go.Av
end

section
/- Operations that make or write memory. -/
namespace Go.Av
section
variable {P : Program} {g : Gh} {h : Heap} {ev : XOpd → AVal} {η : Operand → Value}

def EffRes (g : Gh) (h : Heap) (a : AVal) (h' : Heap) (r : Result Next) : Prop :=
  ∃ g', Sim g' h' ∧ Step g h g' h' ∧ ((∃ v, r = .ok (.value v) g'.w ∧ VR g' a v) ∨ (r = .ok .skip g'.w ∧ a = undefA))

theorem VRs.of_get {g : Gh} : ∀ {as : List AVal} {vs : List Value}, as.length = vs.length → (∀ (i : Nat) (a : AVal), as[i]? = some a → ∃ v, vs[i]? = some v ∧ VR g a v) → VRs g as vs
  | [], vs, hl, _ => by simp only [VRs]; exact List.length_eq_zero_iff.1 hl.symm
  | a :: as, [], hl, _ => by simp at hl
  | a :: as, v :: vs, hl, hh => by
    simp only [VRs]
    obtain ⟨u, hu, hr⟩ := hh 0 a (by simp)
    simp at hu; subst hu
    exact ⟨v, vs, rfl, hr, VRs.of_get (by simpa using hl) fun i b hb => by simpa using hh (i + 1) b (by simpa using hb)⟩

theorem repl_get (z : List AVal) (hz : 0 < z.length) : ∀ (n i : Nat), (repl n z)[i]? = if i < n * z.length then z[i % z.length]? else none
  | 0, i => by simp [repl]
  | n + 1, i => by
    rw [repl]
    by_cases hi : i < z.length
    · rw [List.getElem?_append_left hi, Nat.mod_eq_of_lt hi, if_pos]
      rw [Nat.add_mul]; omega
    · rw [List.getElem?_append_right (by omega), repl_get z hz n, Nat.add_mul]
      have : i % z.length = (i - z.length) % z.length := Nat.mod_eq_sub_mod (by omega)
      rw [this]
      by_cases h2 : i - z.length < n * z.length
      · rw [if_pos h2, if_pos (by omega)]
      · rw [if_neg h2, if_neg (by omega)]
theorem repl_length (z : List AVal) : ∀ n, (repl n z).length = n * z.length
  | 0 => by simp [repl]
  | n + 1 => by rw [repl, List.length_append, repl_length z n, Nat.add_mul]; omega

theorem VRs_repl {z : List AVal} {zs : Array Value} (hz : VRs g z zs.toList) (hp : 0 < z.length) (n m : Nat) (hm : m = n * z.length) :
    VRs g (repl n z) ((Array.range m).map (zs[· % zs.size]!)).toList := by
  have hl := VRs.length hz
  simp only [Array.length_toList] at hl
  refine VRs.of_get (by simp [repl_length, hm]) fun i a hi => ?_
  rw [repl_get z hp] at hi
  split at hi
  · rename_i hlt
    obtain ⟨v, hv, hr⟩ := VRs.get hz hi
    refine ⟨v, ?_, hr⟩
    have hlt2 : i % zs.size < zs.size := Nat.mod_lt _ (by omega)
    have : zs[i % zs.size]? = some v := by rw [← hl]; simpa using hv
    simp [hm, hlt]
    rw [getElem!_pos zs (i % zs.size) hlt2]
    rw [Array.getElem?_eq_getElem hlt2] at this
    injection this
  · cases hi

theorem zeroT_cells {t : TypeId} {z : AVal} (hz : zeroT P t = some z) (w : World) : ∃ zv, (zeroValue t).run P w = .ok zv w ∧ VRs g z.cells zv.cells.toList := by
  obtain ⟨zv, h1, h2⟩ := run_zeroT' (w := w) hz
  exact ⟨zv, h1, VR.cells (ofValue_VR g zv z h2)⟩

/-! making a block -/
def AKR (R : Nat) (o : Obj) (u : Value) : AK → Prop
  | .ptr => u = .pointer (some ⟨R, 0, none⟩)
  | .slice l c es => u = .slice (some ⟨R, 0, none⟩) l c ∧ l ≤ c ∧ ∃ (cs : Array Value) (e : TypeId) (f : Nat × Nat), o = .cells cs e f ∧ c * es ≤ cs.size
  | .map => u = .map (some R)

def OB (g : Gh) (o : Obj) : Blk → Prop
  | .cells _ t => ∃ (c : Array Value) (e : TypeId), o = .cells c e (0, 0) ∧ ∀ i a, t.get i = some a → ∃ v, c[i]? = some v ∧ VR g a v
  | .map es => ∃ (es' : Array MapEntry) (clock : Nat), o = .map es' clock ∧ MR g es es'.toList

def AllocRes (g : Gh) (k : AK) (x : Blk) (r : Result Next) : Prop :=
  ∃ o u, r = .ok (.value u) { g.w with heap := g.w.heap.push o } ∧ AKR g.w.heap.size o u k ∧ OB g o x

theorem OB.mono {g' : Gh} {h' : Heap} (s : Step g h g' h') (hS : Sim g h) {o : Obj} {x : Blk} (hb : OB g o x) : OB g' o x := by
  cases x with
  | cells n t =>
    obtain ⟨c, e, ho, hc⟩ := hb
    refine ⟨c, e, ho, fun i a hi => ?_⟩
    obtain ⟨v, hv, hvr⟩ := hc i a hi
    exact ⟨v, hv, VR.mono s hS _ _ hvr⟩
  | map es =>
    obtain ⟨es', cl, ho, hm⟩ := hb
    exact ⟨es', cl, ho, MR.mono s hS _ _ hm⟩

theorem OB.br {o : Obj} {x : Blk} (hb : OB g o x) {b : Pos} {R : Nat} (hr : g.ρ b = some (R, 0)) (hw : g.w.heap[R]? = some o) : BR g b x := by
  cases x with
  | cells n t =>
    obtain ⟨c, e, rfl, hc⟩ := hb
    exact ⟨R, 0, c, e, hr, hw, fun i a hi => by simpa using hc i a hi⟩
  | map es =>
    obtain ⟨es', cl, rfl, hm⟩ := hb
    exact ⟨R, 0, es', cl, hr, hw, hm⟩

theorem AKR.vr {R : Nat} {o : Obj} {u : Value} {k : AK} (h : AKR R o u k) {b : Pos} (hr : g.ρ b = some (R, 0)) (hw : g.w.heap[R]? = some o) : VR g (k.val b) u := by
  cases k with
  | ptr => simp only [AK.val, VR]; exact ⟨R, 0, hr, h⟩
  | map => simp only [AK.val, VR]; exact ⟨R, 0, hr, h⟩
  | slice l c es =>
    obtain ⟨h1, h2, cs, e, f, rfl, h3⟩ := h
    simp only [AK.val, VR]
    exact ⟨R, 0, c, hr, h1, fun _ => rfl, Nat.le_refl _, h2, cs, e, f, hw, by omega⟩

theorem AllocRes.eff (hS : Sim g h) {k : AK} {x : Blk} {r : Result Next} (hr : AllocRes g k x r) : EffRes g h (k.val h.next) (h.new x) r := by
  obtain ⟨o, u, h1, h2, h3⟩ := hr
  have st := hS.stepNew x o
  have hw : (g.new h.next o).w.heap[g.w.heap.size]? = some o := by show (g.w.heap.push _)[g.w.heap.size]? = _; rw [push_get, if_pos rfl]
  have hρ : (g.new h.next o).ρ h.next = some (g.w.heap.size, 0) := by simp [Gh.new]
  have hS2 := hS.new x o ((OB.mono st hS h3).br hρ hw)
  exact ⟨_, hS2, st, .inl ⟨u, h1, h2.vr hρ hw⟩⟩

theorem newPtr {cs : List AVal} {ds : Array Value} (hc : VRs g cs ds.toList) (e : TypeId) {r : Result Next}
    (hr : r = .ok (.value (.pointer (some ⟨g.w.heap.size, 0, none⟩))) { g.w with heap := g.w.heap.push (.cells ds e) }) : AllocRes g .ptr (Blk.ofL cs) r := by
  refine ⟨.cells ds e, _, hr, rfl, ds, e, rfl, fun i a hi => ?_⟩
  rw [Bt.get_ofL _ _ _ (Nat.le_refl _)] at hi
  obtain ⟨v, hv, hvr⟩ := VRs.get hc hi
  exact ⟨v, by simpa using hv, hvr⟩

theorem newSlice {cs : List AVal} {ds : Array Value} (hc : VRs g cs ds.toList) (e : TypeId) {n : Nat} {t : Bt AVal} (ht : ∀ i a, t.get i = some a → cs[i]? = some a) {l c es : Nat} (hl : l ≤ c) (hsz : c * es ≤ ds.size) {r : Result Next}
    (hr : r = .ok (.value (.slice (some ⟨g.w.heap.size, 0, none⟩) l c)) { g.w with heap := g.w.heap.push (.cells ds e) }) : AllocRes g (.slice l c es) (.cells n t) r := by
  refine ⟨.cells ds e, _, hr, ⟨rfl, hl, ds, e, (0, 0), rfl, hsz⟩, ds, e, rfl, fun i a hi => ?_⟩
  obtain ⟨v, hv, hvr⟩ := VRs.get hc (ht i a hi)
  exact ⟨v, by simpa using hv, hvr⟩

theorem eff_alloc {o : Oper} {e : TypeId} {z : AVal} (ho : o.op = .alloc e) (hz : zeroT P e = some z) : AllocRes g .ptr (Blk.ofL z.cells) ((execOp η o).run P g.w) := by
  obtain ⟨zv, h1, h2⟩ := zeroT_cells (g := g) hz g.w
  refine newPtr h2 e ?_
  simp only [execOp, ho, Instr.alloc, Sem.run_bind, h1, Result.andThen_ok, newVar, run_newRow, Sem.run_pure]

theorem eff_box {o : Oper} {e : TypeId} {x : Operand} {a : AVal} (ho : o.op = .box e x) (ha : VR g a (η x)) : AllocRes g .ptr (Blk.ofL a.cells) ((execOp η o).run P g.w) := by
  refine newPtr (VR.cells ha) e ?_
  simp only [execOp, ho, Instr.box, Sem.run_bind, newVar, run_newRow, Result.andThen_ok, Sem.run_pure]

theorem eff_buildSlice (hE : OR g ev η) {o : Oper} {t e : TypeId} {n es : Nat} {ps : Array (Nat × Operand)} {z : AVal} {qs : List (Nat × Nat × XOpd)} {cs : List AVal} (ho : o.op = .buildSlice t n ps)
    (hu : P.underlying t = some (.slice e)) (hes : sizeT P e = some es) (hz : zeroT P e = some z) (hq : xparts P t ps.toList = some qs) (hzl : es = z.cells.length) (hp : 0 < es) (hb : n * es ≤ 16777216)
    (hf : fills (repl n z.cells) (qs.map fun q => (q.1, q.2.1, ev q.2.2)) = some cs) : AllocRes g (.slice n n es) (Blk.ofL cs) ((execOp η o).run P g.w) := by
  obtain ⟨zv, h1, h2⟩ := zeroT_cells (g := g) hz g.w
  have hrep := VRs_repl (g := g) h2 (by omega) n (n * es) (by rw [hzl])
  have hpr := xparts_PR (place := fun i => some (i * es, es)) hE (t := t) (P := P) (g := g) (by
    intro p q hpq
    unfold xpart at hpq
    simp only [hu] at hpq
    split at hpq
    · rename_i hfs; cases hfs
    · rename_i hfs; cases hfs
    · rename_i x e' hx hfs
      injection hfs with hfs; injection hfs with hfs; subst hfs
      split at hpq
      · rename_i m hm
        injection hpq with hpq; subst hpq
        rw [hes] at hm; injection hm with hm; subst hm; rfl
      · cases hpq
    · cases hpq) hq
  have hzs := VRs.length h2
  simp only [Array.length_toList] at hzs
  by_cases hn : n = 0
  · subst hn
    have hfill : ∃ d, Instr.fill (fun i => some (i * es, es)) #[] (ps.toList.map fun p => (p.1, η p.2)) = some d ∧ VRs g cs d.toList := fill_fills _ _ _ _ #[] _ hpr (by simp [repl, VRs]) hf
    obtain ⟨d, hd, hdr⟩ := hfill
    refine newSlice hdr e (t := Bt.ofL cs.length cs) (fun i a hi => by rwa [Bt.get_ofL _ _ _ (Nat.le_refl _)] at hi) (Nat.le_refl _) (by omega) ?_
    have e2 : (ps.map fun x => match x with | (i, x) => (i, η x)).toList = ps.toList.map fun p => (p.1, η p.2) := by simp
    have hz0 : ∀ f : Nat → Value, (Array.range 0).map f = #[] := by intro f; simp
    have hgt : ¬ (0 > 2 ^ 24) := by omega
    simp only [execOp, ho, Instr.buildSlice, Sem.run_bind, run_underlying hu, Result.andThen_ok, run_sizeT hes, Nat.zero_mul, hgt, if_false, if_true, Sem.run_pure, hz0, e2, hd, run_newRow]
  · have hfill := fill_fills _ _ _ _ ((Array.range (n * es)).map (zv.cells[· % zv.cells.size]!)) _ hpr hrep hf
    obtain ⟨d, hd, hdr⟩ := hfill
    have hcl := VRs.length hdr
    simp only [Array.length_toList] at hcl
    have hne : ¬ (n * es = 0) := by
      intro h0
      rcases Nat.mul_eq_zero.1 h0 with h0 | h0 <;> omega
    have hgt : ¬ (n * es > 2 ^ 24) := by omega
    refine newSlice hdr e (t := Bt.ofL cs.length cs) (fun i a hi => by rwa [Bt.get_ofL _ _ _ (Nat.le_refl _)] at hi) (Nat.le_refl _) ?_ ?_
    · have : ∀ (qs : List (Nat × Value)) (c d : Array Value), Instr.fill (fun i => some (i * es, es)) c qs = some d → d.size = c.size := by
        intro qs
        induction qs with
        | nil => intro c d h; simp only [Instr.fill, Option.some.injEq] at h; rw [h]
        | cons q qs ih =>
          intro c d h
          simp only [Instr.fill] at h
          split at h
          · cases h
          · rw [ih _ _ h]
            have : ∀ (us : List (Value × Nat)) (c : Array Value), (us.foldl (fun cs x => cs.setIfInBounds (q.1 * es + x.2) x.1) c).size = c.size := by
              intro us; induction us with
              | nil => intro c; rfl
              | cons u us ih2 => intro c; rw [List.foldl_cons, ih2]; simp
            rw [← Array.foldl_toList]
            exact this _ _
      rw [this _ _ _ hd]
      simp
    · have e2 : (ps.map fun x => match x with | (i, x) => (i, η x)).toList = ps.toList.map fun p => (p.1, η p.2) := by simp
      simp only [execOp, ho, Instr.buildSlice, Sem.run_bind, run_underlying hu, Result.andThen_ok, run_sizeT hes, Sem.run_ite, hgt, if_false, hne, h1, Sem.run_pure, e2, hd, run_newRow]

theorem eff_mkMap {o : Oper} {t : TypeId} (ho : o.op = .makeMap t none) : AllocRes g .map (.map []) ((execOp η o).run P g.w) := by
  refine ⟨.map #[] 0, .map (some g.w.heap.size), ?_, rfl, #[], 0, rfl, by simp [MR]⟩
  simp [execOp, ho, Instr.makeMap]

theorem asNat_run {a : AVal} {n : Nat} {v : Value} (h : asNat a = some n) (hv : VR g a v) (w : World) : (asInt v).run P w = .ok (n : Int) w := by
  obtain ⟨k, rfl⟩ := asNat_inv h hv
  rfl

theorem mkRow_get (z : List AVal) (c : Nat) (hz : 0 < z.length) (hc : c ≤ 1073741824) : ∃ n t, mkRow z c = .cells n t ∧ ∀ i a, t.get i = some a → (repl c z)[i]? = some a := by
  unfold mkRow
  split
  · rename_i v
    refine ⟨c, _, rfl, fun i a hi => ?_⟩
    rw [Bt.get_rep v 31 c i (by omega)] at hi
    split at hi
    · rename_i hlt
      injection hi with hi; subst hi
      rw [repl_get [v] (by simp), if_pos (by simpa using hlt)]
      simp [Nat.mod_one]
    · cases hi
  · exact ⟨_, _, rfl, fun i a hi => by rwa [Bt.get_ofL _ _ _ (Nat.le_refl _)] at hi⟩

theorem eff_mkSlice {o : Oper} {t e : TypeId} {l c : Operand} {n bs : Nat} {z : AVal} {al ac : AVal} {l' c' : Nat} (ho : o.op = .makeSlice t l c) (hu : P.underlying t = some (.slice e))
    (hn : sizeT P e = some n) (hbs : bytesT P e = some bs) (hz : zeroT P e = some z) (hzl : z.cells.length = n) (hp : 0 < n) (hl : asNat al = some l') (hc : asNat ac = some c') (hvl : VR g al (η l)) (hvc : VR g ac (η c))
    (hle : l' ≤ c') (hb : c' * bs ≤ 140737488355328) (hc2 : c' ≤ 1073741824) : AllocRes g (.slice l' c' n) (mkRow z.cells c') ((execOp η o).run P g.w) := by
  obtain ⟨zv, h1, h2⟩ := zeroT_cells (g := g) hz g.w
  have hzs := VRs.length h2
  simp only [Array.length_toList] at hzs
  have hrep := VRs_repl (g := g) h2 (by omega) c' (c' * n) (by rw [hzl])
  obtain ⟨m, tr, hrow, hget⟩ := mkRow_get z.cells c' (by omega) hc2
  rw [hrow]
  refine newSlice (ds := if c' * n = 0 then #[] else ((Array.range (c' * n)).map (zv.cells[· % zv.cells.size]!))) ?_ e hget hle ?_ ?_
  · by_cases h0 : c' * n = 0
    · have hc0 : c' = 0 := by rcases Nat.mul_eq_zero.1 h0 with h0 | h0 <;> omega
      rw [if_pos h0, hc0]; simp [repl, VRs]
    · rw [if_neg h0]; exact hrep
  · by_cases h0 : c' * n = 0
    · omega
    · rw [if_neg h0]; simp
  · obtain ⟨ti, hti, htis, _⟩ := sizeT_info hn
    have htb : ti.bytes = bs := by unfold bytesT at hbs; rw [hti] at hbs; injection hbs
    have e1 : IntKind.i64.wrap (l' : Int) = l' := by
      simp only [IntKind.wrap, IntKind.bits, IntKind.signed]
      have : (l' : Int) % (2 ^ 64) = l' := by omega
      simp only [this]; simp; omega
    have e2 : IntKind.i64.wrap (c' : Int) = c' := by
      simp only [IntKind.wrap, IntKind.bits, IntKind.signed]
      have : (c' : Int) % (2 ^ 64) = c' := by omega
      simp only [this]; simp; omega
    have hbi : ¬ ((bs : Int) * (c' : Int) > 2 ^ 48) := by
      have : (bs : Int) * (c' : Int) = ((c' * bs : Nat) : Int) := by rw [Nat.mul_comm]; simp
      rw [this]; omega
    have ht : (typeInfo e).run P g.w = .ok ti g.w := by simp [typeInfo, hti]
    have d1 : decide ((c' : Int) < 0) = false := by simp
    have d2 : decide ((l' : Int) < 0) = false := by simp
    have d3 : decide ((l' : Int) > (c' : Int)) = false := by simp; omega
    have d4 : decide ((bs : Int) * (c' : Int) > 2 ^ 48) = false := by simpa using hbi
    simp only [execOp, ho, Instr.makeSlice, Sem.run_bind, run_underlying hu, Result.andThen_ok, asNat_run hl hvl, asNat_run hc hvc, ht, e1, e2, htb, d1, d2, d3, d4, Bool.or_false, Bool.false_eq_true, if_false,
      Sem.run_ite, run_askRoom, Int.toNat_natCast, run_sizeT hn, h1, Sem.run_pure]
    by_cases h0 : c' * n = 0
    · have hz0 : ∀ f : Nat → Value, (Array.range 0).map f = #[] := by intro f; simp
      simp only [h0, if_true, Result.andThen_ok, run_newRow, hz0]
    · simp only [h0, if_false, Result.andThen_ok, run_newRow]

theorem eff_store (hS : Sim g h) {o : Oper} {t : TypeId} {y v : Operand} {n : Nat} {b : Pos} {k : Nat} {a : AVal} {h' : Heap} (ho : o.op = .store t y v) (hn : sizeT P t = some n) (hy : VR g (.ptr b k) (η y)) (hv : VR g a (η v))
    (hl : a.cells.length = n) (hst : storeAt h b k a.cells = some h') : EffRes g h undefA h' ((execOp η o).run P g.w) := by
  obtain ⟨R, O, hr, e1⟩ := ptr_inv hy
  have hc := VR.cells hv
  obtain ⟨g', hrun, hS', st⟩ := storeAt_sound (P := P) hS hst hc hr
  have hlen := VRs.length hc
  simp only [Array.length_toList] at hlen
  have hsz : ¬ ((η v).cells.size ≠ n) := by omega
  refine ⟨g', hS', st, .inr ⟨?_, rfl⟩⟩
  simp only [execOp, ho, Instr.storeAt, e1, Instr.sureAddr, storeVar, Sem.run_bind, Sem.run_pure, Result.andThen_ok, run_sizeT hn, hsz, if_false, hrun]

theorem run_setObj {w : World} {R : Nat} {es : Array MapEntry} {clock : Nat} (hw : w.heap[R]? = some (Obj.map es clock)) (o : Obj) : (setObj R o).run P w = .ok () { w with heap := w.heap.setIfInBounds R o } := by
  simp [setObj, Sem.run, hw]

theorem MR.set {g : Gh} : ∀ {l : List (AVal × AVal)} {es : List MapEntry} {j : Nat} {k v : AVal} {e : MapEntry}, MR g l es → VR g k e.key → VR g v e.val → MR g (l.set j (k, v)) (es.set j e)
  | [], es, j, k, v, e, h, _, _ => by simp only [MR] at h; subst h; simp [MR]
  | (k', v') :: l, es, j, k, v, e, h, h1, h2 => by
    obtain ⟨e0, es', rfl, h3, h4, h5⟩ := h
    cases j with
    | zero => exact ⟨e, es', rfl, h1, h2, h5⟩
    | succ j => exact ⟨e0, _, rfl, h3, h4, MR.set h5 h1 h2⟩
theorem MR.append {g : Gh} : ∀ {l : List (AVal × AVal)} {es : List MapEntry} {k v : AVal} {e : MapEntry}, MR g l es → VR g k e.key → VR g v e.val → MR g (l ++ [(k, v)]) (es ++ [e])
  | [], es, k, v, e, h, h1, h2 => by simp only [MR] at h; subst h; exact ⟨e, [], rfl, h1, h2, rfl⟩
  | (k', v') :: l, es, k, v, e, h, h1, h2 => by
    obtain ⟨e0, es', rfl, h3, h4, h5⟩ := h
    exact ⟨e0, _, rfl, h3, h4, MR.append h5 h1 h2⟩

theorem setMap (hS : Sim g h) {m : Pos} {x : Blk} {es : List (AVal × AVal)} (hm : h.get m = some x) {R O : Nat} (hr : g.ρ m = some (R, O)) {es0 es' : Array MapEntry} {c0 clock : Nat} (hw : g.w.heap[R]? = some (Obj.map es0 c0)) (hmr : MR g es es'.toList) :
    Sim (g.set R (.map es' clock)) (h.put m (.map es)) ∧ Step g h (g.set R (.map es' clock)) (h.put m (.map es)) := by
  have hsh : ∀ (c : Array Value) (e : TypeId) (f : Nat × Nat), g.w.heap[R]? = some (Obj.cells c e f) → ∃ (c' : Array Value) (f' : Nat × Nat), Obj.map es' clock = Obj.cells c' e f' ∧ c'.size = c.size := by
    intro c e f hw'; rw [hw] at hw'; cases hw'
  have st := hS.stepSet (y := .map es) hm hr (.map es' clock) hsh
  refine hS.set hm hr _ hsh ⟨R, O, es', clock, hr, by simp [Gh.set, hS.lt hm hr], MR.mono st hS _ _ hmr⟩

theorem run_keyThatStays (w : World) (v : Value) : ∃ w', (Instr.keyThatStays v v).run P w = .ok v w' ∧ (w' = w ∨ w' = { w with drawn := w.drawn + 1 }) := by
  unfold Instr.keyThatStays
  by_cases hsb : Instr.sameBits 10000 v v = true
  · rw [if_pos hsb]; exact ⟨w, rfl, .inl rfl⟩
  · rw [if_neg hsb]
    simp only [Sem.run_bind, run_choose, Question.forced]
    simp

theorem eff_mapUpdate (hS : Sim g h) {o : Oper} {t kt et : TypeId} {m k v : Operand} (ho : o.op = .insert t m k v ∨ o.op = .mapUpdate t m k v) (hu : P.underlying t = some (.map kt et)) {ks : List Scal} (hf : flat P 6 kt = some ks)
    {mb : Pos} {ak av : AVal} (hm : VR g (.map mb) (η m)) (hk : VR g ak (η k)) (hv : VR g av (η v)) (hok : keyOk (isAggT P kt) ks ak = true) {es es' : List (AVal × AVal)} (hg : h.get mb = some (.map es)) (hp : putA (isAggT P kt) ks ak av es = some es') :
    EffRes g h undefA (h.put mb (.map es')) ((execOp η o).run P g.w) := by
  have hexec : execOp η o = (do Instr.mapUpdate t (η m) (η k) (η v); pure .skip) := by rcases ho with ho | ho <;> simp [execOp, ho]
  rw [hexec]
  obtain ⟨R, es0, clock, e1, hw, hmr, O, hr⟩ := map_of hS hg hm
  have hck := checkKey_sound (P := P) (w := g.w) (em := false) hf rfl hk hok
  rcases putA_idx hp with ⟨hi, rfl⟩ | ⟨j, x, hi, hj, heq, rfl⟩
  · obtain ⟨res, h1, h2, _⟩ := findKey_sound (w := g.w) hf rfl hk hmr hi
    have hres := h2 rfl
    subst hres
    have hmr2 : MR g (es ++ [(ak, av)]) (es0.push { key := η k, val := η v, born := clock }).toList := by
      rw [Array.toList_push]; exact MR.append hmr hk hv
    obtain ⟨hS2, st2⟩ := setMap hS hg hr hw (clock := clock + 1) hmr2
    refine ⟨_, hS2, st2, .inr ⟨?_, rfl⟩⟩
    simp only [Instr.mapUpdate, Sem.run_bind, run_underlying hu, Result.andThen_ok, e1, run_getObj_map hw, hck, h1, run_setObj hw, Sem.run_pure, Gh.set]
  · obtain ⟨res, h1, _, h3⟩ := findKey_sound (w := g.w) hf rfl hk hmr hi
    obtain ⟨en, h4, h5⟩ := h3 j rfl
    subst h5
    have hkey : η k = en.key := valEq_true heq hk (MR.get hmr hj h4).1
    have h4' : es0[j]? = some en := by simpa using h4
    obtain ⟨w', hks, hw'⟩ := run_keyThatStays (P := P) g.w (η k)
    have hmr2 : MR g (es.set j (ak, av)) (es0.modify j fun e => { e with key := η k, val := η v }).toList := by
      have : (es0.modify j fun e => { e with key := η k, val := η v }).toList = es0.toList.set j { en with key := η k, val := η v } := by
        apply List.ext_getElem?
        intro i
        rw [Array.getElem?_toList, Array.getElem?_modify, List.getElem?_set]
        by_cases hij : j = i
        · subst hij
          have hlt := (Array.getElem?_eq_some_iff.1 h4').1
          have he : es0[j] = en := by rw [Array.getElem?_eq_getElem hlt] at h4'; injection h4'
          simp [hlt, he]
        · simp [hij]
      rw [this]
      exact MR.set hmr hk hv
    have key : ∀ g2 : Gh, Sim g2 h → Step g h g2 h → g2.w = w' → EffRes g h undefA (h.put mb (.map (es.set j (ak, av)))) ((do Instr.mapUpdate t (η m) (η k) (η v); pure .skip : Sem Next).run P g.w) := by
      intro g2 hS2 st2 hg2
      have hr2 := st2.rho _ _ hr
      have hw2 : g2.w.heap[R]? = some (Obj.map es0 clock) := by
        rw [hg2]; rcases hw' with rfl | rfl <;> exact hw
      obtain ⟨hS3, st3⟩ := setMap hS2 hg hr2 hw2 (clock := clock) (MR.mono st2 hS _ _ hmr2)
      refine ⟨_, hS3, st2.trans st3, .inr ⟨?_, rfl⟩⟩
      rw [hg2] at hw2
      simp only [Instr.mapUpdate, Sem.run_bind, run_underlying hu, Result.andThen_ok, e1, run_getObj_map hw, hck, h1, h4', Option.map_some, Option.getD_some, ← hkey, hks, run_setObj hw2, Sem.run_pure, Gh.set, hg2]
    rcases hw' with hw' | hw'
    · exact key g hS (Step.refl _ _) hw'.symm
    · exact key g.draw hS.draw.1 hS.draw.2 hw'.symm

end
end Go.Av
end

section
/- Operations that make or write memory are as the evaluator says. -/
namespace Go.Av
section
variable {P : Program} {g : Gh} {h : Heap} {ev : XOpd → AVal} {η : Operand → Value}

theorem res_builtin {c : Call} {b : Builtin} (hb : c.callee = .builtin b) (ty : TypeId) (w : World) : ∃ cs, (resolve η c ty).run P w = .ok { target := .builtin b c.argTypes ty cs, args := c.args.map η } w :=
  ⟨_, by simp only [resolve, hb]; rfl⟩

theorem eff_append (hS : Sim g h) (hE : OR g ev η) {c : Call} {ty : TypeId} {s x : XOpd} (hargs : xopds c.args.toList = some [s, x]) (hb : c.callee = .builtin .append) {t u e d : TypeId} {es bytes : Nat} {z a : AVal} {h' : Heap}
    (ht : c.argTypes[0]? = some t) (hu : c.argTypes[1]? = some u) (hte : P.underlying t = some (.slice e)) (hud : P.underlying u = some (.slice d)) (hes : sizeT P e = some es) (hbs : bytesT P e = some bytes) (hz : zeroT P e = some z)
    (hzl : es = z.cells.length) (hbp : 0 < bytes) (ha : appendA h es bytes (ev s) (ev x) = some (a, h')) : EffRes g h a h' ((do let d ← resolve η c ty; invoke d.target d.args : Sem Next).run P g.w) := by
  obtain ⟨cs, hres⟩ := res_builtin (P := P) (η := η) hb ty g.w
  have hl := OR.list hE hargs
  simp only [List.map_cons, List.map_nil, VRs] at hl
  obtain ⟨u1, us, e1, h1, v1, vs, e2, h2, e3⟩ := hl
  subst e3; subst e2
  have hav : c.args.map η = #[u1, v1] := Array.ext' (by simp [e1])
  obtain ⟨v, g', hrun, hS', st, hv⟩ := append_sound (P := P) (ty := ty) hS ha ht hu hte hud hes hbs hz hzl hbp h1 h2
  refine ⟨g', hS', st, .inl ⟨v, ?_, hv⟩⟩
  simp only [Sem.run_bind, hres, Result.andThen_ok, invoke, builtin, hav, hrun, Sem.run_pure]

theorem eff_copy (hS : Sim g h) (hE : OR g ev η) {c : Call} {ty : TypeId} {s x : XOpd} (hargs : xopds c.args.toList = some [s, x]) (hb : c.callee = .builtin .copy) {t e : TypeId} {es : Nat}
    (ht : c.argTypes[0]? = some t) (hte : P.underlying t = some (.slice e)) (hes : sizeT P e = some es) {b : Pos} {o n : Nat} {ex : Bool} {cc es' m : Nat} (hs : ev s = .slice b o n ex cc es') (hm : lenOf (ev x) = some m)
    {cs : List AVal} (hcs : elemsOf h es (Nat.min m n) (ev x) = some cs) {h' : Heap} (hst : storeAt h b o cs = some h') : EffRes g h (.int .i64 (.ofNat (Nat.min m n))) h' ((do let d ← resolve η c ty; invoke d.target d.args : Sem Next).run P g.w) := by
  obtain ⟨bs, hres⟩ := res_builtin (P := P) (η := η) hb ty g.w
  have hl := OR.list hE hargs
  simp only [List.map_cons, List.map_nil, VRs] at hl
  obtain ⟨u1, us, e1, h1, v1, vs, e2, h2, e3⟩ := hl
  subst e3; subst e2
  have hav : c.args.map η = #[u1, v1] := Array.ext' (by simp [e1])
  rw [hs] at h1
  simp only [VR] at h1
  obtain ⟨R, O, rc, hr, rfl, _⟩ := h1
  obtain ⟨ds, hd, hdr⟩ := run_firstCells (P := P) hS hcs h2
  obtain ⟨g', hrun, hS', st⟩ := storeAt_sound (P := P) hS hst hdr hr
  have hlen := run_lenOf (P := P) (g := g) hm h2
  refine ⟨g', hS', st, .inl ⟨.int .i64 (Nat.min m n : Nat), ?_, by simp only [VR]; rfl⟩⟩
  simp only [Sem.run_bind, hres, Result.andThen_ok, invoke, builtin, hav, Builtin.copy_, ht, List.getElem?_toArray, List.getElem?_cons_zero, List.getElem?_cons_succ, run_underlying hte, hlen, run_sizeT hes, hd, hrun, Sem.run_pure, goInt]

theorem eff_clear (hS : Sim g h) (hE : OR g ev η) {c : Call} {ty : TypeId} {s : XOpd} (hargs : xopds c.args.toList = some [s]) (hb : c.callee = .builtin .clear) {t e : TypeId} {es : Nat} {z : AVal}
    (ht : c.argTypes[0]? = some t) (hte : P.underlying t = some (.slice e)) (hz : zeroT P e = some z) (hzl : es = z.cells.length) (hp : 0 < es) {a : AVal} {h' : Heap} (ha : effA h ev (.clear z.cells s) = some (a, h')) :
    EffRes g h a h' ((do let d ← resolve η c ty; invoke d.target d.args : Sem Next).run P g.w) := by
  obtain ⟨bs, hres⟩ := res_builtin (P := P) (η := η) hb ty g.w
  have hl := OR.list hE hargs
  simp only [List.map_cons, List.map_nil] at hl
  obtain ⟨v, hv, hvr⟩ := VRs.of_one hl
  have hav : c.args.map η = #[v] := Array.ext' (by simp [hv])
  have hU : VR g undefA (.tuple #[]) := by simp only [VR]; exact ⟨#[], rfl, by simp [VRs]⟩
  simp only [effA] at ha
  split at ha
  · rename_i hev
    injection ha with ha; injection ha with ha1 ha2; subst ha1; subst ha2
    rw [hev] at hvr; simp only [VR] at hvr; subst hvr
    refine ⟨g, hS, Step.refl _ _, .inl ⟨.tuple #[], ?_, hU⟩⟩
    simp only [Sem.run_bind, hres, Result.andThen_ok, invoke, builtin, hav, Builtin.clear_, ht, List.getElem?_toArray, List.getElem?_cons_zero, run_underlying hte, Sem.run_pure]
  · rename_i b o n ex cc es' hev
    rw [hev] at hvr
    simp only [VR] at hvr
    obtain ⟨R, O, rc, hr, rfl, _⟩ := hvr
    cases hn0 : Nat.beq n 0 with
    | true =>
      have := Nat.eq_of_beq_eq_true hn0
      subst this
      simp only [hn0, cond_true] at ha
      injection ha with ha; injection ha with ha1 ha2; subst ha1; subst ha2
      refine ⟨g, hS, Step.refl _ _, .inl ⟨.tuple #[], ?_, hU⟩⟩
      simp only [Sem.run_bind, hres, Result.andThen_ok, invoke, builtin, hav, Builtin.clear_, ht, List.getElem?_toArray, List.getElem?_cons_zero, run_underlying hte, Sem.run_pure]
    | false =>
      simp only [hn0, cond_false] at ha
      obtain ⟨hb2, ha⟩ := cond_some ha
      split at ha
      · rename_i h2 hst
        injection ha with ha; injection ha with ha1 ha2; subst ha1; subst ha2
        obtain ⟨zv, hz1, hz2⟩ := zeroT_cells (g := g) hz g.w
        have hzs := VRs.length hz2
        simp only [Array.length_toList] at hzs
        have hzn : zv.cells.size = z.cells.length := by omega
        have hrep := VRs_repl (g := g) hz2 (by omega) n (n * zv.cells.size) (by rw [hzn])
        obtain ⟨g', hrun, hS', st⟩ := storeAt_sound (P := P) hS hst hrep hr
        refine ⟨g', hS', st, .inl ⟨.tuple #[], ?_, VR.mono st hS _ _ hU⟩⟩
        have hn : ∃ k, n = k + 1 := by
          cases n with
          | zero => simp at hn0
          | succ k => exact ⟨k, rfl⟩
        obtain ⟨k, rfl⟩ := hn
        simp only [Sem.run_bind, hres, Result.andThen_ok, invoke, builtin, hav, Builtin.clear_, ht, List.getElem?_toArray, List.getElem?_cons_zero, run_underlying hte, hz1, Builtin.zeroCells, hrun, Sem.run_pure]
      · cases ha
  · cases ha

theorem eff_sound (hS : Sim g h) (hE : OR g ev η) {o : Oper} {x : XEff} (hx : xop P o = some (.f x)) {a : AVal} {h' : Heap} (ha : effA h ev x = some (a, h')) : EffRes g h a h' ((execOp η o).run P g.w) := by
  have ho : ∃ op, o.op = op := ⟨_, rfl⟩
  obtain ⟨op, ho⟩ := ho
  cases op
  case alloc e =>
    simp only [xop, ho] at hx
    split at hx
    · rename_i z hz
      injection hx with hx; injection hx with hx; subst hx
      simp only [effA] at ha
      injection ha with ha; injection ha with ha1 ha2; subst ha1; subst ha2
      exact (eff_alloc ho hz).eff hS
    · cases hx
  case box e y =>
    simp only [xop, ho] at hx
    split at hx
    · rename_i n y' hn hy
      injection hx with hx; injection hx with hx; subst hx
      simp only [effA] at ha
      obtain ⟨_, ha⟩ := cond_some ha
      injection ha with ha; injection ha with ha1 ha2; subst ha1; subst ha2
      exact (eff_box ho (hE _ _ hy)).eff hS
    · cases hx
  case buildSlice t n ps =>
    simp only [xop, ho] at hx
    split at hx
    · rename_i e hte
      split at hx
      · rename_i es z l hes hz hl
        split at hx
        · rename_i hc
          injection hx with hx; injection hx with hx; subst hx
          simp only [effA] at ha
          split at ha
          · rename_i cs hcs
            injection ha with ha; injection ha with ha1 ha2; subst ha1; subst ha2
            unfold elemT at hte
            split at hte
            · rename_i e' hu
              injection hte with hte; subst hte
              exact AllocRes.eff hS <| eff_buildSlice hE ho hu hes hz hl hc.1 hc.2.1 hc.2.2 hcs
            · cases hte
          · cases ha
        · cases hx
      · cases hx
    · cases hx
  case insert t m k v =>
    simp only [xop, ho] at hx
    split at hx
    · rename_i kt et m' k' v' hu hm hk hv
      split at hx
      · rename_i ks hks
        injection hx with hx; injection hx with hx; subst hx
        simp only [effA] at ha
        obtain ⟨hok, ha⟩ := cond_some ha
        split at ha
        · rename_i mb hmb
          split at ha
          · rename_i es hes
            split at ha
            · rename_i es' hes'
              injection ha with ha; injection ha with ha1 ha2; subst ha1; subst ha2
              have hvm := hE _ _ hm
              rw [hmb] at hvm
              exact eff_mapUpdate hS (.inl ho) hu hks hvm (hE _ _ hk) (hE _ _ hv) hok hes hes'
            · cases ha
          · cases ha
        · cases ha
      · cases hx
    · cases hx
  case mapUpdate t m k v =>
    simp only [xop, ho] at hx
    split at hx
    · rename_i kt et m' k' v' hu hm hk hv
      split at hx
      · rename_i ks hks
        injection hx with hx; injection hx with hx; subst hx
        simp only [effA] at ha
        obtain ⟨hok, ha⟩ := cond_some ha
        split at ha
        · rename_i mb hmb
          split at ha
          · rename_i es hes
            split at ha
            · rename_i es' hes'
              injection ha with ha; injection ha with ha1 ha2; subst ha1; subst ha2
              have hvm := hE _ _ hm
              rw [hmb] at hvm
              exact eff_mapUpdate hS (.inr ho) hu hks hvm (hE _ _ hk) (hE _ _ hv) hok hes hes'
            · cases ha
          · cases ha
        · cases ha
      · cases hx
    · cases hx
  case store t y v =>
    simp only [xop, ho] at hx
    split at hx
    · rename_i n y' v' hn hy hv
      injection hx with hx; injection hx with hx; subst hx
      simp only [effA] at ha
      obtain ⟨hl, ha⟩ := cond_some ha
      split at ha
      · rename_i b k hb
        split at ha
        · rename_i h2 hst
          injection ha with ha; injection ha with ha1 ha2; subst ha1; subst ha2
          have hvy := hE _ _ hy
          rw [hb] at hvy
          exact eff_store hS ho hn hvy (hE _ _ hv) (Nat.eq_of_beq_eq_true hl) hst
        · cases ha
      · cases ha
    · cases hx
  case makeMap t r =>
    cases r
    · simp only [xop, ho] at hx
      injection hx with hx; injection hx with hx; subst hx
      simp only [effA] at ha
      injection ha with ha; injection ha with ha1 ha2; subst ha1; subst ha2
      exact (eff_mkMap ho).eff hS
    · simp only [xop, ho, reduceCtorEq] at hx
  case makeSlice t l c =>
    simp only [xop, ho] at hx
    split at hx
    · rename_i e hte
      split at hx
      · rename_i n bs z l' c' hn hbs hz hl hc
        split at hx
        · rename_i hcond
          injection hx with hx; injection hx with hx; subst hx
          simp only [effA] at ha
          split at ha
          · rename_i ln cn hln hcn
            obtain ⟨hb, ha⟩ := cond_some ha
            injection ha with ha; injection ha with ha1 ha2; subst ha1; subst ha2
            simp only [Bool.and_eq_true] at hb
            unfold elemT at hte
            split at hte
            · rename_i e' hu
              injection hte with hte; subst hte
              have := eff_mkSlice (g := g) ho hu hn hbs hz hcond.1 hcond.2 hln hcn (hE _ _ hl) (hE _ _ hc) (Nat.le_of_ble_eq_true hb.1.1) (Nat.le_of_ble_eq_true hb.1.2) (Nat.le_of_ble_eq_true hb.2)
              rw [hcond.1]
              exact this.eff hS
            · cases hte
          · cases ha
        · cases hx
      · cases hx
    · cases hx
  case call c =>
    simp only [xop, ho] at hx
    have hexec : execOp η o = (do let d ← resolve η c o.type; invoke d.target d.args) := by simp only [execOp, ho]
    rw [hexec]
    split at hx
    · rename_i args hargs
      split at hx
      · rename_i b hb
        unfold xbuiltin at hx
        split at hx
        · repeat' (split at hx)
          all_goals first | (cases hx; done) | (injection hx with hx; cases hx; done)
        · split at hx
          · rename_i t u ht hu
            split at hx
            · rename_i e d hte hud
              split at hx
              · rename_i es bs z hes hbs hz
                split at hx
                · rename_i hc
                  injection hx with hx; injection hx with hx; subst hx
                  simp only [effA] at ha
                  unfold elemT at hte
                  split at hte
                  · rename_i e' hu'
                    injection hte with hte; subst hte
                    exact eff_append hS hE hargs hb ht hu hu' hud hes hbs hz hc.1 hc.2.2 ha
                  · cases hte
                · cases hx
              · cases hx
            · cases hx
          · cases hx
        · split at hx
          · rename_i t u ht hu
            split at hx
            · rename_i e d hte hud
              split at hx
              · rename_i es hes
                injection hx with hx; injection hx with hx; subst hx
                simp only [effA] at ha
                split at ha
                · rename_i b o n ex cc es' m hs hm
                  obtain ⟨_, ha⟩ := cond_some ha
                  split at ha
                  · rename_i cs hcs
                    split at ha
                    · rename_i h2 hst
                      injection ha with ha; injection ha with ha1 ha2; subst ha1; subst ha2
                      unfold elemT at hte
                      split at hte
                      · rename_i e' hu'
                        injection hte with hte; subst hte
                        exact eff_copy hS hE hargs hb ht hu' hes hs hm hcs hst
                      · cases hte
                    · cases ha
                  · cases ha
                · cases ha
              · cases hx
            · cases hx
          · cases hx
        · split at hx
          · rename_i t ht
            split at hx
            · rename_i e hte
              split at hx
              · rename_i z es hz hes
                split at hx
                · rename_i hc
                  injection hx with hx; injection hx with hx; subst hx
                  unfold elemT at hte
                  split at hte
                  · rename_i e' hu'
                    injection hte with hte; subst hte
                    exact eff_clear hS hE hargs hb ht hu' hz hc.1 hc.2 ha
                  · cases hte
                · cases hx
              · cases hx
            · cases hx
          · cases hx
        all_goals
          repeat' (split at hx)
          all_goals first | (cases hx; done) | (injection hx with hx; cases hx; done)
      · split at hx
        · injection hx with hx; cases hx
        · cases hx
      · cases hx
    · cases hx
  case binOp op t y z yt =>
    simp only [xop, ho] at hx
    obtain ⟨px, hp⟩ := xbin_p hx
    cases hp
  case unOp u t y =>
    cases u <;> simp only [xop, ho, reduceCtorEq] at hx <;> (repeat' (split at hx))
    all_goals first | (cases hx; done) | (injection hx with hx; cases hx; done)
  case makeFunc fn b c =>
    cases fn <;> simp only [xop, ho, reduceCtorEq] at hx <;> (repeat' (split at hx))
    all_goals first | (cases hx; done) | (injection hx with hx; cases hx; done)
  all_goals first
    | (simp only [xop, ho, reduceCtorEq] at hx; done)
    | (simp only [xop, ho] at hx; repeat' (split at hx)
       all_goals first | (cases hx; done) | (injection hx with hx; cases hx; done))

end
end Go.Av
end

section
/- What makes a block, whatever the heap. -/
namespace Go.Av
section
variable {P : Program} {g : Gh} {ev : XOpd → AVal} {η : Operand → Value}

theorem alloc_sound (hE : OR g ev η) {o : Oper} {x : XEff} (hx : xop P o = some (.f x)) (hal : XOp.isAl (.f x) = true) {k : AK} {b : Blk} (ha : allocA ev x = some (k, b)) : AllocRes g k b ((execOp η o).run P g.w) := by
  have ho : ∃ op, o.op = op := ⟨_, rfl⟩
  obtain ⟨op, ho⟩ := ho
  cases op
  case alloc e =>
    simp only [xop, ho] at hx
    split at hx
    · rename_i z hz
      injection hx with hx; injection hx with hx; subst hx
      simp only [allocA] at ha
      injection ha with ha; injection ha with ha1 ha2; subst ha1; subst ha2
      exact eff_alloc ho hz
    · cases hx
  case box e y =>
    simp only [xop, ho] at hx
    split at hx
    · rename_i n y' hn hy
      injection hx with hx; injection hx with hx; subst hx
      simp only [allocA] at ha
      obtain ⟨_, ha⟩ := cond_some ha
      injection ha with ha; injection ha with ha1 ha2; subst ha1; subst ha2
      exact eff_box ho (hE _ _ hy)
    · cases hx
  case buildSlice t n ps =>
    simp only [xop, ho] at hx
    split at hx
    · rename_i e hte
      split at hx
      · rename_i es z l hes hz hl
        split at hx
        · rename_i hc
          injection hx with hx; injection hx with hx; subst hx
          simp only [allocA] at ha
          split at ha
          · rename_i cs hcs
            injection ha with ha; injection ha with ha1 ha2; subst ha1; subst ha2
            unfold elemT at hte
            split at hte
            · rename_i e' hu
              injection hte with hte; subst hte
              exact eff_buildSlice hE ho hu hes hz hl hc.1 hc.2.1 hc.2.2 hcs
            · cases hte
          · cases ha
        · cases hx
      · cases hx
    · cases hx
  case makeMap t r =>
    cases r
    · simp only [xop, ho] at hx
      injection hx with hx; injection hx with hx; subst hx
      simp only [allocA] at ha
      injection ha with ha; injection ha with ha1 ha2; subst ha1; subst ha2
      exact eff_mkMap ho
    · simp only [xop, ho, reduceCtorEq] at hx
  case makeSlice t l c =>
    simp only [xop, ho] at hx
    split at hx
    · rename_i e hte
      split at hx
      · rename_i n bs z l' c' hn hbs hz hl hc
        split at hx
        · rename_i hcond
          injection hx with hx; injection hx with hx; subst hx
          simp only [allocA] at ha
          split at ha
          · rename_i ln cn hln hcn
            obtain ⟨hb, ha⟩ := cond_some ha
            injection ha with ha; injection ha with ha1 ha2; subst ha1; subst ha2
            simp only [Bool.and_eq_true] at hb
            unfold elemT at hte
            split at hte
            · rename_i e' hu
              injection hte with hte; subst hte
              have := eff_mkSlice (g := g) ho hu hn hbs hz hcond.1 hcond.2 hln hcn (hE _ _ hl) (hE _ _ hc) (Nat.le_of_ble_eq_true hb.1.1) (Nat.le_of_ble_eq_true hb.1.2) (Nat.le_of_ble_eq_true hb.2)
              rw [hcond.1]
              exact this
            · cases hte
          · cases ha
        · cases hx
      · cases hx
    · cases hx
  case binOp op t y z yt =>
    simp only [xop, ho] at hx
    obtain ⟨px, hp⟩ := xbin_p hx
    cases hp
  case call c =>
    exfalso
    simp only [xop, ho] at hx
    split at hx
    · rename_i args hargs
      split at hx
      · unfold xbuiltin at hx
        repeat' (first | contradiction | split at hx | (injection hx with hx; first | (cases hx; done) | (injection hx with hx; subst hx; simp only [XOp.isAl, Bool.false_eq_true] at hal)) | cases hx)
      · split at hx
        · injection hx with hx; cases hx
        · cases hx
      · cases hx
    · cases hx
  all_goals
    exfalso
    simp only [xop, ho] at hx
    repeat' (first | contradiction | split at hx | (injection hx with hx; first | (cases hx; done) | (injection hx with hx; subst hx; simp only [XOp.isAl, Bool.false_eq_true] at hal)) | cases hx)

end
end Go.Av
end

section
/- A block that was made early, taken up in its turn. -/
namespace Go.Av
section
variable {P : Program} {g : Gh} {h : Heap}

def Gh.push (g : Gh) (o : Obj) : Gh := { g with w := { g.w with heap := g.w.heap.push o } }

theorem Sim.push (hS : Sim g h) (o : Obj) : Sim (g.push o) h ∧ Step g h (g.push o) h := by
  have hget : ∀ R, R < g.w.heap.size → (g.push o).w.heap[R]? = g.w.heap[R]? := by
    intro R hR; simp only [Gh.push, push_get]; rw [if_neg (by omega)]
  have st : Step g h (g.push o) h := ⟨fun _ _ h => h, fun _ h => h, fun _ _ _ h => h, ⟨rfl, rfl, rfl⟩, by simp [Gh.push], fun R hR ho => ⟨hget R hR, ho⟩, fun R c e f hw => ⟨c, f, (hget R (Array.getElem?_eq_some_iff.1 hw).1).trans hw, rfl⟩⟩
  exact ⟨⟨fun b x hb => BR.mono st hS (hS.blk b x hb) fun R O hr => hget R (hS.lt hb hr), hS.inj, hS.fresh, fun R hR => ⟨by have := (hS.im R hR).1; simp [Gh.push]; omega, (hS.im R hR).2⟩⟩, st⟩

def Gh.adopt (g : Gh) (b : Pos) (R : Nat) : Gh := { g with ρ := fun c => if b = c then some (R, 0) else g.ρ c }

theorem Sim.dead (hS : Sim g h) : h.get h.next = none := by
  cases hb : h.get h.next with
  | none => rfl
  | some x => obtain ⟨R, O, hr⟩ := hS.live hb; rw [hS.nextFresh] at hr; cases hr

theorem Sim.adopt (hS : Sim g h) {R : Nat} {o : Obj} {blk : Blk} {u : Value} {k : AK} (hw : g.w.heap[R]? = some o) (hk : AKR R o u k) (hb : OB g o blk) (hno : ¬ owned g h R) (him : ¬ g.im R) :
    Sim (g.adopt h.next R) (h.new blk) ∧ Step g h (g.adopt h.next R) h ∧ VR (g.adopt h.next R) (k.val h.next) u ∧
      (∀ R', R' ≠ R → ¬ owned g h R' → ¬ owned (g.adopt h.next R) (h.new blk) R') := by
  have hρ : (g.adopt h.next R).ρ h.next = some (R, 0) := by simp [Gh.adopt]
  have hold : ∀ b p, g.ρ b = some p → (g.adopt h.next R).ρ b = some p := by
    intro b p hb
    have : ¬ h.next = b := by rintro rfl; rw [hS.nextFresh] at hb; cases hb
    simp [Gh.adopt, this, hb]
  have hownA : ∀ R', owned (g.adopt h.next R) h R' → owned g h R' := by
    rintro R' ⟨b, x, O, hb, hr⟩
    have : ¬ h.next = b := by rintro rfl; rw [hS.dead] at hb; cases hb
    simp only [Gh.adopt, if_neg this] at hr
    exact ⟨b, x, O, hb, hr⟩
  have st : Step g h (g.adopt h.next R) h := ⟨hold, fun _ h => h, fun _ _ _ h => h, ⟨rfl, rfl, rfl⟩, Nat.le_refl _, fun R' _ ho => ⟨rfl, fun hh => ho (hownA R' hh)⟩, fun R' c e f hw => ⟨c, f, hw, rfl⟩⟩
  have hwR : (g.adopt h.next R).w.heap[R]? = some o := hw
  have hown : ∀ R', R' ≠ R → ¬ owned g h R' → ¬ owned (g.adopt h.next R) (h.new blk) R' := by
    rintro R' hne ho ⟨b, x, O, hb, hr⟩
    rw [Heap.get_new] at hb
    simp only [Gh.adopt] at hr
    split at hr
    · injection hr with hr; injection hr with e1 _; exact hne e1.symm
    · rename_i hnb
      rw [if_neg hnb] at hb
      exact ho ⟨b, x, O, hb, hr⟩
  refine ⟨⟨?_, ?_, ?_, ?_⟩, st, hk.vr hρ hwR, hown⟩
  · intro b y hb'
    rw [Heap.get_new] at hb'
    split at hb'
    · rename_i e; subst e; injection hb' with hb'; subst hb'; exact (hb.mono st hS).br hρ hwR
    · exact BR.mono st hS (hS.blk b y hb') fun _ _ _ => rfl
  · intro b b' y y' R1 O O' hb1 hb2 hr1 hr2
    rw [Heap.get_new] at hb1 hb2
    simp only [Gh.adopt] at hr1 hr2
    split at hb1 <;> split at hb2
    · rename_i e e'; exact e.symm.trans e'
    · rename_i e e'
      rw [if_pos e] at hr1; rw [if_neg e'] at hr2
      injection hr1 with hr1; injection hr1 with e1 _; subst e1
      exact absurd ⟨b', y', O', hb2, hr2⟩ hno
    · rename_i e e'
      rw [if_neg e] at hr1; rw [if_pos e'] at hr2
      injection hr2 with hr2; injection hr2 with e1 _; subst e1
      exact absurd ⟨b, y, O, hb1, hr1⟩ hno
    · rename_i e e'
      rw [if_neg e] at hr1; rw [if_neg e'] at hr2
      exact hS.inj b b' y y' R1 O O' hb1 hb2 hr1 hr2
  · intro b p hr
    simp only [Gh.adopt] at hr
    show b.val < h.next.succ.val
    rw [Pos.val_succ]
    split at hr
    · rename_i e; subst e; omega
    · have := hS.fresh b p hr; omega
  · intro R' hR'
    have h1 := hS.im R' hR'
    exact ⟨h1.1, hown R' (fun e => him (e ▸ hR')) h1.2⟩

theorem Step.adopt {g0 : Gh} {h0 : Heap} (s0 : Step g0 h0 g h) (hS : Sim g h) {R : Nat} {o : Obj} {blk : Blk} {u : Value} {k : AK} (hw : g.w.heap[R]? = some o) (hk : AKR R o u k) (hb : OB g o blk) (hno : ¬ owned g h R) (him : ¬ g.im R) (hR : g0.w.heap.size ≤ R) :
    Step g0 h0 (g.adopt h.next R) (h.new blk) := by
  obtain ⟨_, st, _, hown⟩ := hS.adopt hw hk hb hno him
  have s := s0.trans st
  exact ⟨s.rho, s.im, s.imo, s.rest, s.size, fun R' hR' ho => ⟨(s.frame R' hR' ho).1, hown R' (by omega) (s0.frame R' hR' ho).2⟩, s.shape⟩

end
end Go.Av
end

section
/- A slice that nobody writes any more is its elements. -/
namespace Go.Av
section
variable {P : Program} {g : Gh} {h : Heap}

def Gh.still (g : Gh) (R : Nat) : Gh := { g with im := fun R' => R' = R ∨ g.im R' }

theorem freeze1_sound (hS : Sim g h) {v : AVal} {u : Value} (hv : VR g v u) :
    ∃ g', g'.w = g.w ∧ Sim g' (freeze1 v h).2 ∧ Step g h g' (freeze1 v h).2 ∧ VR g' (freeze1 v h).1 u := by
  have triv : ∃ g', g'.w = g.w ∧ Sim g' h ∧ Step g h g' h ∧ VR g' v u := ⟨g, rfl, hS, Step.refl _ _, hv⟩
  cases v <;> try exact triv
  rename_i b o n ex c es
  simp only [freeze1]
  split
  · rename_i m t hb
    split
    · rename_i cs hcs
      have hv0 := hv
      simp only [VR] at hv
      obtain ⟨R, O, rc, hr, e, h1, h2, h3, h4⟩ := hv
      obtain ⟨hc, hl⟩ := cells_CR hS hb hr hcs
      have hlt := hS.lt hb hr
      have hown : owned g h R := ⟨b, _, O, hb, hr⟩
      have hsub : ∀ R', owned (g.still R) (h.kill b) R' → owned g h R' ∧ R' ≠ R := by
        rintro R' ⟨b', x, O', hb', hr'⟩
        rw [Heap.get_kill] at hb'
        split at hb'
        · cases hb'
        · rename_i hne
          refine ⟨⟨b', x, O', hb', hr'⟩, ?_⟩
          rintro rfl
          exact hne (hS.inj _ _ _ _ _ _ _ hb hb' hr hr')
      have st : Step g h (g.still R) (h.kill b) := ⟨fun _ _ h => h, fun _ h => .inr h, fun R' _ ho hi => hi.resolve_left fun e => ho (e ▸ hown), ⟨rfl, rfl, rfl⟩, Nat.le_refl _, fun R' _ ho => ⟨rfl, fun hh => ho (hsub R' hh).1⟩, fun R' c e f hw => ⟨c, f, hw, rfl⟩⟩
      refine ⟨g.still R, rfl, ⟨fun b' x hb' => ?_, fun b1 b2 x1 x2 R' O1 O2 hb1 hb2 hr1 hr2 => ?_, fun b' p hp => hS.fresh b' p hp, fun R' hR' => ?_⟩, st, ?_⟩
      · rw [Heap.get_kill] at hb'
        split at hb'
        · cases hb'
        · exact BR.mono st hS (hS.blk b' x hb') fun _ _ _ => rfl
      · rw [Heap.get_kill] at hb1 hb2
        split at hb1
        · cases hb1
        · split at hb2
          · cases hb2
          · exact hS.inj b1 b2 x1 x2 R' O1 O2 hb1 hb2 hr1 hr2
      · rcases hR' with rfl | hR'
        · exact ⟨hlt, fun hh => (hsub _ hh).2 rfl⟩
        · exact ⟨(hS.im R' hR').1, fun hh => (hS.im R' hR').2 (hsub _ hh).1⟩
      · simp only [VR]
        refine ⟨R, O + o, rc, none, e, by omega, .inr (.inl rfl), ?_, .inr rfl⟩
        have hc' : ∀ (cs : List AVal) (o : Nat), CR g cs R o → CR (g.still R) cs R o := by
          intro cs
          induction cs with
          | nil => intro o _; simp only [CR]
          | cons a as ih =>
            intro o hh
            simp only [CR] at hh ⊢
            obtain ⟨⟨v, hcv, hv⟩, hr⟩ := hh
            exact ⟨⟨v, hcv, VR.mono st hS a v hv⟩, ih _ hr⟩
        exact hc' _ _ hc
    · exact triv
  · exact triv

theorem freezeL_sound : ∀ (l : List AVal) {g : Gh} {h : Heap} {us : List Value} (_ : Sim g h) (_ : VRs g l us),
    ∃ g', g'.w = g.w ∧ Sim g' (freezeL l h).2 ∧ Step g h g' (freezeL l h).2 ∧ VRs g' (freezeL l h).1 us
  | [], g, h, us, hS, hv => ⟨g, rfl, hS, Step.refl _ _, hv⟩
  | v :: l, g, h, us, hS, hv => by
    simp only [VRs] at hv
    obtain ⟨u, us', rfl, hu, hus⟩ := hv
    obtain ⟨g1, w1, S1, st1, v1⟩ := freeze1_sound hS hu
    obtain ⟨g2, w2, S2, st2, v2⟩ := freezeL_sound l S1 (VRs.mono st1 hS _ _ hus)
    refine ⟨g2, w2.trans w1, S2, st1.trans st2, ?_⟩
    simp only [freezeL, VRs]
    exact ⟨u, us', rfl, VR.mono st2 S1 _ _ v1, v2⟩

theorem freeze2_sound (hS : Sim g h) {v : AVal} {u : Value} (hv : VR g v u) :
    ∃ g', g'.w = g.w ∧ Sim g' (freeze2 v h).2 ∧ Step g h g' (freeze2 v h).2 ∧ VR g' (freeze2 v h).1 u := by
  cases v <;> try exact freeze1_sound hS hv
  rename_i cs
  simp only [VR] at hv
  obtain ⟨c, rfl, hc⟩ := hv
  obtain ⟨g1, w1, S1, st1, v1⟩ := freezeL_sound cs hS hc
  exact ⟨g1, w1, S1, st1, by simp only [freeze2, VR]; exact ⟨c, rfl, v1⟩⟩

theorem freezeM_sound : ∀ (l : List AVal) {g : Gh} {h : Heap} {us : List Value} (_ : Sim g h) (_ : VRs g l us),
    ∃ g', g'.w = g.w ∧ Sim g' (freezeM l h).2 ∧ Step g h g' (freezeM l h).2 ∧ VRs g' (freezeM l h).1 us
  | [], g, h, us, hS, hv => ⟨g, rfl, hS, Step.refl _ _, hv⟩
  | v :: l, g, h, us, hS, hv => by
    simp only [VRs] at hv
    obtain ⟨u, us', rfl, hu, hus⟩ := hv
    obtain ⟨g1, w1, S1, st1, v1⟩ := freeze2_sound hS hu
    obtain ⟨g2, w2, S2, st2, v2⟩ := freezeM_sound l S1 (VRs.mono st1 hS _ _ hus)
    refine ⟨g2, w2.trans w1, S2, st1.trans st2, ?_⟩
    simp only [freezeM, VRs]
    exact ⟨u, us', rfl, VR.mono st2 S1 _ _ v1, v2⟩

theorem freezeA_sound (hS : Sim g h) {v : AVal} {u : Value} (hv : VR g v u) :
    ∃ g', g'.w = g.w ∧ Sim g' (freezeA v h).2 ∧ Step g h g' (freezeA v h).2 ∧ VR g' (freezeA v h).1 u := by
  cases v <;> try exact freeze2_sound hS hv
  rename_i cs
  simp only [VR] at hv
  obtain ⟨c, rfl, hc⟩ := hv
  obtain ⟨g1, w1, S1, st1, v1⟩ := freezeM_sound cs hS hc
  exact ⟨g1, w1, S1, st1, by simp only [freezeA, VR]; exact ⟨c, rfl, v1⟩⟩
end
end Go.Av
end

section
/- One operation, and a row of operations in the order of the text. -/
namespace Go.Av
section
variable {P : Program}

/-- what a deferred call must be: it comes back, and nothing has changed -/
def QuietD (P : Program) (d : Deferred) : Prop :=
  ∃ fv cap f args, d.target = .fn fv cap ∧ (∀ w, (invoke d.target d.args).run P w = .ok (.enter f args) w) ∧
    ∀ w, CallsD P f args .returning w fun e u w' => (∃ v, e = .returned v) ∧ u = .returning ∧ w' = w

structure ActR (P : Program) (g : Gh) (e : Env) (a : Act) (n : Nat) : Prop where
  size : a.tmps.size = n
  env : ∀ t, VR g (getE e (.t (Pos.nth t))) (a.tmps.getD t undef)
  defers : ∀ d ∈ a.defers, QuietD P d

/-- how a call ends -/
def Ends (g : Gh) (h : Heap) (a : AVal) (h' : Heap) (e : Ending) (w' : World) : Prop :=
  ∃ v g', e = .returned v ∧ g'.w = w' ∧ Sim g' h' ∧ Step g h g' h' ∧ VR g' a v

def CallRes (P : Program) (g : Gh) (h : Heap) (a : AVal) (h' : Heap) (f : Nat) (vs : Array Value) : Prop :=
  (∃ v g', (callFunc f vs).run P g.w = .ok (.value v) g'.w ∧ Sim g' h' ∧ Step g h g' h' ∧ VR g' a v) ∨
  ((callFunc f vs).run P g.w = .ok (.enter f vs) g.w ∧ Calls P f vs g.w (Ends g h a h'))

def CallSpec (P : Program) (call : CallFn) : Prop :=
  ∀ f args h a h' g (vs : Array Value), call f args h = some (a, h') → Sim g h → VRs g args vs.toList → CallRes P g h a h' f vs

def NoopSpec (P : Program) (noop : Nat → Bool) : Prop :=
  ∀ f, noop f = true → ∀ cap args, QuietD P { target := .fn (.func f) cap, args }

theorem VR_bool {g : Gh} {a : AVal} {b : Bool} (h : VR g a (.bool b)) : a = .bool b := by
  cases a <;> simp only [VR] at h
  case bool => rw [Value.bool.injEq] at h; rw [h]
  all_goals (exfalso; simp at h)

theorem ActR.or {g : Gh} {e : Env} {a : Act} {n : Nat} (h : ActR P g e a n) : OR g (getE e) a.eval := by
  intro y y' hy
  cases y with
  | tmp t => simp only [xopd, Option.some.injEq] at hy; subst hy; exact h.env t
  | const v =>
    simp only [xopd] at hy
    split at hy
    · rename_i c hc; injection hy with hy; subst hy; exact ofValue_VR g v c hc
    · cases hy
  | func f => simp only [xopd, Option.some.injEq] at hy; subst hy; simp only [getE, Act.eval, VR, VRs]; exact ⟨#[], #[], rfl, rfl, rfl⟩
  | global x => cases hy

theorem ActR.mono {g g' : Gh} {h h' : Heap} {e : Env} {a : Act} {n : Nat} (hA : ActR P g e a n) (hS : Sim g h) (st : Step g h g' h') : ActR P g' e a n where
  size := hA.size
  env t := VR.mono st hS _ _ (hA.env t)
  defers := hA.defers

theorem getE_set {e : Env} {d : Nat} {v : AVal} {t : Nat} : getE (Tr.put (some v) (Pos.nth d) e) (.t (Pos.nth t)) = if d = t then v else getE e (.t (Pos.nth t)) := by
  simp only [getE, Tr.get_put]
  by_cases h : d = t
  · subst h; simp
  · have : ¬ Pos.nth d = Pos.nth t := fun hh => h (Pos.nth_inj hh)
    simp [h, this]

theorem VR_undef (g : Gh) : VR g undefA undef := by
  simp only [VR]; exact ⟨#[], rfl, by simp [VRs]⟩

theorem ActR.put {g : Gh} {e : Env} {a : Act} {n : Nat} (hA : ActR P g e a n) {dst : Option Tmp} {dst' : Option Pos} (hd : xdst n dst = some dst') {v : AVal} {u : Value} (hv : VR g v u) : ActR P g (setE e dst' v) (a.put dst u) n := by
  cases dst with
  | none => simp only [xdst, Option.some.injEq] at hd; subst hd; exact hA
  | some d =>
    simp only [xdst] at hd
    split at hd
    · rename_i hlt
      injection hd with hd; subst hd
      refine ⟨by simp [Act.put, hA.size], fun t => ?_, hA.defers⟩
      simp only [setE, getE_set, Act.put, Array.getD_eq_getD_getElem?, Array.getElem?_setIfInBounds]
      by_cases h : d = t
      · subst h; simp only [if_pos, hA.size, hlt, Option.getD_some]; exact hv
      · simp only [h, if_false]
        have := hA.env t
        rwa [Array.getD_eq_getD_getElem?] at this
    · cases hd

theorem goes_wanted' {g : Gh} {e : Env} {tmps : Array Value} {ops : Array Oper} {o : Oper} {gd : Option (Pos × Bool)} (hg : xguard ops o.guard = some gd)
    (henv : ∀ j w oj d, o.guard = some (j, w) → ops[j]? = some oj → oj.dst = some d → VR g (getE e (.t (Pos.nth d))) (tmps.getD d undef)) : Region.wanted o (yielded ops tmps) = goes e gd := by
  unfold Region.wanted
  cases hq : o.guard with
  | none => simp only [hq, xguard, Option.some.injEq] at hg; subst hg; rfl
  | some jw =>
    obtain ⟨j, want⟩ := jw
    simp only [hq, xguard] at hg
    split at hg
    · rename_i oj hj
      split at hg
      · rename_i d hd
        injection hg with hg; subst hg
        have hv := henv j want oj d hq hj hd
        simp only [goes, yielded, hj, Option.bind_some, hd]
        rw [Array.getD_eq_getD_getElem?] at hv
        cases hget : e.get (Pos.nth d) with
        | none =>
          simp only [getE, hget] at hv
          cases ht : tmps[d]? with
          | none => simp
          | some v =>
            simp only [ht, Option.getD_some] at hv
            cases v <;> first | rfl | skip
            exact absurd (VR_bool hv) (by simp)
        | some av =>
          simp only [getE, hget] at hv
          cases ht : tmps[d]? with
          | none =>
            simp only [ht, Option.getD_none] at hv
            cases av <;> first | rfl | skip
            simp only [VR] at hv; cases hv
          | some v =>
            simp only [ht, Option.getD_some] at hv
            cases av with
            | bool b => simp only [VR] at hv; subst hv; cases b <;> cases want <;> rfl
            | _ =>
              cases v <;> first | rfl | skip
              exact absurd (VR_bool hv) (by simp)
      · cases hg
    · cases hg

theorem goes_wanted {g : Gh} {e : Env} {a : Act} {n : Nat} (hA : ActR P g e a n) {ops : Array Oper} {o : Oper} {gd : Option (Pos × Bool)} (hg : xguard ops o.guard = some gd) : Region.wanted o (yielded ops a.tmps) = goes e gd :=
  goes_wanted' hg fun _ _ _ d _ _ _ => hA.env d

theorem xop_call {o : Oper} {xf : XOpd} {xs : List XOpd} (hx : xop P o = some (.call xf xs)) : ∃ c f, o.op = .call c ∧ c.callee = .value f ∧ xopd f = some xf ∧ xopds c.args.toList = some xs := by
  obtain ⟨dst, op, ty, pos, after, guard⟩ := o
  cases op
  case call c =>
    simp only [xop] at hx
    split at hx
    · rename_i args hargs
      split at hx
      · rename_i b hb
        exfalso
        unfold xbuiltin at hx
        repeat' (first | contradiction | split at hx | (injection hx with hx; cases hx) | cases hx)
      · rename_i f hf
        split at hx
        · rename_i f' hf'
          injection hx with hx; injection hx with h1 h2; subst h1; subst h2
          exact ⟨c, f, rfl, hf, hf', hargs⟩
        · cases hx
      · cases hx
    · cases hx
  case binOp op t x y z =>
    exfalso
    simp only [xop, xbin] at hx
    repeat' (first | contradiction | split at hx | (injection hx with hx; cases hx) | cases hx | (unfold xbin.eq at hx))
  all_goals
    exfalso
    simp only [xop] at hx
    repeat' (first | contradiction | split at hx | (injection hx with hx; cases hx) | cases hx)

theorem xop_dfr {o : Oper} {xf : XOpd} (hx : xop P o = some (.dfr xf)) : ∃ c f, o.op = .defer c ∧ c.callee = .value f ∧ xopd f = some xf := by
  obtain ⟨dst, op, ty, pos, after, guard⟩ := o
  cases op
  case «defer» c =>
    simp only [xop] at hx
    split at hx
    · rename_i f hf
      split at hx
      · rename_i f' hf'
        injection hx with hx; injection hx with h1; subst h1
        exact ⟨c, f, rfl, hf, hf'⟩
      · cases hx
    · cases hx
  case call c =>
    exfalso
    simp only [xop] at hx
    split at hx
    · split at hx
      · unfold xbuiltin at hx
        repeat' (first | contradiction | split at hx | (injection hx with hx; cases hx) | cases hx)
      · split at hx
        · injection hx with hx; cases hx
        · cases hx
      · cases hx
    · cases hx
  case binOp op t x y z =>
    exfalso
    simp only [xop, xbin] at hx
    repeat' (first | contradiction | split at hx | (injection hx with hx; cases hx) | cases hx | (unfold xbin.eq at hx))
  all_goals
    exfalso
    simp only [xop] at hx
    repeat' (first | contradiction | split at hx | (injection hx with hx; cases hx) | cases hx)


theorem exec_sound' {call : CallFn} {noop : Nat → Bool} (hC : CallSpec P call) (hN : NoopSpec P noop) {g : Gh} {h h' : Heap} {ev : XOpd → AVal} {η : Operand → Value} {a : Act} {o : Oper} {x : XOp} {v : AVal} (hx : xop P o = some x)
    (hS : Sim g h) (hE : OR g ev η) (hds : ∀ d ∈ a.defers, QuietD P d) (ho : opA call noop h ev x = some (v, h')) {Q : Exit → Act → World → Prop} {K : Act → World → Prop}
    (hK : ∀ g' u ds, Sim g' h' → Step g h g' h' → VR g' v u → (∀ d ∈ ds, QuietD P d) → K (({ a with defers := ds } : Act).put o.dst u) g'.w) :
    o.upon P a K Q ((execOp η o).run P g.w) := by
  cases x with
  | p x =>
    simp only [opA] at ho
    split at ho
    · rename_i v' hv
      injection ho with ho; injection ho with h1 h2; subst h1; subst h2
      obtain ⟨u, hr, hu⟩ := pure_sound (w := g.w) hE hx hv
      rw [hr]; exact hK g u a.defers hS (Step.refl _ _) hu hds
    · cases ho
  | r x =>
    simp only [opA] at ho
    split at ho
    · rename_i v' hv
      injection ho with ho; injection ho with h1 h2; subst h1; subst h2
      obtain ⟨u, hr, hu⟩ := read_sound hS hE hx hv
      rw [hr]; exact hK g u a.defers hS (Step.refl _ _) hu hds
    · cases ho
  | f x =>
    simp only [opA] at ho
    obtain ⟨g', hS', st, hh⟩ := eff_sound hS hE hx ho
    rcases hh with ⟨u, hr, hu⟩ | ⟨hr, rfl⟩
    · rw [hr]; exact hK g' u a.defers hS' st hu hds
    · rw [hr]; exact hK g' undef a.defers hS' st (VR_undef _) hds
  | call xf xs =>
    obtain ⟨c, f, hop, hcal, hf, hargs⟩ := xop_call hx
    simp only [opA] at ho
    split at ho
    · rename_i fid fa fc hfv
      have hvf := hE _ _ hf
      rw [hfv] at hvf
      simp only [VR] at hvf
      obtain ⟨a1, c1, hfe, ha1, hc1⟩ := hvf
      have hl := OR.list hE hargs
      have hall : VRs g (fa ++ xs.map ev ++ fc) ((a1 ++ c.args.map η) ++ c1).toList := by
        simp only [Array.toList_append, Array.toList_map]
        exact (ha1.append hl).append hc1
      have hrun : (execOp η o).run P g.w = (callFunc fid ((a1 ++ c.args.map η) ++ c1)).run P g.w := by
        simp only [execOp, hop, Sem.run_bind, resolve, hcal, Deferred.ofValue, hfe, Sem.run_pure, Result.andThen_ok, invoke]
      rw [hrun]
      rcases hC _ _ _ _ _ g _ ho hS hall with ⟨u, g', hr, hS', st, hu⟩ | ⟨hr, hcalls⟩
      · rw [hr]; exact hK g' u a.defers hS' st hu hds
      · rw [hr, Oper.upon_enter]
        refine Calls.mono hcalls fun ee ww hEnd => ?_
        obtain ⟨u, g', rfl, rfl, h1, h2, h3⟩ := hEnd
        exact hK g' u a.defers h1 h2 h3 hds
    · cases ho
  | dfr xf =>
    obtain ⟨c, f, hop, hcal, hf⟩ := xop_dfr hx
    simp only [opA] at ho
    split at ho
    · rename_i fid fa fc hfv
      have hvf := hE _ _ hf
      rw [hfv] at hvf
      simp only [VR] at hvf
      obtain ⟨a1, c1, hfe, ha1, hc1⟩ := hvf
      obtain ⟨hno, ho⟩ := cond_some ho
      injection ho with ho; injection ho with h1 h2; subst h1; subst h2
      have hrun : (execOp η o).run P g.w = .ok (.defer { target := .fn (.func fid) c1, args := a1 ++ c.args.map η }) g.w := by
        simp only [execOp, hop, Sem.run_bind, resolve, hcal, Deferred.ofValue, hfe, Sem.run_pure, Result.andThen_ok]
      rw [hrun, Oper.upon_defer]
      refine hK g undef _ hS (Step.refl _ _) (VR_undef _) fun d hd => ?_
      cases hd with
      | head => exact hN fid hno _ _
      | tail _ hm => exact hds d hm
    · cases ho
  | bad => cases ho

theorem exec_sound {call : CallFn} {noop : Nat → Bool} (hC : CallSpec P call) (hN : NoopSpec P noop) {g : Gh} {h h' : Heap} {e : Env} {a : Act} {n : Nat} {o : Oper} {x : XOp} {v : AVal} (hx : xop P o = some x)
    (hS : Sim g h) (hA : ActR P g e a n) (ho : opA call noop h (getE e) x = some (v, h')) {Q : Exit → Act → World → Prop} {K : Act → World → Prop}
    (hK : ∀ g' u ds, Sim g' h' → Step g h g' h' → VR g' v u → (∀ d ∈ ds, QuietD P d) → K (({ a with defers := ds } : Act).put o.dst u) g'.w) :
    o.upon P a K Q ((execOp a.eval o).run P g.w) := exec_sound' hC hN hx hS hA.or hA.defers ho hK

def AfterA (P : Program) (n : Nat) (g : Gh) (h : Heap) (e' : Env) (h' : Heap) (a' : Act) (w' : World) : Prop :=
  ∃ g', g'.w = w' ∧ Sim g' h' ∧ Step g h g' h' ∧ ActR P g' e' a' n

theorem ActR.defers' {g : Gh} {e : Env} {a : Act} {n : Nat} (h : ActR P g e a n) {ds : List Deferred} (hd : ∀ d ∈ ds, QuietD P d) : ActR P g e { a with defers := ds } n :=
  ⟨h.size, h.env, hd⟩

theorem oper_sound {call : CallFn} {noop : Nat → Bool} (hC : CallSpec P call) (hN : NoopSpec P noop) {g : Gh} {h h' : Heap} {e e' : Env} {a : Act} {n : Nat} {ops : Array Oper} {i : Nat} {o : Oper} {x : XOper}
    (hi : ops[i]? = some o) (hx : xoper P n ops o = some x) (hS : Sim g h) (hA : ActR P g e a n) (ho : operA call noop x e h = some (e', h')) {Q : Exit → Act → World → Prop} {K : Act → World → Prop}
    (hK : ∀ a' w', AfterA P n g h e' h' a' w' → K a' w') : wpOp P ops Q i K a g.w := by
  unfold xoper at hx
  split at hx
  · rename_i gd d hgd hd
    injection hx with hx; subst hx
    simp only [operA] at ho
    simp only [wpOp, hi, goes_wanted hA hgd]
    cases hgo : goes e gd with
    | false =>
      simp only [hgo, cond_false, Option.some.injEq, Prod.mk.injEq] at ho
      obtain ⟨rfl, rfl⟩ := ho
      simp only [Bool.false_eq_true, if_false]
      exact hK _ _ ⟨g, rfl, hS, Step.refl _ _, hA.put hd (VR_undef _)⟩
    | true =>
      simp only [hgo, cond_true] at ho
      simp only [if_true]
      split at ho
      · rename_i v h1 hop
        injection ho with ho; injection ho with h2 h3; subst h2; subst h3
        cases hxo : xop P o with
        | none => simp only [hxo, opA] at hop; cases hop
        | some xo =>
          simp only [hxo] at hop
          left
          unfold Oper.wp
          exact exec_sound hC hN hxo hS hA hop fun g' u ds h1 h2 h3 h4 => hK _ _ ⟨g', rfl, h1, h2, ((hA.mono hS h2).defers' h4).put hd h3⟩
      · cases ho
  · cases hx

theorem opers_sound {call : CallFn} {noop : Nat → Bool} (hC : CallSpec P call) (hN : NoopSpec P noop) {n : Nat} {ops : Array Oper} {Q : Exit → Act → World → Prop} : ∀ (l : List Nat) (os : List Oper) (xs : List XOper)
    (_ : l.map (fun i => ops[i]?) = os.map some) (_ : xopers P n ops os = some xs) {g : Gh} {h h' : Heap} {e e' : Env} {a : Act} (_ : Sim g h) (_ : ActR P g e a n) (_ : opersA call noop xs e h = some (e', h'))
    (_ : ∀ a' w', AfterA P n g h e' h' a' w' → Q .normal a' w'), wpOps P ops Q l a g.w
  | [], os, xs, hl, hx, g, h, h', e, e', a, hS, hA, ho, hQ => by
    cases os with
    | nil =>
      simp only [xopers, Option.some.injEq] at hx; subst hx
      simp only [opersA, Option.some.injEq, Prod.mk.injEq] at ho
      obtain ⟨rfl, rfl⟩ := ho
      simp only [wpOps]
      exact hQ _ _ ⟨g, rfl, hS, Step.refl _ _, hA⟩
    | cons o os => simp at hl
  | i :: l, os, xs, hl, hx, g, h, h', e, e', a, hS, hA, ho, hQ => by
    cases os with
    | nil => simp at hl
    | cons o os =>
      simp only [List.map_cons, List.cons.injEq] at hl
      simp only [xopers] at hx
      split at hx
      · rename_i x xs' hx1 hx2
        injection hx with hx; subst hx
        simp only [opersA] at ho
        split at ho
        · rename_i e1 h1 hop
          rw [wpOps_cons]
          refine oper_sound hC hN hl.1 hx1 hS hA hop fun a' w' hh => ?_
          obtain ⟨g1, rfl, hS1, st1, hA1⟩ := hh
          refine opers_sound hC hN l os xs' hl.2 hx2 hS1 hA1 ho fun a2 w2 hh2 => ?_
          obtain ⟨g2, rfl, hS2, st2, hA2⟩ := hh2
          exact hQ _ _ ⟨g2, rfl, hS2, st1.trans st2, hA2⟩
        · cases ho
      · cases hx

end
end Go.Av
end
