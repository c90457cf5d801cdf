/- A world is loaded just if its program is right and there is room for its globals, else the checker's error or ErrFull is told (the law MachineLoads, whatever the input). Conditions: none. This file: part F. -/
import Derived.ChangeArms
import Derived.SizedLaws
import Derived.Below
import Derived.Test.YtgghlkikgebipaaGreatD
set_option linter.all false

section
/- What both checkers come to, as a plain function of a program. -/
namespace Go.Ck
open Go.Av

/-- a slice as it is read: none, or its elements -/
inductive Sl (α : Type) where
  | nil
  | mk (l : List α)
def Sl.list {α : Type} : Sl α → List α
  | .nil => []
  | .mk l => l
def Sl.val {α : Type} (enc : α → List AVal) : Sl α → AVal
  | .nil => .nils
  | .mk l => .vec l.length (l.flatMap enc)

abbrev I (n : Int) : AVal := .int .i64 n

structure PAtom where
  g : Bool
  n : Int
structure PClos where
  code : Int
  caps : Sl Int
structure PBranch where
  kind : Int
  n : Int
  arity : Int
  node : Int
structure PNode where
  op : Int
  n : Int
  f : PAtom
  args : Sl PAtom
  clos : Sl PClos
  kid : Int
  brs : Sl PBranch
structure PCode where
  name : List Nat
  free : Int
  args : Int
  node : Int
structure PGlobal where
  code : Int
  float : Bool
  bits : Int
structure PCon where
  name : List Nat
  arity : Int
structure PProg where
  cons : Sl PCon
  codes : Sl PCode
  nodes : Sl PNode
  globals : Sl PGlobal
  main : Int

def PAtom.enc (a : PAtom) : List AVal := [.bool a.g, I a.n]
def PClos.enc (c : PClos) : List AVal := [I c.code, c.caps.val fun n => [I n]]
def PBranch.enc (b : PBranch) : List AVal := [I b.kind, I b.n, I b.arity, I b.node]
def PNode.enc (n : PNode) : List AVal := [I n.op, I n.n, .bool n.f.g, I n.f.n, n.args.val PAtom.enc, n.clos.val PClos.enc, I n.kid, n.brs.val PBranch.enc]
def PCode.enc (c : PCode) : List AVal := [.str c.name, I c.free, I c.args, I c.node]
def PGlobal.enc (g : PGlobal) : List AVal := [I g.code, .bool g.float, .int .u64 g.bits]
def PCon.enc (c : PCon) : List AVal := [.str c.name, I c.arity]
def PProg.enc (p : PProg) : List AVal := [p.cons.val PCon.enc, p.codes.val PCode.enc, p.nodes.val PNode.enc, p.globals.val PGlobal.enc, I p.main]

/-- the state of a check: the first fault, the most slots, what was seen -/
structure St where
  e : Int
  sl : Int
  seen : List (Int × Int)

def need (e : Int) (ok : Bool) (err : Int) : Int := if e = 0 ∧ ok = false then err else e
def below (k n : Int) : Bool := decide (0 ≤ k ∧ k < n)
def len {α : Type} (s : Sl α) : Int := s.list.length
def at' {α : Type} (s : Sl α) (k : Int) : Option α := s.list[k.toNat]?

def atomOk (p : PProg) (slots : Int) (a : PAtom) : Bool := below a.n (if a.g then len p.globals else slots)
def chkArgs (p : PProg) (slots : Int) : List PAtom → Int → Int
  | [], e => e
  | a :: l, e => chkArgs p slots l (need e (atomOk p slots a) 1)
def chkCon (p : PProg) (n kids : Int) (e : Int) : Int :=
  let e1 := need e (below n (len p.cons)) 1
  if e1 = 0 then need e1 (match at' p.cons n with | some c => decide (c.arity = kids) | none => false) 11 else e1
def chkCount (n : PNode) (e : Int) : Int :=
  let e1 := if n.op = 3 then need e (decide (0 ≤ n.n ∧ n.n ≤ 14)) 1 else e
  let want := if n.op = 3 then (if 13 ≤ n.n then 1 else 2) else if n.op = 4 then 3 else if n.op = 5 then 1 else len n.args
  need e1 (decide (len n.args = want)) 11
def chkCaps (more : Int) : List Int → Int → Int
  | [], e => e
  | k :: l, e => chkCaps more l (need e (below k more) 1)
def chkClos (p : PProg) (more : Int) : List PClos → Int → Int
  | [], e => e
  | x :: l, e =>
    if e ≠ 0 then e else
      let e1 := need e (below x.code (len p.codes)) 1
      let e2 := if e1 = 0 then need e1 (match at' p.codes x.code with | some c => decide (len x.caps = c.free) | none => false) 11 else e1
      chkClos p more l (chkCaps more x.caps.list e2)
def chkBranches (p : PProg) (slots : Int) (node : Int → Int → St → St) : List PBranch → St → St
  | [], s => s
  | b :: l, s =>
    if s.e ≠ 0 then s else
      let r : Int × Int :=
        if b.kind = 0 then (chkCon p b.n b.arity s.e, slots + b.arity)
        else if b.kind = 1 then
          let e1 := need s.e (below b.n (len p.globals)) 1
          ((if e1 = 0 then need e1 (match at' p.globals b.n with | some g => decide (g.code < 0) | none => false) 1 else e1), slots)
        else if b.kind = 2 then (s.e, slots + 1)
        else (need s.e false 6, slots)
      chkBranches p slots node l (if r.1 = 0 then node b.node r.2 { s with e := r.1 } else { s with e := r.1 })

def chkNode (p : PProg) : Nat → Int → Int → Int → St → St
  | 0, _, _, _, s => s
  | f + 1, at_, above, slots, s =>
    let e0 := need s.e (below at_ (len p.nodes) && decide (at_ < above)) 1
    if e0 ≠ 0 ∨ (at_, slots) ∈ s.seen then { s with e := e0 } else
      let s1 : St := { e := e0, sl := if slots > s.sl then slots else s.sl, seen := s.seen ++ [(at_, slots)] }
      match at' p.nodes at_ with
      | none => s1
      | some n =>
        let e1 := need s1.e (decide (1 ≤ n.op ∧ n.op ≤ 7)) 6
        let e2 := if n.op = 1 then need e1 (atomOk p slots n.f) 1 else e1
        let e3 := chkCount n (chkArgs p slots n.args.list e2)
        let s3 : St := { s1 with e := e3 }
        if e3 ≠ 0 then s3
        else if n.op = 2 then { s3 with e := chkCon p n.n (len n.args) e3 }
        else if n.op = 6 then
          let e4 := chkClos p (slots + len n.clos) n.clos.list e3
          if e4 = 0 then chkNode p f n.kid at_ (slots + len n.clos) { s3 with e := e4 } else { s3 with e := e4 }
        else if n.op = 7 then
          chkBranches p slots (fun k m s => chkNode p f k at_ m s) n.brs.list (chkNode p f n.kid at_ slots s3)
        else s3

def chkCons : List PCon → Int → Int
  | [], e => e
  | c :: l, e => chkCons l (need e (decide (0 ≤ c.arity ∧ c.arity ≤ 24)) 1)
def globalOk (p : PProg) (g : PGlobal) : Bool :=
  decide (g.code = -1) || (below g.code (len p.codes) && match at' p.codes g.code with | some c => decide (c.free = 0) | none => false)
def chkGlobals (p : PProg) : List PGlobal → Int → Int
  | [], e => e
  | g :: l, e => chkGlobals p l (need e (globalOk p g) 1)
def chkMain (p : PProg) (e : Int) : Int :=
  let e1 := need e (below p.main (len p.globals)) 1
  if e1 ≠ 0 then e1 else match at' p.globals p.main with
    | none => e1
    | some g =>
      let e2 := need e1 (decide (0 ≤ g.code)) 1
      if e2 ≠ 0 then e2 else match at' p.codes g.code with
        | none => e2
        | some c => need e2 (decide (c.args = 0)) 1
def chkRoots (p : PProg) (e : Int) : Int := chkMain p (chkGlobals p p.globals.list (chkCons p.cons.list e))
def chkCode (p : PProg) (c : PCode) (s : St) : St :=
  let e1 := need s.e (decide (0 ≤ c.free ∧ c.free ≤ 64 ∧ 0 ≤ c.args ∧ c.args ≤ 64)) 1
  if e1 = 0 then chkNode p ((len p.nodes).toNat + 1) c.node (len p.nodes) (c.free + c.args) { s with e := e1 } else { s with e := e1 }
def chkCodes (p : PProg) : List PCode → St → St
  | [], s => s
  | c :: l, s => let s1 := chkCode p c s; if s1.e ≠ 0 then s1 else chkCodes p l s1
def chk (p : PProg) : Int :=
  let e := chkRoots p 0
  if e ≠ 0 then e else (chkCodes p p.codes.list { e := e, sl := 0, seen := [] }).e

/-! reading out of a slice -/
theorem flat_at {α : Type} (enc : α → List AVal) (n : Nat) (hn : ∀ x, (enc x).length = n) : ∀ (l : List α) (i : Nat) (x : α), l[i]? = some x → ((l.flatMap enc).drop (i * n)).take n = enc x ∧ i * n + n ≤ (l.flatMap enc).length
  | [], i, x, h => by simp at h
  | a :: l, 0, x, h => by
    simp at h; subst h
    simp only [List.flatMap_cons, Nat.zero_mul, List.drop_zero, List.length_append, hn, Nat.zero_add]
    refine ⟨?_, by omega⟩
    rw [List.take_append_of_le_length (by rw [hn]; exact Nat.le_refl _), List.take_of_length_le (by rw [hn]; exact Nat.le_refl _)]
  | a :: l, i + 1, x, h => by
    obtain ⟨h1, h2⟩ := flat_at enc n hn l i x (by simpa using h)
    have e1 : (i + 1) * n = n + i * n := by rw [Nat.add_mul]; omega
    rw [e1]
    simp only [List.flatMap_cons, List.length_append, hn]
    refine ⟨?_, by omega⟩
    have hd : (enc a ++ l.flatMap enc).drop (n + i * n) = (l.flatMap enc).drop (i * n) := by
      rw [List.drop_append]
      simp [hn, List.drop_eq_nil_of_le]
    rw [hd]; exact h1

end Go.Ck
end

section
/- What a reading of the arguments says: they are plain values of the evaluator. -/
namespace Go.Av
open Go.Ck Go.RowKit
section
variable {H : Type} {enc : TypeId × Value → H} {P : Program} {w : World}
/-- at a call's beginning: all that lies there stays as it is -/
def Gh.old (w : World) : Gh := { ρ := fun _ => none, im := fun R => R < w.heap.size, w }
theorem not_owned_old (w : World) (R : Nat) : ¬ owned (Gh.old w) Heap.empty R := by
  rintro ⟨b, x, O, h, _⟩; cases b <;> cases h
theorem Sim.old (w : World) : Sim (Gh.old w) Heap.empty where
  blk b x h := by cases b <;> cases h
  inj b b' x x' R O O' h := by cases b <;> cases h
  fresh b p h := by cases h
  im R h := ⟨h, not_owned_old w R⟩
theorem Step.belowOld {w : World} {g' : Gh} {h' : Heap} (s : Step (Gh.old w) Heap.empty g' h') : Below w.heap.size w g'.w :=
  ⟨s.rest.1, s.rest.2.1, s.rest.2.2, s.size, fun k hk => (s.frame k hk (not_owned_old w k)).1⟩

def Rd (enc : TypeId × Value → H) (P : Program) (w : World) (t : TypeId) (n : Nat) {α : Type} (e : α → List AVal) (Q : α → Prop) : Prop :=
  P.cellsOf t = n ∧ ∀ (fuel : Nat) (cs : List Value) (x : DataW H × List MemPlace), DataW.trod enc P w 0 (fun _ => true) true fuel t cs = some x → (∀ k ∈ x.1.weights P t, k ≤ reachBytes) → ∃ a : α, VRs (Gh.old w) (e a) cs ∧ Q a

theorem Rd.map {t : TypeId} {n : Nat} {α β : Type} {e : α → List AVal} {Q : α → Prop} {e' : β → List AVal} {Q' : β → Prop} (r : Rd enc P w t n e Q) (f : α → β) (he : ∀ a, e' (f a) = e a) (hQ : ∀ a, Q a → Q' (f a)) : Rd enc P w t n e' Q' :=
  ⟨r.1, fun fuel cs x h hw => by
    obtain ⟨a, h1, h2⟩ := r.2 fuel cs x h hw
    exact ⟨f a, by rw [he]; exact h1, hQ a h2⟩⟩
theorem rd_int {t : TypeId} {k : IntKind} (ht : P.underlying t = some (.int k)) (hc : P.cellsOf t = 1) : Rd enc P w t 1 (fun n : Int => [.int k n]) (fun n => (Lit.int k n).wf = true) :=
  ⟨hc, fun fuel cs x h _ => by
    obtain ⟨n, rfl, rfl, hw⟩ := DataW.trod_int ht h
    exact ⟨n, by simp [VRs, VR], hw⟩⟩
theorem rd_bool {t : TypeId} (ht : P.underlying t = some .bool) (hc : P.cellsOf t = 1) : Rd enc P w t 1 (fun b : Bool => [.bool b]) (fun _ => True) :=
  ⟨hc, fun fuel cs x h _ => by
    obtain ⟨n, rfl, rfl⟩ := DataW.trod_bool ht h
    exact ⟨n, by simp [VRs, VR], trivial⟩⟩
theorem rd_str {t : TypeId} (ht : P.underlying t = some .string) (hc : P.cellsOf t = 1) : Rd enc P w t 1 (fun l : List Nat => [.str l]) (fun l => (∀ x ∈ l, x < 256) ∧ l.length ≤ reachBytes) :=
  ⟨hc, fun fuel cs x h hw => by
    obtain ⟨s, rfl, rfl, _⟩ := DataW.trod_string ht h
    have := hw s.data.toList.length (by simp [DataW.weights])
    refine ⟨strBytes s, by simp [VRs, VR], fun x hx => ?_, by simpa [strBytes] using this⟩
    obtain ⟨b, _, rfl⟩ := List.mem_map.1 hx
    exact b.toNat_lt⟩
theorem cell_spot {w : World} {a : Addr} {v : Value} (h : w.cell? a = some v) : a.spot = none := by
  obtain ⟨b, o, sp⟩ := a
  cases sp with
  | none => rfl
  | some k =>
    simp only [World.cell?] at h
    split at h <;> simp at h
theorem CR_of_cells {g : Gh} {R : Nat} : ∀ {as : List AVal} {cs : List Value} {o : Nat}, VRs g as cs → (∀ j v, cs[j]? = some v → g.w.cell? ⟨R, o + j, none⟩ = some v) → CR g as R o
  | [], _, _, _, _ => by simp [CR]
  | a :: as, cs, o, hv, hc => by
    simp only [VRs] at hv
    obtain ⟨v, vs, rfl, h1, h2⟩ := hv
    simp only [CR]
    refine ⟨⟨v, by have := hc 0 v (by simp); simpa using this, h1⟩, CR_of_cells h2 fun j u hu => ?_⟩
    have := hc (j + 1) u (by simpa using hu)
    rw [show o + 1 + j = o + (j + 1) by omega]; exact this
theorem CR_snoc {g : Gh} {R : Nat} {bs : List AVal} : ∀ {as : List AVal} {o : Nat}, CR g as R o → CR g bs R (o + as.length) → CR g (as ++ bs) R o
  | [], o, _, h => by simpa using h
  | a :: as, o, h1, h2 => by
    simp only [CR, List.cons_append] at h1 ⊢
    exact ⟨h1.1, CR_snoc h1.2 (by rw [show o + 1 + as.length = o + (a :: as).length by simp; omega]; exact h2)⟩
theorem weightsAll_mem {e : TypeId} : ∀ {ds : List (DataW H)} {d : DataW H}, d ∈ ds → ∀ k ∈ d.weights P e, k ∈ DataW.weightsAll P e ds
  | [], _, h, _, _ => by cases h
  | d0 :: ds, d, h, k, hk => by
    simp only [DataW.weightsAll, List.mem_append]
    rcases List.mem_cons.1 h with rfl | h
    · exact .inl hk
    · exact .inr (weightsAll_mem h k hk)
theorem rd_slice {t e : TypeId} {n : Nat} {α : Type} {ea : α → List AVal} {Q : α → Prop} (ht : P.underlying t = some (.slice e)) (hc : P.cellsOf t = 1) (he : Rd enc P w e n ea Q) (hn : 0 < n) (hb : 0 < P.bytesOf e) :
    Rd enc P w t 1 (fun s : Sl α => [s.val ea]) (fun s => (∀ a ∈ s.list, Q a) ∧ s.list.length ≤ reachBytes) :=
  ⟨hc, fun fuel cs x h hw => by
    rcases DataW.trod_slice ht h with ⟨rfl, rfl⟩ | ⟨a, len, cap, elems, rest, m, rfl, rfl, rfl, _, hlc, _, hel, hi, _, _⟩
    · exact ⟨.nil, by simp [VRs, VR, Sl.val], by simp [Sl.list]⟩
    · rw [he.1] at hi
      have hlen : (elems.length + rest.length) * P.bytesOf e ≤ reachBytes := hw _ (by simp [DataW.weights, ht])
      have hlen2 : len ≤ reachBytes := by
        have : elems.length + rest.length ≤ (elems.length + rest.length) * P.bytesOf e := Nat.le_mul_of_pos_right _ hb
        omega
      have one : ∀ i, i < len → ∃ b : α, (ea b).length = n ∧ CR (Gh.old w) (ea b) a.block (a.off + i * n) ∧ Q b ∧ a.spot = none ∧ a.block < w.heap.size := by
        intro i hil
        have h1 := hi i hil
        rw [List.getElem?_eq_getElem (by omega : i < elems.length)] at h1
        obtain ⟨csi, h2, h3⟩ := Option.bind_eq_some_iff.1 h1
        have hwi : ∀ k ∈ (elems[i]).1.weights P e, k ≤ reachBytes := fun k hk => hw k (by
          simp only [DataW.weights, ht, List.mem_cons, List.mem_append]
          exact .inr (.inl (weightsAll_mem (List.mem_map_of_mem (List.getElem_mem _)) k hk)))
        obtain ⟨b, hv, hq⟩ := he.2 _ _ _ h3 hwi
        obtain ⟨_, h5, h6⟩ := World.cells?_some h2
        have hl := VRs.length hv
        have hlt := World.cells?_block h2 hn
        have hblk : (a.add (i * n)).block = a.block := by unfold Addr.add; split <;> rfl
        rw [hblk] at hlt
        have sp : a.spot = none := by
          have h10 := hi 0 (by omega)
          rw [List.getElem?_eq_getElem (by omega : 0 < elems.length)] at h10
          obtain ⟨cs0, h20, _⟩ := Option.bind_eq_some_iff.1 h10
          obtain ⟨_, h50, h60⟩ := World.cells?_some h20
          have h0 := h60 0 hn
          rw [List.getElem?_eq_getElem (by omega : 0 < cs0.length)] at h0
          have := cell_spot h0
          simpa [Addr.add] using this
        refine ⟨b, by omega, CR_of_cells hv fun j v hj => ?_, hq, sp, hlt⟩
        have hjn : j < n := by have := (List.getElem?_eq_some_iff.1 hj).1; omega
        have h7 := h6 j hjn
        rw [hj] at h7
        obtain ⟨ab, ao, asp⟩ := a
        simp only at sp
        subst sp
        rw [addr_add, addr_add] at h7
        exact h7
      have all : ∀ m, m ≤ len → ∃ l : List α, l.length = m ∧ (l.flatMap ea).length = m * n ∧ (∀ b ∈ l, Q b) ∧ CR (Gh.old w) (l.flatMap ea) a.block a.off := by
        intro m
        induction m with
        | zero => intro _; exact ⟨[], rfl, by simp, by simp, by simp [CR]⟩
        | succ m ih =>
          intro hm
          obtain ⟨l, h1, h2, h3, h4⟩ := ih (by omega)
          obtain ⟨b, h5, h6, h7, _⟩ := one m (by omega)
          refine ⟨l ++ [b], by simp [h1], by simp [h2, h5, Nat.succ_mul], fun c hc => ?_, ?_⟩
          · rcases List.mem_append.1 hc with hc | hc
            · exact h3 c hc
            · simp at hc; subst hc; exact h7
          · rw [List.flatMap_append]
            refine CR_snoc h4 ?_
            rw [h2]; simpa using h6
      obtain ⟨l, h1, h2, h3, h4⟩ := all len (Nat.le_refl _)
      refine ⟨.mk l, ?_, ⟨h3, by simp only [Sl.list]; omega⟩⟩
      simp only [VRs, VR, Sl.val]
      refine ⟨_, [], rfl, ⟨a.block, a.off, cap, a.spot, by rw [h1], by omega, ?_, h4, ?_⟩, rfl⟩
      · rcases Nat.eq_zero_or_pos len with h0 | h0
        · left; have : l = [] := List.length_eq_zero_iff.1 (by omega)
          simp [this]
        · obtain ⟨_, _, _, _, _, h9⟩ := one 0 h0
          exact .inr h9
      · rcases Nat.eq_zero_or_pos len with h0 | h0
        · left; omega
        · obtain ⟨_, _, _, _, h9, _⟩ := one 0 h0
          exact .inr h9⟩
/-- a struct's fields: their types and where they lie -/
def structIs (P : Program) (t : TypeId) (l : List (Nat × Nat)) : Bool := match P.underlying t with
  | some (.struct fs) => fs.toList.map (fun f => (f.type, f.offset)) == l
  | _ => false
def RdF (enc : TypeId × Value → H) (P : Program) (w : World) (fs : List (Nat × Nat)) (off len : Nat) {α : Type} (e : α → List AVal) (Q : α → Prop) : Prop :=
  ∀ (cs : List Value) (n : Nat) (xs : List (DataW H × List MemPlace)), cs.length = len → xs.length = fs.length → (∀ (i : Nat) p, fs[i]? = some p → DataW.trod enc P w 0 (fun _ => true) true n p.1 ((cs.drop p.2).take (P.cellsOf p.1)) = xs[i]?) →
    (∀ k ∈ DataW.weightsEach P (fs.map (·.1)) (xs.map (·.1)), k ≤ reachBytes) → ∃ a : α, VRs (Gh.old w) (e a) (cs.drop off) ∧ Q a
theorem rdf_nil {len : Nat} : RdF enc P w [] len len (fun _ : Unit => []) (fun _ => True) := fun cs n xs h _ _ _ => ⟨(), by rw [List.drop_of_length_le (by omega)]; simp [VRs], trivial⟩
theorem rdf_cons {t : TypeId} {fs : List (Nat × Nat)} {off len n : Nat} {α β : Type} {e : α → List AVal} {Q : α → Prop} {e' : β → List AVal} {Q' : β → Prop} (r : Rd enc P w t n e Q) (s : RdF enc P w fs (off + n) len e' Q') :
    RdF enc P w ((t, off) :: fs) off len (fun p : α × β => e p.1 ++ e' p.2) (fun p => Q p.1 ∧ Q' p.2) := fun cs m xs hl hx ht hw => by
  obtain ⟨x, xs, rfl⟩ : ∃ x ys, xs = x :: ys := by
    cases xs with
    | nil => simp at hx
    | cons x ys => exact ⟨x, ys, rfl⟩
  have h0 := ht 0 _ (by simp; rfl)
  simp only [List.getElem?_cons_zero] at h0
  rw [r.1] at h0
  simp only [List.map_cons, DataW.weightsEach, List.mem_append] at hw
  obtain ⟨a, h1, h2⟩ := r.2 _ _ _ h0 (fun k hk => hw k (.inl hk))
  obtain ⟨b, h3, h4⟩ := s cs m xs hl (by simpa using hx) (fun i p hp => by have := ht (i + 1) p (by simpa using hp); simpa using this) (fun k hk => hw k (.inr hk))
  refine ⟨(a, b), ?_, h2, h4⟩
  have : cs.drop off = (cs.drop off).take n ++ cs.drop (off + n) := by
    rw [← List.drop_drop]; exact (List.take_append_drop _ _).symm
  rw [this]
  exact VRs.append h1 h3
theorem rd_struct {t : TypeId} {l : List (Nat × Nat)} {len : Nat} {α : Type} {e : α → List AVal} {Q : α → Prop} (ht : structIs P t l = true) (hc : P.cellsOf t = len) (r : RdF enc P w l 0 len e Q) : Rd enc P w t len e Q :=
  ⟨hc, fun fuel cs x h hw => by
    unfold structIs at ht
    split at ht
    · rename_i fs hu
      have ht' := eq_of_beq ht
      subst ht'
      obtain ⟨xs, n, rfl, rfl, h1, h2, h3⟩ := DataW.trod_struct hu h
      have hw' : ∀ k ∈ DataW.weightsEach P (fs.toList.map (·.type)) (xs.map (·.1)), k ≤ reachBytes := fun k hk => hw k (by simp only [DataW.weights, hu]; exact hk)
      obtain ⟨a, h4, h5⟩ := r cs n xs (by omega) (by simp [h2]) (fun i p hp => by
        rw [List.getElem?_map] at hp
        obtain ⟨f, hf, rfl⟩ := Option.map_eq_some_iff.1 hp
        exact h3 i f (by simpa using hf)) (by rw [List.map_map]; exact hw')
      exact ⟨a, by simpa using h4, h5⟩
    · cases ht⟩
end
end Go.Av
end
