/- A world is loaded just if its program is right and there is room for its globals, else the checker's error or ErrFull is told (the law MachineLoads, whatever the input). Conditions: none. This file: part D. -/
import Derived.Laws.Externs
import Derived.Recover
import Derived.Below
import Derived.KernelRfl
import Derived.Test.YtgghlkikgebipaaGreatC
import Derived.Test.YtgghlkikgebipaaGreatA
set_option linter.all false

section
/- A region whose order is drawn comes to what the one chosen order comes to. -/
namespace Go.Av

structure DC (P : Program) (call : CallFn) (noop : Nat → Bool) (n : Nat) (ops : Array Oper) (rows : List Row) (E : Nat → Env) (H : Nat → Heap) : Prop where
  callOk : CallSpec P call
  noopOk : NoopSpec P noop
  op : ∀ {p : Nat} {r : Row}, rows[p]? = some r → ops[r.i]? = some r.o
  xo : ∀ {p : Nat} {r : Row}, rows[p]? = some r → xoper P n ops r.o = some r.x
  run : ∀ {p : Nat} {r : Row}, rows[p]? = some r → operA call noop r.x (E p) (H p) = some (E (p + 1), H (p + 1))
  abs : ∀ {p : Nat} {r : Row}, rows[p]? = some r → absIn r = true
  lk : ∀ {p : Nat} {r : Row}, rows[p]? = some r → r.looks = looksOf ops r.o
  inj : ∀ {p q : Nat} {r r' : Row}, rows[p]? = some r → rows[q]? = some r' → r.i = r'.i → p = q
  cover : ∀ i, i < ops.size → ∃ (p : Nat) (r : Row), rows[p]? = some r ∧ r.i = i
  back : ∀ {p : Nat} {r : Row}, rows[p]? = some r → ∀ j ∈ binding r.o, ∃ (q : Nat) (r' : Row), q < p ∧ rows[q]? = some r' ∧ r'.i = j
  mask : ∀ {p : Nat} {r : Row}, rows[p]? = some r → ∀ j, r.f.testBit j = true → ∃ j' ∈ binding r.o, j = j' ∨ ∃ (q : Nat) (r' : Row), q < p ∧ rows[q]? = some r' ∧ r'.i = j' ∧ r'.f.testBit j = true
  apart : ∀ {p q : Nat} {r r' : Row}, p < q → rows[p]? = some r → rows[q]? = some r' → r'.f.testBit r.i = true ∨ apartR r r' = true
  al : ∀ {p q : Nat} {r r' : Row}, p < q → rows[p]? = some r → rows[q]? = some r' → r.x.op.isEff = true → r'.x.op.isEff = true → r'.f.testBit r.i = true ∨
    (r'.x.op.isAl = true ∧ r'.o.guard = none ∧ ∃ d, r'.o.dst = some d ∧ (∀ (u : Nat) (r'' : Row), rows[u]? = some r'' → u ≠ q → r''.o.dst ≠ some d) ∧
      (∀ (u : Nat) (r'' : Row), rows[u]? = some r'' → q < u → d ∈ r''.looks → r''.f.testBit r.i = true))
  reads : ∀ {p : Nat} {r : Row} {x : XRead}, rows[p]? = some r → r.x.op = .r x → goes (E p) r.x.guard = true → ∀ k : Nat,
    (k = rows.length ∨ ∃ e, rows[k]? = some e ∧ e.x.op.isEff = true ∧ r.f.testBit e.i = false) → (∀ (k' : Nat) (e : Row), k' < k → rows[k']? = some e → e.x.op.isEff = true → e.f.testBit r.i = false) →
    readA (H k) (getE (E p)) x = readA (H p) (getE (E p)) x

section
variable {P : Program} {call : CallFn} {noop : Nat → Bool} {n : Nat} {ops : Array Oper} {rows : List Row} {E : Nat → Env} {H : Nat → Heap}

def Dn (rows : List Row) (L : Nat → Bool) : Prop := ∀ (p : Nat) (r : Row), rows[p]? = some r → L r.i = true → ∀ j ∈ binding r.o, L j = true

theorem DC.forced (D : DC P call noop n ops rows E H) {L : Nat → Bool} (hL : Dn rows L) : ∀ (p : Nat) (r : Row), rows[p]? = some r → (∀ j ∈ binding r.o, L j = true) → ∀ j, r.f.testBit j = true → L j = true := by
  intro p
  induction p using Nat.strongRecOn with
  | _ p ih =>
    intro r hr hb j hj
    obtain ⟨j', hj', h⟩ := D.mask hr j hj
    rcases h with rfl | ⟨q, r', hq, hr', rfl, hf⟩
    · exact hb _ hj'
    · exact ih q hq r' hr' (hL q r' hr' (hb _ hj')) j hf

theorem memN_iff {a : Nat} : ∀ {l : List Nat}, memN a l = true ↔ a ∈ l
  | [] => by simp [memN]
  | b :: l => by
    simp only [memN, Bool.or_eq_true, memN_iff (l := l), List.mem_cons]
    constructor
    · rintro (h | h)
      · exact .inl (Nat.eq_of_beq_eq_true h)
      · exact .inr h
    · rintro (rfl | h)
      · exact .inl (by simp)
      · exact .inr h

theorem memP_iff {a : Pos} : ∀ {l : List Nat}, memP a l = true ↔ ∃ b ∈ l, a = Pos.nth b
  | [] => by simp [memP]
  | b :: l => by simp only [memP, Bool.or_eq_true, memP_iff (l := l), decide_eq_true_eq, List.mem_cons, exists_eq_or_imp]

theorem apartR_1 {r q : Row} (h : apartR r q = true) {d : Nat} (hd : r.o.dst = some d) : d ∉ q.looks ∧ q.o.dst ≠ some d := by
  simp only [apartR, hd, Bool.and_eq_true, Bool.not_eq_true'] at h
  refine ⟨fun hm => ?_, fun hq => ?_⟩
  · rw [memN_iff.2 hm] at h; simp at h
  · simp [noDst, hq] at h
theorem apartR_2 {r q : Row} (h : apartR r q = true) {d : Nat} (hd : q.o.dst = some d) : d ∉ r.looks := by
  simp only [apartR, hd, Bool.and_eq_true, Bool.not_eq_true'] at h
  intro hm
  rw [memN_iff.2 hm] at h; simp at h

/-- what a row of the table makes of the environment -/
theorem DC.env (D : DC P call noop n ops rows E H) {p : Nat} {r : Row} (hr : rows[p]? = some r) : ∃ v, E (p + 1) = setE (E p) r.x.dst v ∧
    ((goes (E p) r.x.guard = false ∧ v = undefA ∧ H (p + 1) = H p) ∨ (goes (E p) r.x.guard = true ∧ opA call noop (H p) (getE (E p)) r.x.op = some (v, H (p + 1)))) := by
  have h := D.run hr
  simp only [operA] at h
  cases hg : goes (E p) r.x.guard with
  | false =>
    simp only [hg, cond_false, Option.some.injEq, Prod.mk.injEq] at h
    exact ⟨undefA, h.1.symm, .inl ⟨rfl, rfl, h.2.symm⟩⟩
  | true =>
    simp only [hg, cond_true] at h
    split at h
    · rename_i v h' hop
      injection h with h; injection h with h1 h2
      exact ⟨v, h1.symm, .inr ⟨rfl, by rw [hop, h2]⟩⟩
    · cases h

theorem DC.dst (D : DC P call noop n ops rows E H) {p : Nat} {r : Row} (hr : rows[p]? = some r) : xdst n r.o.dst = some r.x.dst ∧ xguard ops r.o.guard = some r.x.guard := by
  have h := D.xo hr
  unfold xoper at h
  split at h
  · rename_i g d hg hd
    injection h with h
    rw [← h]; exact ⟨hd, hg⟩
  · cases h

theorem getE_setE {e : Env} {n : Nat} {dst : Option Tmp} {dst' : Option Pos} (hd : xdst n dst = some dst') (v : AVal) (t : Nat) : getE (setE e dst' v) (.t (Pos.nth t)) = if dst = some t then v else getE e (.t (Pos.nth t)) := by
  cases dst with
  | none => simp only [xdst, Option.some.injEq] at hd; subst hd; simp [setE]
  | some d =>
    simp only [xdst] at hd
    split at hd
    · injection hd with hd; subst hd
      simp only [setE, getE_set, Option.some.injEq]
    · cases hd

theorem DC.keep (D : DC P call noop n ops rows E H) {p : Nat} {r : Row} (hr : rows[p]? = some r) {t : Nat} (ht : r.o.dst ≠ some t) : getE (E (p + 1)) (.t (Pos.nth t)) = getE (E p) (.t (Pos.nth t)) := by
  obtain ⟨v, hv, _⟩ := D.env hr
  rw [hv, getE_setE (D.dst hr).1, if_neg ht]

theorem DC.noEff (D : DC P call noop n ops rows E H) {p : Nat} {r : Row} (hr : rows[p]? = some r) (he : r.x.op.isEff = false) : H (p + 1) = H p := by
  obtain ⟨v, _, h | h⟩ := D.env hr
  · exact h.2.2
  · have h := h.2
    cases hx : r.x.op <;> simp only [hx, XOp.isEff, Bool.true_eq_false] at he <;> simp only [hx, opA] at h
    · split at h
      · injection h with h; injection h with _ h2; exact h2.symm
      · cases h
    · split at h
      · injection h with h; injection h with _ h2; exact h2.symm
      · cases h

/-- what a temporary holds when the operations of L are done -/
noncomputable def valAt (E : Nat → Env) (rows : List Row) (L : Nat → Bool) (t : Nat) : Nat → AVal
  | 0 => getE (E 0) (.t (Pos.nth t))
  | p + 1 => match rows[p]? with
    | some r => if r.o.dst = some t ∧ L r.i = true then getE (E (p + 1)) (.t (Pos.nth t)) else valAt E rows L t p
    | none => valAt E rows L t p

theorem valAt_skip {L : Nat → Bool} {t p : Nat} (h : ∀ r, rows[p]? = some r → r.o.dst = some t → L r.i = true → False) : valAt E rows L t (p + 1) = valAt E rows L t p := by
  simp only [valAt]
  split
  · rename_i r hr
    rw [if_neg fun hh => h r hr hh.1 hh.2]
  · rfl

theorem valAt_hit {L : Nat → Bool} {t p : Nat} {r : Row} (hr : rows[p]? = some r) (h1 : r.o.dst = some t) (h2 : L r.i = true) : valAt E rows L t (p + 1) = getE (E (p + 1)) (.t (Pos.nth t)) := by
  simp only [valAt, hr]; rw [if_pos ⟨h1, h2⟩]

theorem valAt_from {L : Nat → Bool} {t p : Nat} (q : Nat) (hpq : p ≤ q) (h : ∀ k r, p ≤ k → rows[k]? = some r → r.o.dst = some t → L r.i = true → False) : valAt E rows L t q = valAt E rows L t p := by
  induction q with
  | zero => have : p = 0 := by omega
            subst this; rfl
  | succ q ih =>
    by_cases hp : p = q + 1
    · subst hp; rfl
    · rw [valAt_skip fun r hr h1 h2 => h q r (by omega) hr h1 h2, ih (by omega)]

/-- an operation that is ready finds what it would find in its turn -/
theorem DC.sees (D : DC P call noop n ops rows E H) {L : Nat → Bool} (hL : Dn rows L) {u : Nat} {r : Row} (hr : rows[u]? = some r) (hb : ∀ j ∈ binding r.o, L j = true) (hu : L r.i = false) {t : Nat} (ht : t ∈ r.looks) :
    valAt E rows L t rows.length = getE (E u) (.t (Pos.nth t)) := by
  have hlen : u < rows.length := (List.getElem?_eq_some_iff.1 hr).1
  have h1 : ∀ p, p ≤ u → valAt E rows L t p = getE (E p) (.t (Pos.nth t)) := by
    intro p
    induction p with
    | zero => intro _; rfl
    | succ p ih =>
      intro hp
      have ih := ih (by omega)
      have hpl : p < rows.length := by omega
      have hrp : rows[p]? = some rows[p] := List.getElem?_eq_getElem hpl
      by_cases hd : rows[p].o.dst = some t
      · rcases D.apart (show p < u by omega) hrp hr with hf | ha
        · exact valAt_hit hrp hd (D.forced hL u r hr hb _ hf)
        · exact absurd ht (apartR_1 ha hd).1
      · rw [valAt_skip fun r' hr' h1 _ => hd (by rw [hrp] at hr'; injection hr' with hr'; rw [hr']; exact h1), ih, D.keep hrp hd]
  rw [valAt_from (p := u) rows.length (by omega) ?_, h1 u (Nat.le_refl _)]
  intro k r' hk hr' hd hLr
  by_cases hku : k = u
  · subst hku; rw [hr] at hr'; injection hr' with hr'; subst hr'; rw [hu] at hLr; cases hLr
  · rcases D.apart (show u < k by omega) hr hr' with hf | ha
    · have := D.forced hL k r' hr' (hL k r' hr' hLr) _ hf
      rw [hu] at this; cases this
    · exact apartR_2 ha hd ht

def add (L : Nat → Bool) (i : Nat) : Nat → Bool := fun j => L j || Nat.beq j i

theorem add_self (L : Nat → Bool) (i : Nat) : add L i i = true := by simp [add]
theorem add_ne {L : Nat → Bool} {i j : Nat} (h : ¬ j = i) : add L i j = L j := by simp [add, beq_no h]
theorem add_of {L : Nat → Bool} {i j : Nat} (h : L j = true) : add L i j = true := by simp [add, h]

theorem DC.other (D : DC P call noop n ops rows E H) {L : Nat → Bool} {u : Nat} {r : Row} (hr : rows[u]? = some r) {t : Nat} (ht : r.o.dst ≠ some t) : ∀ p, valAt E rows (add L r.i) t p = valAt E rows L t p
  | 0 => rfl
  | p + 1 => by
    have ih := D.other (L := L) hr ht p
    simp only [valAt]
    split
    · rename_i r' hr'
      by_cases hd : r'.o.dst = some t
      · have hne : ¬ r'.i = r.i := by
          intro he
          have := D.inj hr' hr he
          subst this; rw [hr] at hr'; injection hr' with hr'; subst hr'; exact ht hd
        rw [add_ne hne, ih]
      · rw [if_neg fun hh => hd hh.1, if_neg fun hh => hd hh.1, ih]
    · exact ih

theorem DC.own (D : DC P call noop n ops rows E H) {L : Nat → Bool} (hL : Dn rows L) {u : Nat} {r : Row} (hr : rows[u]? = some r) (hu : L r.i = false) {t : Nat} (ht : r.o.dst = some t) : valAt E rows (add L r.i) t rows.length = getE (E (u + 1)) (.t (Pos.nth t)) := by
  have hlen : u < rows.length := (List.getElem?_eq_some_iff.1 hr).1
  rw [valAt_from (p := u + 1) rows.length (by omega) ?_, valAt_hit hr ht (add_self _ _)]
  intro k r' hk hr' hd hLr
  have hne : ¬ r'.i = r.i := fun he => by have := D.inj hr' hr he; omega
  rw [add_ne hne] at hLr
  rcases D.apart (show u < k by omega) hr hr' with hf | ha
  · have := D.forced hL k r' hr' (hL k r' hr' hLr) _ hf
    rw [hu] at this; cases this
  · exact (apartR_1 ha ht).2 hd

theorem DC.done (D : DC P call noop n ops rows E H) {L : Nat → Bool} (hall : ∀ (p : Nat) (r : Row), rows[p]? = some r → L r.i = true) (t : Nat) : ∀ p, p ≤ rows.length → valAt E rows L t p = getE (E p) (.t (Pos.nth t))
  | 0, _ => rfl
  | p + 1, hp => by
    have ih := D.done hall t p (by omega)
    have hrp : rows[p]? = some rows[p] := List.getElem?_eq_getElem (by omega)
    by_cases hd : rows[p].o.dst = some t
    · exact valAt_hit hrp hd (hall p _ hrp)
    · rw [valAt_skip fun r' hr' h1 _ => hd (by rw [hrp] at hr'; injection hr' with hr'; rw [hr']; exact h1), ih, D.keep hrp hd]

theorem Dn.add (D : DC P call noop n ops rows E H) {L : Nat → Bool} (hL : Dn rows L) {u : Nat} {r : Row} (hr : rows[u]? = some r) (hb : ∀ j ∈ binding r.o, L j = true) : Dn rows (add L r.i) := by
  intro p r' hr' h j hj
  by_cases he : r'.i = r.i
  · have := D.inj hr' hr he
    subst this; rw [hr] at hr'; injection hr' with hr'; subst hr'
    exact add_of (hb j hj)
  · rw [add_ne he] at h
    exact add_of (hL p r' hr' h j hj)

/-- where the first operation with effect stands that is not done -/
def kOf (L : Nat → Bool) : List Row → Nat
  | [] => 0
  | r :: l => if r.x.op.isEff = true ∧ L r.i = false then 0 else kOf L l + 1

theorem kOf_le (L : Nat → Bool) : ∀ rows : List Row, kOf L rows ≤ rows.length
  | [] => Nat.le_refl _
  | r :: l => by
    simp only [kOf, List.length_cons]
    split
    · omega
    · have := kOf_le L l; omega
theorem kOf_before {L : Nat → Bool} : ∀ {rows : List Row} {p : Nat} {r : Row}, p < kOf L rows → rows[p]? = some r → r.x.op.isEff = true → L r.i = true
  | [], _, _, h, _, _ => by simp [kOf] at h
  | x :: l, p, r, h, hr, he => by
    simp only [kOf] at h
    split at h
    · omega
    · rename_i hx
      cases p with
      | zero =>
        simp at hr; subst hr
        cases hL : L x.i with
        | true => rfl
        | false => exact absurd ⟨he, hL⟩ hx
      | succ p => exact kOf_before (rows := l) (p := p) (by omega) (by simpa using hr) he
theorem kOf_at {L : Nat → Bool} : ∀ {rows : List Row}, kOf L rows < rows.length → ∃ r, rows[kOf L rows]? = some r ∧ r.x.op.isEff = true ∧ L r.i = false
  | [], h => by simp at h
  | x :: l, h => by
    simp only [kOf] at h ⊢
    split
    · rename_i hx; exact ⟨x, rfl, hx⟩
    · rename_i hx
      rw [if_neg hx] at h
      obtain ⟨r, hr, h2⟩ := kOf_at (rows := l) (by simpa using h)
      exact ⟨r, by simpa using hr, h2⟩
theorem kOf_ge {L : Nat → Bool} {rows : List Row} {j : Nat} (hj : j ≤ rows.length) (h : ∀ p r, p < j → rows[p]? = some r → r.x.op.isEff = true → L r.i = true) : j ≤ kOf L rows := by
  by_cases hk : kOf L rows < rows.length
  · obtain ⟨r, hr, he, hL⟩ := kOf_at hk
    refine Nat.le_of_not_lt fun hlt => ?_
    rw [h _ r hlt hr he] at hL; cases hL
  · have := kOf_le L rows; omega

end
end Go.Av
end

section
/- What holds between the operations of a region whose order is drawn. -/
namespace Go.Av
section
variable {P : Program} {call : CallFn} {noop : Nat → Bool} {n : Nat} {ops : Array Oper} {rows : List Row} {E : Nat → Env} {H : Nat → Heap}

def PendOk (rows : List Row) (E : Nat → Env) (H : Nat → Heap) (L : Nat → Bool) (g0 g : Gh) (h : Heap) (tmps : Array Value) (p : Nat) (r : Row) (R : Nat) : Prop :=
  ∃ (ak : AK) (blk : Blk) (d : Nat) (o : Obj), r.o.dst = some d ∧ (∀ (u : Nat) (r' : Row), rows[u]? = some r' → u ≠ p → r'.o.dst ≠ some d) ∧ H (p + 1) = (H p).new blk ∧
    valAt E rows L d rows.length = ak.val (H p).next ∧ AKR R o (tmps.getD d undef) ak ∧ g.w.heap[R]? = some o ∧ OB g o blk ∧ g0.w.heap.size ≤ R ∧ ¬ owned g h R ∧ ¬ g.im R

def Pend (rows : List Row) (L : Nat → Bool) (j p : Nat) (r : Row) : Prop := rows[p]? = some r ∧ r.x.op.isEff = true ∧ L r.i = true ∧ j ≤ p

def InvJ (P : Program) (n : Nat) (rows : List Row) (E : Nat → Env) (H : Nat → Heap) (g0 : Gh) (j : Nat) (L : Nat → Bool) (a : Act) (w : World) : Prop :=
  ∃ (g : Gh) (RR : Nat → Nat), g.w = w ∧ Sim g (H j) ∧ Step g0 (H 0) g (H j) ∧ a.tmps.size = n ∧ (∀ d ∈ a.defers, QuietD P d) ∧
    (∀ t, (∀ (p : Nat) (r : Row), Pend rows L j p r → r.o.dst ≠ some t) → VR g (valAt E rows L t rows.length) (a.tmps.getD t undef)) ∧
    (∀ (p : Nat) (r : Row), Pend rows L j p r → PendOk rows E H L g0 g (H j) a.tmps p r (RR p)) ∧
    (∀ (p q : Nat) (r r' : Row), Pend rows L j p r → Pend rows L j q r' → p ≠ q → RR p ≠ RR q)

theorem put_getD {a : Act} {dst : Option Tmp} {v : Value} {d : Nat} (h : dst ≠ some d) : (a.put dst v).tmps.getD d undef = a.tmps.getD d undef := by
  cases dst with
  | none => rfl
  | some e =>
    have : e ≠ d := fun he => h (he ▸ rfl)
    simp [Act.put, Array.getD_eq_getD_getElem?, Array.getElem?_setIfInBounds_ne this]

theorem PendOk.next (D : DC P call noop n ops rows E H) {L : Nat → Bool} {g0 g g' : Gh} {h h' : Heap} {a : Act} {p : Nat} {r : Row} {R : Nat} (hp : PendOk rows E H L g0 g h a.tmps p r R) (hS : Sim g h) (st : Step g h g' h')
    {u : Nat} {ru : Row} (hu : rows[u]? = some ru) (hne : u ≠ p) {v : Value} {ds : List Deferred} : PendOk rows E H (add L ru.i) g0 g' h' (({ a with defers := ds } : Act).put ru.o.dst v).tmps p r R := by
  obtain ⟨ak, blk, d, o, h1, h2, h3, h4, h5, h6, h7, h8, h9, h10⟩ := hp
  have hlt := (Array.getElem?_eq_some_iff.1 h6).1
  have hd := h2 u ru hu hne
  refine ⟨ak, blk, d, o, h1, h2, h3, ?_, ?_, ?_, h7.mono st hS, h8, (st.frame R hlt h9).2, fun hi => h10 (st.imo R hlt h9 hi)⟩
  · rw [D.other hu hd, h4]
  · rw [put_getD hd]; exact h5
  · rw [(st.frame R hlt h9).1, h6]

theorem InvJ.advance (D : DC P call noop n ops rows E H) {g0 : Gh} {j : Nat} {L : Nat → Bool} {a : Act} {w : World} (hI : InvJ P n rows E H g0 j L a w) {r : Row} (hr : rows[j]? = some r) (hor : r.x.op.isEff = false ∨ L r.i = true) :
    InvJ P n rows E H g0 (j + 1) L a w := by
  obtain ⟨g, RR, hw, hS, st0, hsz, hds, henv, hpend, hdis⟩ := hI
  have hsub : ∀ p r', Pend rows L (j + 1) p r' → Pend rows L j p r' := fun p r' h => ⟨h.1, h.2.1, h.2.2.1, by have := h.2.2.2; omega⟩
  cases hEff : r.x.op.isEff with
  | false =>
    have hH := D.noEff hr hEff
    refine ⟨g, RR, hw, hH ▸ hS, hH ▸ st0, hsz, hds, fun t ht => henv t fun p r' hp => ?_, fun p r' hp => hH ▸ hpend p r' (hsub p r' hp), fun p q r1 r2 h1 h2 => hdis p q r1 r2 (hsub _ _ h1) (hsub _ _ h2)⟩
    by_cases hpj : p = j
    · subst hpj
      have := hp.1; rw [hr] at this; injection this with this; subst this
      have := hp.2.1; rw [hEff] at this; cases this
    · exact ht p r' ⟨hp.1, hp.2.1, hp.2.2.1, by have := hp.2.2.2; omega⟩
  | true =>
    have hLr : L r.i = true := hor.resolve_left (by rw [hEff]; simp)
    have hP0 : Pend rows L j j r := ⟨hr, hEff, hLr, Nat.le_refl _⟩
    obtain ⟨ak, blk, d, o, h1, h2, h3, h4, h5, h6, h7, h8, h9, h10⟩ := hpend j r hP0
    obtain ⟨hS', stA, hvr, hown⟩ := hS.adopt h6 h5 h7 h9 h10
    have st' := st0.adopt hS h6 h5 h7 h9 h10 h8
    refine ⟨g.adopt (H j).next (RR j), RR, hw, h3 ▸ hS', h3 ▸ st', hsz, hds, fun t ht => ?_, fun p r' hp => ?_, fun p q r1 r2 h1 h2 => hdis p q r1 r2 (hsub _ _ h1) (hsub _ _ h2)⟩
    · by_cases htd : t = d
      · subst htd; rw [h4]; exact hvr
      · refine VR.mono stA hS _ _ (henv t fun p r' hp => ?_)
        by_cases hpj : p = j
        · subst hpj
          have := hp.1; rw [hr] at this; injection this with this; subst this
          rw [h1]; exact fun he => htd (by injection he with he; exact he.symm)
        · exact ht p r' ⟨hp.1, hp.2.1, hp.2.2.1, by have := hp.2.2.2; omega⟩
    · have hpj : p ≠ j := by have := hp.2.2.2; omega
      obtain ⟨ak', blk', d', o', k1, k2, k3, k4, k5, k6, k7, k8, k9, k10⟩ := hpend p r' (hsub p r' hp)
      exact ⟨ak', blk', d', o', k1, k2, k3, k4, k5, k6, k7.mono stA hS, k8, by rw [h3]; exact hown _ (hdis p j r' r (hsub p r' hp) hP0 hpj) k9, k10⟩

theorem InvJ.advanceTo (D : DC P call noop n ops rows E H) {g0 : Gh} {L : Nat → Bool} {a : Act} {w : World} : ∀ (m j : Nat), j + m = kOf L rows → InvJ P n rows E H g0 j L a w → InvJ P n rows E H g0 (kOf L rows) L a w
  | 0, j, hj, hI => by have : j = kOf L rows := by omega
                       rw [← this]; exact hI
  | m + 1, j, hj, hI => by
    have hlt : j < rows.length := by have := kOf_le L rows; omega
    have hr : rows[j]? = some rows[j] := List.getElem?_eq_getElem hlt
    refine InvJ.advanceTo D m (j + 1) (by omega) (InvJ.advance D hI hr ?_)
    cases hEff : rows[j].x.op.isEff with
    | false => exact .inl rfl
    | true => exact .inr (kOf_before (by omega) hr hEff)

/-- an operation is done, and what it made is not made early -/
theorem InvJ.after (D : DC P call noop n ops rows E H) {g0 g g' : Gh} {RR : Nat → Nat} {k j : Nat} {L : Nat → Bool} {a : Act} (hk : k = kOf L rows) (hL : Dn rows L) (hS : Sim g (H k)) (st0 : Step g0 (H 0) g (H k)) (hsz : a.tmps.size = n)
    (henv : ∀ t, (∀ (p : Nat) (r : Row), Pend rows L k p r → r.o.dst ≠ some t) → VR g (valAt E rows L t rows.length) (a.tmps.getD t undef))
    (hpend : ∀ (p : Nat) (r : Row), Pend rows L k p r → PendOk rows E H L g0 g (H k) a.tmps p r (RR p))
    (hdis : ∀ (p q : Nat) (r r' : Row), Pend rows L k p r → Pend rows L k q r' → p ≠ q → RR p ≠ RR q)
    {u : Nat} {r : Row} (hr : rows[u]? = some r) (hu : L r.i = false) (hj : (j = k ∧ r.x.op.isEff = false) ∨ (j = k + 1 ∧ u = k))
    (hS' : Sim g' (H j)) (st : Step g (H k) g' (H j)) {v : Value} (hv : ∀ t, r.o.dst = some t → VR g' (getE (E (u + 1)) (.t (Pos.nth t))) v) {ds : List Deferred} (hds : ∀ d ∈ ds, QuietD P d) :
    InvJ P n rows E H g0 (kOf (add L r.i) rows) (add L r.i) (({ a with defers := ds } : Act).put r.o.dst v) g'.w := by
  have hul : u < rows.length := (List.getElem?_eq_some_iff.1 hr).1
  have hkl := kOf_le L rows
  have hsub : ∀ p r', Pend rows (add L r.i) j p r' → u ≠ p ∧ Pend rows L k p r' := by
    intro p r' hp
    have hup : u ≠ p := by
      rintro rfl
      have h1 := hp.1; rw [hr] at h1; injection h1 with h1; subst h1
      rcases hj with ⟨_, he⟩ | ⟨rfl, rfl⟩
      · rw [hp.2.1] at he; cases he
      · have := hp.2.2.2; omega
    refine ⟨hup, hp.1, hp.2.1, ?_, by have := hp.2.2.2; omega⟩
    have hne : ¬ r'.i = r.i := fun he => hup (D.inj hr hp.1 he.symm)
    have h3 := hp.2.2.1
    rwa [add_ne hne] at h3
  have hsup : ∀ p r', Pend rows L k p r' → Pend rows (add L r.i) j p r' := by
    intro p r' hp
    refine ⟨hp.1, hp.2.1, add_of hp.2.2.1, ?_⟩
    rcases hj with ⟨rfl, _⟩ | ⟨rfl, rfl⟩
    · exact hp.2.2.2
    · have h4 := hp.2.2.2
      have : p ≠ u := by
        rintro rfl
        have h1 := hp.1; rw [hr] at h1; injection h1 with h1; subst h1
        have := hp.2.2.1; rw [hu] at this; cases this
      omega
  have hI : InvJ P n rows E H g0 j (add L r.i) (({ a with defers := ds } : Act).put r.o.dst v) g'.w := by
    refine ⟨g', RR, rfl, hS', st0.trans st, ?_, ?_, fun t ht => ?_, fun p r' hp => ?_, fun p q r1 r2 h1 h2 => hdis p q r1 r2 (hsub _ _ h1).2 (hsub _ _ h2).2⟩
    · cases hd : r.o.dst <;> simp [Act.put, hsz]
    · cases hd : r.o.dst <;> exact hds
    · by_cases hd : r.o.dst = some t
      · have htn : t < n := by
          have := (D.dst hr).1
          rw [hd] at this
          simp only [xdst] at this
          split at this
          · assumption
          · cases this
        rw [D.own hL hr hu hd]
        have : (({ a with defers := ds } : Act).put r.o.dst v).tmps.getD t undef = v := by
          rw [hd]; simp [Act.put, Array.getD_eq_getD_getElem?, hsz, htn]
        rw [this]; exact hv t hd
      · rw [D.other hr hd, put_getD hd]
        exact VR.mono st hS _ _ (henv t fun p r' hp => ht p r' (hsup p r' hp))
    · obtain ⟨hup, hp'⟩ := hsub p r' hp
      exact (hpend p r' hp').next D hS st hr hup
  have hjk : j ≤ kOf (add L r.i) rows := by
    refine kOf_ge (by rcases hj with ⟨rfl, _⟩ | ⟨rfl, rfl⟩ <;> omega) fun p r' hp hr' he => ?_
    by_cases hpk : p < k
    · exact add_of (kOf_before (hk ▸ hpk) hr' he)
    · have : p = u := by rcases hj with ⟨rfl, _⟩ | ⟨rfl, rfl⟩ <;> omega
      subst this; rw [hr] at hr'; injection hr' with hr'; subst hr'; exact add_self _ _
  exact InvJ.advanceTo D (kOf (add L r.i) rows - j) j (by omega) hI

end
end Go.Av
end

section
/- One operation of a region whose order is drawn. -/
namespace Go.Av
section
variable {P : Program} {call : CallFn} {noop : Nat → Bool} {n : Nat} {ops : Array Oper} {rows : List Row} {E : Nat → Env} {H : Nat → Heap}

/-- an environment and its values, narrowed to what an operation looks at -/
noncomputable def evOf (looks : List Nat) (e : Env) : XOpd → AVal
  | .t p => if memP p looks = true then getE e (.t p) else undefA
  | .c v => v
def etaOf (looks : List Nat) (a : Act) : Operand → Value
  | .tmp t => if memN t looks = true then a.tmps.getD t undef else undef
  | x => a.eval x

theorem narrow_or {g : Gh} {looks : List Nat} {e : Env} {a : Act} (h : ∀ t ∈ looks, VR g (getE e (.t (Pos.nth t))) (a.tmps.getD t undef)) : OR g (evOf looks e) (etaOf looks a) := by
  intro y y' hy
  cases y with
  | tmp t =>
    simp only [xopd, Option.some.injEq] at hy; subst hy
    simp only [evOf, etaOf]
    have heq : memP (Pos.nth t) looks = memN t looks := by
      rw [Bool.eq_iff_iff, memP_iff, memN_iff]
      constructor
      · rintro ⟨b, hb, he⟩; rwa [Pos.nth_inj he]
      · intro hm; exact ⟨t, hm, rfl⟩
    rw [heq]
    by_cases hm : memN t looks = true
    · rw [if_pos hm, if_pos hm]; exact h t (memN_iff.1 hm)
    · rw [if_neg hm, if_neg hm]; exact VR_undef g
  | const v =>
    simp only [xopd] at hy
    split at hy
    · rename_i c hc; injection hy with hy; subst hy; exact ofValue_VR g v c hc
    · cases hy
  | func f => simp only [xopd, Option.some.injEq] at hy; subst hy; simp only [evOf, etaOf, Act.eval, VR, VRs]; exact ⟨#[], #[], rfl, rfl, rfl⟩
  | global x => cases hy

theorem mem_looks {ops : Array Oper} {o : Oper} {t : Nat} (h : Operand.tmp t ∈ o.op.operands) : t ∈ looksOf ops o := by
  unfold looksOf
  exact List.mem_append_left _ (List.mem_filterMap.2 ⟨.tmp t, by simpa using h, rfl⟩)

theorem not_select {o : Oper} {x : XOp} (hx : xop P o = some x) : ∀ cs b, o.op ≠ .select cs b := by
  intro cs b h
  simp only [xop, h, reduceCtorEq] at hx

theorem exec_narrow {o : Oper} {x : XOp} (hx : xop P o = some x) (a : Act) : execOp a.eval o = execOp (etaOf (looksOf ops o) a) o := by
  refine execOp_congr o (not_select hx) fun y hy => ?_
  cases y with
  | tmp t => simp only [Act.eval, etaOf]; rw [if_pos (memN_iff.2 (mem_looks hy))]
  | const v => rfl
  | func f => rfl
  | global x => rfl

theorem opA_narrow {r : Row} (hin : absIn r = true) (h : Heap) (e : Env) : opA call noop h (getE e) r.x.op = opA call noop h (evOf r.looks e) r.x.op := by
  refine opA_congr _ fun y hy => ?_
  simp only [absIn, Bool.and_eq_true, List.all_eq_true] at hin
  have := hin.1 y hy
  cases y with
  | t p => simp only [evOf]; simp only at this; rw [if_pos this]
  | c v => rfl

theorem DC.exec (D : DC P call noop n ops rows E H) {g0 : Gh} {L : Nat → Bool} {a : Act} {w : World} (hL : Dn rows L) (hI : InvJ P n rows E H g0 (kOf L rows) L a w) {u : Nat} {r : Row} (hr : rows[u]? = some r) (hb : ∀ i ∈ binding r.o, L i = true) (hu : L r.i = false)
    {Q : Exit → Act → World → Prop} {K : Act → World → Prop} (hK : ∀ a' w', InvJ P n rows E H g0 (kOf (add L r.i) rows) (add L r.i) a' w' → K a' w') : wpOp P ops Q r.i K a w := by
  obtain ⟨g, RR, rfl, hS, st0, hsz, hds, henv, hpend, hdis⟩ := hI
  have hkl := kOf_le L rows
  have hul : u < rows.length := (List.getElem?_eq_some_iff.1 hr).1
  have hfor := D.forced hL u r hr hb
  -- what it looks at is not made early
  have hsee : ∀ t ∈ r.looks, VR g (getE (E u) (.t (Pos.nth t))) (a.tmps.getD t undef) := by
    intro t ht
    rw [← D.sees hL hr hb hu ht]
    refine henv t fun q r' hp hd => ?_
    have hql : q < rows.length := (List.getElem?_eq_some_iff.1 hp.1).1
    have hqk := hp.2.2.2
    obtain ⟨e, he, heff, hLe⟩ := kOf_at (L := L) (rows := rows) (by omega)
    have hne : kOf L rows ≠ q := by
      intro hh; rw [hh] at he; have h1 := hp.1; rw [h1] at he; injection he with he; subst he
      have := hp.2.2.1; rw [hLe] at this; cases this
    rcases D.al (show kOf L rows < q by omega) he hp.1 heff hp.2.1 with hf | ⟨_, _, d, hd', _, huse⟩
    · have := D.forced hL q r' hp.1 (hL q r' hp.1 hp.2.2.1) _ hf
      rw [hLe] at this; cases this
    · rw [hd] at hd'; injection hd' with hd'; subst hd'
      by_cases huq : q < u
      · have := hfor _ (huse u r hr huq ht)
        rw [hLe] at this; cases this
      · by_cases hqu : q = u
        · subst hqu; have h1 := hp.1; rw [hr] at h1; injection h1 with h1; subst h1
          have := hp.2.2.1; rw [hu] at this; cases this
        · rcases D.apart (show u < q by omega) hr hp.1 with hf | ha
          · have := D.forced hL q r' hp.1 (hL q r' hp.1 hp.2.2.1) _ hf
            rw [hu] at this; cases this
          · exact apartR_2 ha hd ht
  have hwant : Region.wanted r.o (yielded ops a.tmps) = goes (E u) r.x.guard := by
    refine goes_wanted' (D.dst hr).2 fun j w oj d h1 h2 h3 => hsee d ?_
    rw [D.lk hr]; unfold looksOf
    exact List.mem_append_right _ (by simp [h1, h2, h3])
  have hdead : ∀ e, rows[kOf L rows]? = some e → e.x.op.isEff = true → r.f.testBit e.i = false := by
    intro e he heff
    obtain ⟨e', he', _, hLe⟩ := kOf_at (L := L) (rows := rows) (List.getElem?_eq_some_iff.1 he).1
    rw [he] at he'; injection he' with he'; subst he'
    cases hf : r.f.testBit e.i with
    | false => rfl
    | true => rw [hfor _ hf] at hLe; cases hLe
  obtain ⟨v, hv, hcase⟩ := D.env hr
  have hval : ∀ t, r.o.dst = some t → getE (E (u + 1)) (.t (Pos.nth t)) = v := by
    intro t ht; rw [hv, getE_setE (D.dst hr).1, if_pos ht]
  have hAct : ({ a with defers := a.defers } : Act) = a := rfl
  simp only [wpOp, D.op hr, hwant]
  rcases hcase with ⟨hgo, rfl, hH⟩ | ⟨hgo, hop⟩
  · simp only [hgo, Bool.false_eq_true, if_false]
    refine hK _ _ ?_
    rw [← hAct]
    by_cases hEff : r.x.op.isEff = true
    · -- an effect that does not come about: it stands first
      have huk : u = kOf L rows := by
        refine Classical.byContradiction fun hne => ?_
        by_cases hlt : u < kOf L rows
        · rw [kOf_before hlt hr hEff] at hu; cases hu
        · obtain ⟨e, he, heff, hLe⟩ := kOf_at (L := L) (rows := rows) (by omega)
          rcases D.al (show kOf L rows < u by omega) he hr heff hEff with hf | ⟨_, hg, _⟩
          · rw [hdead e he heff] at hf; cases hf
          · have h2 := (D.dst hr).2
            rw [hg] at h2; simp only [xguard, Option.some.injEq] at h2
            rw [← h2] at hgo; simp [goes] at hgo
      subst huk
      exact InvJ.after D rfl hL hS st0 hsz henv hpend hdis hr hu (j := kOf L rows + 1) (.inr ⟨rfl, rfl⟩) (hH ▸ hS) (hH ▸ Step.refl _ _) (fun t ht => by rw [hval t ht]; exact VR_undef g) hds
    · have hEff : r.x.op.isEff = false := by simpa using hEff
      exact InvJ.after D rfl hL hS st0 hsz henv hpend hdis hr hu (j := kOf L rows) (.inl ⟨rfl, hEff⟩) hS (Step.refl _ _) (fun t ht => by rw [hval t ht]; exact VR_undef g) hds
  · simp only [hgo, if_true]
    have hxo := D.xo hr
    obtain ⟨xo, hxop, hxeq⟩ : ∃ xo, xop P r.o = some xo ∧ r.x.op = xo := by
      unfold xoper at hxo
      split at hxo
      · injection hxo with hxo
        cases hx : xop P r.o with
        | none => rw [← hxo] at hop; simp only [hx, opA] at hop; cases hop
        | some xo => exact ⟨xo, rfl, by rw [← hxo]; simp only [hx]⟩
      · cases hxo
    have hE := narrow_or (g := g) (looks := r.looks) (e := E u) (a := a) hsee
    have hex : execOp a.eval r.o = execOp (etaOf r.looks a) r.o := by rw [D.lk hr]; exact exec_narrow hxop a
    left
    unfold Oper.wp
    rw [hex]
    by_cases hEff : r.x.op.isEff = true
    · by_cases huk : u = kOf L rows
      · subst huk
        rw [opA_narrow (D.abs hr), hxeq] at hop
        refine exec_sound' D.callOk D.noopOk hxop hS hE hds hop fun g' uv ds h1 h2 h3 h4 => hK _ _ ?_
        exact InvJ.after D rfl hL hS st0 hsz henv hpend hdis hr hu (j := kOf L rows + 1) (.inr ⟨rfl, rfl⟩) h1 h2 (fun t ht => by rw [hval t ht]; exact h3) h4
      · have hlt : kOf L rows < u := by
          refine Nat.lt_of_le_of_ne (Nat.le_of_not_lt fun hlt => ?_) fun h => huk h.symm
          rw [kOf_before hlt hr hEff] at hu; cases hu
        obtain ⟨e, he, heff, hLe⟩ := kOf_at (L := L) (rows := rows) (by omega)
        rcases D.al hlt he hr heff hEff with hf | ⟨hal, _, d, hd, huniq, _⟩
        · rw [hdead e he heff] at hf; cases hf
        · rw [opA_narrow (D.abs hr), hxeq] at hop
          rw [hxeq] at hal
          cases xo with
          | f x =>
            simp only [opA] at hop
            obtain ⟨ak, blk, ha, hv1, hH1⟩ := effA_alloc hal hop
            obtain ⟨o, uv, hrun, hakr, hob⟩ := alloc_sound hE hxop hal ha
            rw [hrun, Oper.upon_value]
            refine hK _ _ ?_
            obtain ⟨hS', st⟩ := hS.push o
            have hk' : kOf (add L r.i) rows = kOf L rows := by
              refine Nat.le_antisymm (Nat.le_of_not_lt fun h2 => ?_) (kOf_ge hkl fun p r' hp hr' hef => add_of (kOf_before hp hr' hef))
              have := kOf_before h2 he heff
              have hne : ¬ e.i = r.i := fun hh => by have := D.inj he hr hh; omega
              rw [add_ne hne, hLe] at this; cases this
            rw [hk']
            have hsub : ∀ p r', Pend rows (add L r.i) (kOf L rows) p r' → p ≠ u → Pend rows L (kOf L rows) p r' := by
              intro p r' hp hpu
              refine ⟨hp.1, hp.2.1, ?_, hp.2.2.2⟩
              have hne : ¬ r'.i = r.i := fun hh => hpu (D.inj hp.1 hr hh)
              have h3 := hp.2.2.1
              rwa [add_ne hne] at h3
            have hbig : ∀ p r', Pend rows L (kOf L rows) p r' → RR p < g.w.heap.size := by
              intro p r' hp
              obtain ⟨_, _, _, o', _, _, _, _, _, h6, _⟩ := hpend p r' hp
              exact (Array.getElem?_eq_some_iff.1 h6).1
            have hdn : d < n := by
              have := (D.dst hr).1
              rw [hd] at this
              simp only [xdst] at this
              split at this
              · assumption
              · cases this
            refine ⟨g.push o, fun p => if p = u then g.w.heap.size else RR p, rfl, hS', st0.trans st, ?_, ?_, fun t ht => ?_, fun p r' hp => ?_, fun p q r1 r2 h1 h2 hpq => ?_⟩
            · simp [Act.put, hd, hsz]
            · simp only [Act.put, hd]; exact hds
            · have hdt : r.o.dst ≠ some t := ht u r ⟨hr, hEff, add_self _ _, by omega⟩
              rw [D.other hr hdt, put_getD hdt]
              exact VR.mono st hS _ _ (henv t fun p r' hp => ht p r' ⟨hp.1, hp.2.1, add_of hp.2.2.1, hp.2.2.2⟩)
            · by_cases hpu : p = u
              · subst hpu
                have h1 := hp.1; rw [hr] at h1; injection h1 with h1; subst h1
                simp only [if_true]
                refine ⟨ak, blk, d, o, hd, huniq, hH1, ?_, ?_, ?_, hob.mono st hS, st0.size, ?_, ?_⟩
                · rw [D.own hL hr hu hd, hval d hd, hv1]
                · have : (a.put r.o.dst uv).tmps.getD d undef = uv := by
                    rw [hd]; simp [Act.put, Array.getD_eq_getD_getElem?, hsz, hdn]
                  rw [this]; exact hakr
                · show (g.w.heap.push o)[g.w.heap.size]? = _; rw [push_get, if_pos rfl]
                · rintro ⟨b, x', O, hb', hρ⟩
                  have := hS.lt hb' hρ; omega
                · intro him
                  have := (hS.im _ him).1; omega
              · simp only [if_neg hpu]
                have := (hpend p r' (hsub p r' hp hpu)).next D hS st hr (fun hh => hpu hh.symm) (v := uv) (ds := a.defers)
                exact this
            · by_cases hpu : p = u <;> by_cases hqu : q = u
              · omega
              · have := hbig q r2 (hsub q r2 h2 hqu); simp only [hpu, hqu, if_true, if_false]; omega
              · have := hbig p r1 (hsub p r1 h1 hpu); simp only [hpu, hqu, if_true, if_false]; omega
              · simp only [hpu, hqu, if_false]; exact hdis p q r1 r2 (hsub p r1 h1 hpu) (hsub q r2 h2 hqu) hpq
          | p x => cases hal
          | r x => cases hal
          | call f xs => cases hal
          | dfr f => cases hal
          | bad => cases hal
    · have hEff : r.x.op.isEff = false := by simpa using hEff
      have hH := D.noEff hr hEff
      have hop' : opA call noop (H (kOf L rows)) (getE (E u)) r.x.op = some (v, H (kOf L rows)) := by
        rw [hxeq] at hop hEff ⊢
        cases xo with
        | p x =>
          simp only [opA] at hop ⊢
          split at hop
          · rename_i v' hp; injection hop with hop; injection hop with h1 _; subst h1; rfl
          · cases hop
        | r x =>
          simp only [opA] at hop ⊢
          have hread := D.reads hr hxeq hgo (kOf L rows) ?_ ?_
          · rw [hread]
            split at hop
            · rename_i v' hp; injection hop with hop; injection hop with h1 _; subst h1; rfl
            · cases hop
          · by_cases hkl' : kOf L rows < rows.length
            · obtain ⟨e, he, heff, hLe⟩ := kOf_at (L := L) (rows := rows) hkl'
              exact .inr ⟨e, he, heff, hdead e he heff⟩
            · exact .inl (by omega)
          · intro k' e hk' he heff
            have hLe := kOf_before hk' he heff
            cases hf : e.f.testBit r.i with
            | false => rfl
            | true =>
              have := D.forced hL k' e he (hL k' e he hLe) _ hf
              rw [hu] at this; cases this
        | f x => simp [XOp.isEff] at hEff
        | call f xs => simp [XOp.isEff] at hEff
        | dfr f => simp [XOp.isEff] at hEff
        | bad => simp [XOp.isEff] at hEff
      rw [opA_narrow (D.abs hr), hxeq] at hop'
      refine exec_sound' D.callOk D.noopOk hxop hS hE hds hop' fun g' uv ds h1 h2 h3 h4 => hK _ _ ?_
      exact InvJ.after D rfl hL hS st0 hsz henv hpend hdis hr hu (j := kOf L rows) (.inl ⟨rfl, hEff⟩) h1 h2 (fun t ht => by rw [hval t ht]; exact h3) h4

end
end Go.Av
end

section
/- Each order of a region comes to the same. -/
namespace Go.Av
section
variable {P : Program} {call : CallFn} {noop : Nat → Bool} {n : Nat} {ops : Array Oper} {rows : List Row} {E : Nat → Env} {H : Nat → Heap}

def cnt (L : Nat → Bool) : List Row → Nat
  | [] => 0
  | r :: l => if L r.i = true then cnt L l else cnt L l + 1

theorem cnt_le (L : Nat → Bool) : ∀ rows : List Row, cnt L rows ≤ rows.length
  | [] => Nat.le_refl _
  | r :: l => by
    have := cnt_le L l
    simp only [cnt, List.length_cons]; split <;> omega
theorem cnt_add_le (L : Nat → Bool) (i : Nat) : ∀ rows : List Row, cnt (add L i) rows ≤ cnt L rows
  | [] => Nat.le_refl _
  | r :: l => by
    have := cnt_add_le L i l
    simp only [cnt]
    by_cases h : L r.i = true
    · rw [if_pos h, if_pos (add_of h)]; exact this
    · rw [if_neg h]; split <;> omega
theorem cnt_add_lt {L : Nat → Bool} : ∀ {rows : List Row} {u : Nat} {r : Row}, rows[u]? = some r → L r.i = false → cnt (add L r.i) rows < cnt L rows
  | [], _, _, h, _ => by simp at h
  | x :: l, 0, r, h, hL => by
    simp at h; subst h
    have := cnt_add_le L x.i l
    simp only [cnt]
    rw [if_pos (add_self _ _), if_neg (by rw [hL]; simp)]; omega
  | x :: l, u + 1, r, h, hL => by
    have ih := cnt_add_lt (rows := l) (u := u) (r := r) (by simpa using h) hL
    simp only [cnt]
    by_cases hx : L x.i = true
    · rw [if_pos hx, if_pos (add_of hx)]; exact ih
    · rw [if_neg hx]; split <;> omega
theorem cnt_zero {L : Nat → Bool} : ∀ {rows : List Row}, cnt L rows = 0 → ∀ (p : Nat) (r : Row), rows[p]? = some r → L r.i = true
  | [], _, _, _, h => by simp at h
  | x :: l, hc, p, r, h => by
    simp only [cnt] at hc
    split at hc
    · rename_i hx
      cases p with
      | zero => simp at h; subst h; exact hx
      | succ p => exact cnt_zero hc p r (by simpa using h)
    · omega

def lst (listed : Array Bool) : Nat → Bool := fun i => listed.getD i false

theorem lst_set {listed : Array Bool} {i : Nat} (hi : i < listed.size) : lst (listed.setIfInBounds i true) = add (lst listed) i := by
  funext j
  simp only [lst, add, Array.getD_eq_getD_getElem?, Array.getElem?_setIfInBounds]
  by_cases h : i = j
  · subst h; simp [hi]
  · rw [if_neg h, beq_no (fun e => h e.symm)]; simp

theorem mem_ready {listed : Array Bool} {i : Nat} (hsz : listed.size = ops.size) : i ∈ Region.ready .any ops listed ↔ i < ops.size ∧ lst listed i = false ∧ ∃ o, ops[i]? = some o ∧ ∀ j ∈ binding o, lst listed j = true := by
  simp only [Region.ready, List.mem_filter, List.mem_range, Bool.and_eq_true, Bool.not_eq_true']
  constructor
  · rintro ⟨hi, h1, h2⟩
    have hi' : i < listed.size := by omega
    refine ⟨hi, by simpa [lst, Array.getD_eq_getD_getElem?, hi'] using h1, ops[i], Array.getElem?_eq_getElem hi, fun j hj => ?_⟩
    simp only [Array.getElem?_eq_getElem hi, Option.map_some, Option.getD_some] at h2
    rw [Array.all_eq_true'] at h2
    simp only [binding, List.mem_filterMap] at hj
    obtain ⟨e, he, hj⟩ := hj
    have := h2 e (by simpa using he)
    cases hb : Region.binds .any e with
    | false => simp [hb] at hj
    | true =>
      simp only [hb, cond_true, Option.some.injEq] at hj
      subst hj
      simpa [hb, lst] using this
  · rintro ⟨hi, h1, o, ho, h2⟩
    have hi' : i < listed.size := by omega
    refine ⟨hi, by simpa [lst, Array.getD_eq_getD_getElem?, hi'] using h1, ?_⟩
    simp only [ho, Option.map_some, Option.getD_some]
    rw [Array.all_eq_true']
    intro e he
    cases hb : Region.binds .any e with
    | false => simp
    | true =>
      have := h2 e.on (List.mem_filterMap.2 ⟨e, by simpa using he, by simp [hb]⟩)
      simpa [lst] using this

theorem DC.finish (D : DC P call noop n ops rows E H) {g0 : Gh} {L : Nat → Bool} {a : Act} {w : World} (hI : InvJ P n rows E H g0 (kOf L rows) L a w) (hall : ∀ (p : Nat) (r : Row), rows[p]? = some r → L r.i = true) :
    AfterA P n g0 (H 0) (E rows.length) (H rows.length) a w := by
  have hk : kOf L rows = rows.length := by
    refine Nat.le_antisymm (kOf_le L rows) (kOf_ge (Nat.le_refl _) fun p r _ hr _ => hall p r hr)
  rw [hk] at hI
  obtain ⟨g, RR, rfl, hS, st0, hsz, hds, henv, _, _⟩ := hI
  refine ⟨g, rfl, hS, st0, hsz, fun t => ?_, hds⟩
  rw [← D.done hall t rows.length (Nat.le_refl _)]
  refine henv t fun p r hp _ => ?_
  have := (List.getElem?_eq_some_iff.1 hp.1).1
  have := hp.2.2.2
  omega

theorem DC.any (D : DC P call noop n ops rows E H) {g0 : Gh} {Q : Exit → Act → World → Prop} (hQ : ∀ a' w', AfterA P n g0 (H 0) (E rows.length) (H rows.length) a' w' → Q .normal a' w') :
    ∀ (fuel : Nat) (listed : Array Bool) (a : Act) (w : World), listed.size = ops.size → Dn rows (lst listed) → InvJ P n rows E H g0 (kOf (lst listed) rows) (lst listed) a w → cnt (lst listed) rows ≤ fuel → wpAny P .any ops Q fuel listed a w
  | 0, listed, a, w, hsz, hL, hI, hc => by
    have hall := cnt_zero (L := lst listed) (rows := rows) (by omega)
    refine ⟨?_, hQ _ _ (D.finish hI hall)⟩
    refine List.eq_nil_iff_forall_not_mem.2 fun i hi => ?_
    obtain ⟨h1, h2, _⟩ := (mem_ready hsz).1 hi
    obtain ⟨p, r, hr, rfl⟩ := D.cover i h1
    rw [hall p r hr] at h2; cases h2
  | fuel + 1, listed, a, w, hsz, hL, hI, hc => by
    refine ⟨fun hnil => hQ _ _ (D.finish hI ?_), fun i hi => ?_⟩
    · intro p
      induction p using Nat.strongRecOn with
      | _ p ih =>
        intro r hr
        cases hLr : lst listed r.i with
        | true => rfl
        | false =>
          have hop := D.op hr
          have : r.i ∈ Region.ready .any ops listed := (mem_ready hsz).2 ⟨(Array.getElem?_eq_some_iff.1 hop).1, hLr, r.o, hop, fun j hj => by
            obtain ⟨q, r', hq, hr', rfl⟩ := D.back hr j hj
            exact ih q hq r' hr'⟩
          rw [hnil] at this; cases this
    · obtain ⟨h1, h2, o, ho, hb⟩ := (mem_ready hsz).1 hi
      obtain ⟨u, r, hr, rfl⟩ := D.cover i h1
      have hop := D.op hr
      rw [hop] at ho; injection ho with ho; subst ho
      refine D.exec hL hI hr hb h2 fun a' w' hI' => ?_
      have hset : lst (listed.setIfInBounds r.i true) = add (lst listed) r.i := lst_set (by omega)
      refine D.any hQ fuel _ a' w' (by simpa using hsz) (hset ▸ Dn.add D hL hr hb) (hset ▸ hI') ?_
      have := cnt_add_lt hr h2
      rw [hset]; omega

theorem DC.draw (D : DC P call noop n ops rows E H) (hlen : rows.length ≤ ops.size) {g0 : Gh} (hS : Sim g0 (H 0)) {a : Act} (hA : ActR P g0 (E 0) a n) {Q : Exit → Act → World → Prop}
    (hQ : ∀ a' w', AfterA P n g0 (H 0) (E rows.length) (H rows.length) a' w' → Q .normal a' w') : wpAny P .any ops Q ops.size (Array.replicate ops.size false) a g0.w := by
  have hL0 : lst (Array.replicate ops.size false) = fun _ => false := by
    funext j; simp only [lst, Array.getD_eq_getD_getElem?, Array.getElem?_replicate]; split <;> rfl
  have hval : ∀ t p, valAt E rows (fun _ => false) t p = getE (E 0) (.t (Pos.nth t)) := by
    intro t p
    rw [valAt_from (p := 0) p (Nat.zero_le _) fun _ _ _ _ _ h => by cases h]
    rfl
  have hI : InvJ P n rows E H g0 0 (fun _ => false) a g0.w :=
    ⟨g0, fun _ => 0, rfl, hS, Step.refl _ _, hA.size, hA.defers, fun t _ => by rw [hval]; exact hA.env t, fun p r hp => absurd hp.2.2.1 (by simp), fun p q r r' hp => absurd hp.2.2.1 (by simp)⟩
  refine D.any hQ ops.size _ a g0.w (by simp) ?_ ?_ ?_
  · rw [hL0]; intro p r _ h; cases h
  · rw [hL0]; exact InvJ.advanceTo D (kOf (fun _ => false) rows) 0 (by omega) hI
  · have := cnt_le (lst (Array.replicate ops.size false)) rows; omega

end
end Go.Av
end

section
/- What the check of a region gives. -/
namespace Go.Av
section
variable {P : Program} {call : CallFn} {noop : Nat → Bool} {n : Nat} {ops : Array Oper}

theorem hasRow_iff {j : Nat} : ∀ {l : List Row}, hasRow j l = true ↔ ∃ r ∈ l, r.i = j
  | [] => by simp [hasRow]
  | r :: l => by
    simp only [hasRow, Bool.or_eq_true, hasRow_iff (l := l), List.mem_cons, exists_eq_or_imp]
    constructor
    · rintro (h | h)
      · exact .inl (Nat.eq_of_beq_eq_true h)
      · exact .inr h
    · rintro (h | h)
      · exact .inl (by simp [h])
      · exact .inr h

theorem maskOf_bit {j' j : Nat} : ∀ {l : List Row}, (maskOf j' l).testBit j = true → ∃ r ∈ l, r.i = j' ∧ r.f.testBit j = true
  | [], h => by simp [maskOf] at h
  | r :: l, h => by
    simp only [maskOf] at h
    cases hb : Nat.beq r.i j' with
    | true =>
      simp only [hb, cond_true] at h
      exact ⟨r, by simp, Nat.eq_of_beq_eq_true hb, h⟩
    | false =>
      simp only [hb, cond_false] at h
      obtain ⟨r', h1, h2⟩ := maskOf_bit h
      exact ⟨r', by simp [h1], h2⟩

theorem forcedMask_bit {seen : List Row} {j : Nat} : ∀ {js : List Nat}, (forcedMask seen js).testBit j = true → ∃ j' ∈ js, j = j' ∨ ∃ r ∈ seen, r.i = j' ∧ r.f.testBit j = true
  | [], h => by simp [forcedMask] at h
  | j' :: js, h => by
    simp only [forcedMask, Nat.testBit_or, Bool.or_eq_true, Nat.testBit_two_pow, decide_eq_true_eq] at h
    rcases h with (h | h) | h
    · exact ⟨j', by simp, .inl h.symm⟩
    · exact ⟨j', by simp, .inr (maskOf_bit h)⟩
    · obtain ⟨k, hk, h2⟩ := forcedMask_bit h
      exact ⟨k, by simp [hk], h2⟩

theorem rowsFrom_spec : ∀ {order : List Nat} {seen rs : List Row}, rowsFrom P n ops seen order = some rs → ∀ (p : Nat) (r : Row), rs[p]? = some r →
    ops[r.i]? = some r.o ∧ xoper P n ops r.o = some r.x ∧ r.looks = looksOf ops r.o ∧ (∀ j ∈ binding r.o, hasRow j ((rs.take p).reverse ++ seen) = true) ∧
    r.f = forcedMask ((rs.take p).reverse ++ seen) (binding r.o) ∧ hasRow r.i ((rs.take p).reverse ++ seen) = false
  | [], seen, rs, h, p, r, hr => by simp only [rowsFrom, Option.some.injEq] at h; subst h; simp at hr
  | i :: l, seen, rs, h, p, r, hr => by
    simp only [rowsFrom] at h
    split at h
    · cases h
    · rename_i o ho
      split at h
      · cases h
      · rename_i x hx
        obtain ⟨hc, h⟩ := cond_some h
        split at h
        · rename_i rs' hrs
          injection h with h; subst h
          simp only [Bool.and_eq_true, List.all_eq_true, Bool.not_eq_true'] at hc
          cases p with
          | zero =>
            simp only [List.getElem?_cons_zero, Option.some.injEq] at hr; subst hr
            exact ⟨ho, hx, rfl, by simpa using hc.1, by simp, by simpa using hc.2⟩
          | succ p =>
            have := rowsFrom_spec hrs p r (by simpa using hr)
            simpa only [List.take_succ_cons, List.reverse_cons, List.append_assoc, List.singleton_append] using this
        · cases h

theorem mem_take {rs : List Row} {p : Nat} {r : Row} (h : r ∈ (rs.take p).reverse ++ []) : ∃ q, q < p ∧ rs[q]? = some r := by
  simp only [List.append_nil, List.mem_reverse] at h
  obtain ⟨q, hq⟩ := List.mem_iff_getElem?.1 h
  rw [List.getElem?_take] at hq
  split at hq
  · exact ⟨q, by assumption, hq⟩
  · cases hq

theorem take_mem {rs : List Row} {p q : Nat} {r : Row} (hq : q < p) (h : rs[q]? = some r) : r ∈ (rs.take p).reverse ++ [] := by
  simp only [List.append_nil, List.mem_reverse]
  exact List.mem_iff_getElem?.2 ⟨q, by rw [List.getElem?_take, if_pos hq, h]⟩

theorem pairsOk_spec : ∀ {rs : List Row}, pairsOk rs = true → ∀ {p q : Nat} {r r' : Row}, p < q → rs[p]? = some r → rs[q]? = some r' → r'.f.testBit r.i = true ∨ apartR r r' = true
  | [], _, p, q, r, r', _, h, _ => by simp at h
  | x :: l, hc, p, q, r, r', hpq, hp, hq => by
    simp only [pairsOk, Bool.and_eq_true, List.all_eq_true] at hc
    cases q with
    | zero => omega
    | succ q =>
      have hq' : l[q]? = some r' := by simpa using hq
      cases p with
      | zero =>
        simp at hp; subst hp
        have := hc.1 r' (List.mem_of_getElem? hq')
        simpa using this
      | succ p => exact pairsOk_spec hc.2 (p := p) (q := q) (by omega) (by simpa using hp) hq'

theorem alsOk_spec {all : List Row} : ∀ {l effs : List Row}, alsOk all effs l = true → ∀ {q : Nat} {r' e : Row}, l[q]? = some r' → r'.x.op.isEff = true → (e ∈ effs ∨ ∃ p, p < q ∧ l[p]? = some e ∧ e.x.op.isEff = true) →
    r'.f.testBit e.i = true ∨ (r'.x.op.isAl = true ∧ r'.o.guard = none ∧ ∃ d, r'.o.dst = some d ∧ (∀ u ∈ all, u.i ≠ r'.i → u.o.dst ≠ some d) ∧ ∀ (u : Nat) (r'' : Row), q < u → l[u]? = some r'' → d ∈ r''.looks → r''.f.testBit e.i = true)
  | [], _, _, q, _, _, h, _, _ => by simp at h
  | x :: l, effs, hc, q, r', e, hq, hEff, he => by
    simp only [alsOk] at hc
    cases q with
    | zero =>
      simp at hq; subst hq
      simp only [hEff, cond_true, Bool.and_eq_true] at hc
      have he : e ∈ effs := he.resolve_right (by rintro ⟨p, hp, _⟩; omega)
      have h1 := hc.1
      by_cases hf : x.f.testBit e.i = true
      · exact .inl hf
      · right
        have hbad : e ∈ effs.filter fun p => !(x.f.testBit p.i) := List.mem_filter.2 ⟨he, by simpa using hf⟩
        unfold alOk at h1
        split at h1
        · rename_i hnil; rw [hnil] at hbad; cases hbad
        · simp only [Bool.and_eq_true] at h1
          obtain ⟨⟨ha, hg⟩, h1⟩ := h1
          refine ⟨ha, by unfold guardless at hg; split at hg <;> simp_all, ?_⟩
          split at h1
          · rename_i d hd
            simp only [Bool.and_eq_true, List.all_eq_true] at h1
            refine ⟨d, hd, fun u hu hne hud => ?_, fun u r'' hu hr'' hm => ?_⟩
            · have := h1.1 u hu
              rw [beq_no hne] at this
              simp [noDst, hud] at this
            · obtain ⟨k, rfl⟩ : ∃ k, u = k + 1 := ⟨u - 1, by omega⟩
              have := h1.2 r'' (List.mem_of_getElem? (by simpa using hr''))
              rw [memN_iff.2 hm] at this
              simp only [Bool.not_true, Bool.false_or, List.all_eq_true] at this
              exact this e hbad
          · cases h1
    | succ q =>
      have hq' : l[q]? = some r' := by simpa using hq
      have key : ∀ effs', alsOk all effs' l = true → (e ∈ effs' ∨ ∃ p, p < q ∧ l[p]? = some e ∧ e.x.op.isEff = true) → _ := fun effs' h1 h2 => alsOk_spec h1 hq' hEff h2
      have fin : (r'.f.testBit e.i = true ∨ (r'.x.op.isAl = true ∧ r'.o.guard = none ∧ ∃ d, r'.o.dst = some d ∧ (∀ u ∈ all, u.i ≠ r'.i → u.o.dst ≠ some d) ∧ ∀ (u : Nat) (r'' : Row), q < u → l[u]? = some r'' → d ∈ r''.looks → r''.f.testBit e.i = true)) →
          (r'.f.testBit e.i = true ∨ (r'.x.op.isAl = true ∧ r'.o.guard = none ∧ ∃ d, r'.o.dst = some d ∧ (∀ u ∈ all, u.i ≠ r'.i → u.o.dst ≠ some d) ∧ ∀ (u : Nat) (r'' : Row), q + 1 < u → (x :: l)[u]? = some r'' → d ∈ r''.looks → r''.f.testBit e.i = true)) := by
        rintro (h | ⟨h1, h2, d, h3, h4, h5⟩)
        · exact .inl h
        · refine .inr ⟨h1, h2, d, h3, h4, fun u r'' hu hr'' hm => ?_⟩
          obtain ⟨k, rfl⟩ : ∃ k, u = k + 1 := ⟨u - 1, by omega⟩
          exact h5 k r'' (by omega) (by simpa using hr'') hm
      cases hx : x.x.op.isEff with
      | true =>
        simp only [hx, cond_true, Bool.and_eq_true] at hc
        refine fin (key _ hc.2 ?_)
        rcases he with he | ⟨p, hp, hpe, hee⟩
        · exact .inl (by simp [he])
        · cases p with
          | zero => simp at hpe; subst hpe; exact .inl (by simp)
          | succ p => exact .inr ⟨p, by omega, by simpa using hpe, hee⟩
      | false =>
        simp only [hx, cond_false] at hc
        refine fin (key _ hc ?_)
        rcases he with he | ⟨p, hp, hpe, hee⟩
        · exact .inl he
        · cases p with
          | zero => simp at hpe; subst hpe; rw [hx] at hee; cases hee
          | succ p => exact .inr ⟨p, by omega, by simpa using hpe, hee⟩

theorem ks_spec (u : Row) (nx m : Nat) : ∀ (l : List Row) (p k : Nat), m = p + l.length → (k = m ∨ ∃ (i : Nat) (e : Row), k = p + i ∧ l[i]? = some e ∧ e.x.op.isEff = true ∧ u.f.testBit e.i = false) →
    (∀ (i : Nat) (e : Row), p + i < k → l[i]? = some e → e.x.op.isEff = true → e.f.testBit u.i = false) → k = nx ∨ k ∈ ksGo m u nx (effsAt p l)
  | [], p, k, hm, hk, _ => by
    have : k = m := hk.elim id (by rintro ⟨i, e, _, h, _⟩; simp at h)
    subst this
    simp only [effsAt, ksGo]
    by_cases h : k = nx
    · exact .inl h
    · rw [beq_no h]; exact .inr (by simp)
  | r :: l, p, k, hm, hk, hb => by
    have hrec : k ≠ p → k = nx ∨ k ∈ ksGo m u nx (effsAt (p + 1) l) := by
      intro hne
      refine ks_spec u nx m l (p + 1) k (by simp at hm; omega) ?_ fun i e hi he => hb (i + 1) e (by omega) (by simpa using he)
      rcases hk with hk | ⟨i, e, h1, h2, h3⟩
      · exact .inl hk
      · cases i with
        | zero => exact absurd h1 hne
        | succ i => exact .inr ⟨i, e, by omega, by simpa using h2, h3⟩
    cases hEff : r.x.op.isEff with
    | true =>
      simp only [effsAt, hEff, cond_true, ksGo]
      by_cases hkp : k = p
      · subst hkp
        rcases hk with hk | ⟨i, e, h1, h2, h3⟩
        · simp at hm; omega
        · obtain rfl : i = 0 := by omega
          simp at h2; subst h2
          by_cases hnx : k = nx
          · exact .inl hnx
          · right; rw [h3.2, beq_no hnx]; simp
      · have hlt : p < k := by
          rcases hk with hk | ⟨i, e, h1, _⟩
          · simp at hm; omega
          · omega
        have hf := hb 0 r (by omega) (by simp) hEff
        rw [hf]
        simp only [cond_false]
        rcases hrec hkp with h | h
        · exact .inl h
        · right
          cases hc : u.f.testBit r.i || Nat.beq p nx with
          | true => simpa using h
          | false => simp [h]
    | false =>
      simp only [effsAt, hEff, cond_false]
      refine hrec ?_
      rintro rfl
      rcases hk with hk | ⟨i, e, h1, h2, h3⟩
      · simp at hm; omega
      · obtain rfl : i = 0 := by omega
        simp at h2; subst h2; rw [hEff] at h3; cases h3.1

theorem next_spec (m p : Nat) : ∀ (l : List Row) (p0 : Nat), m = p0 + l.length → p ≤ m → nextEff m p (effsAt p0 l) ≤ m ∧ p ≤ nextEff m p (effsAt p0 l) ∧
    ∀ (i : Nat) (e : Row), l[i]? = some e → p ≤ p0 + i → p0 + i < nextEff m p (effsAt p0 l) → e.x.op.isEff = false
  | [], p0, hm, hp => by simp [effsAt, nextEff, hp]
  | r :: l, p0, hm, hp => by
    obtain ⟨h1, h2, h3⟩ := next_spec m p l (p0 + 1) (by simp at hm; omega) hp
    cases hEff : r.x.op.isEff with
    | true =>
      simp only [effsAt, hEff, cond_true, nextEff]
      cases hb : Nat.ble p p0 with
      | true =>
        have := Nat.le_of_ble_eq_true hb
        simp only [cond_true]
        exact ⟨by simp at hm; omega, this, fun i e _ _ hlt => by omega⟩
      | false =>
        have hnle : ¬ p ≤ p0 := fun h => by rw [Nat.ble_eq_true_of_le h] at hb; cases hb
        simp only [cond_false]
        refine ⟨h1, h2, fun i e he hpi hlt => ?_⟩
        cases i with
        | zero => omega
        | succ i => exact h3 i e (by simpa using he) (by omega) (by omega)
    | false =>
      simp only [effsAt, hEff, cond_false]
      refine ⟨h1, h2, fun i e he hpi hlt => ?_⟩
      cases i with
      | zero => simp at he; subst he; exact hEff
      | succ i => exact h3 i e (by simpa using he) (by omega) (by omega)

theorem dopsFrom_get (m : Nat) (es : List (Nat × Row)) : ∀ (l : List Row) (p0 i : Nat), (dopsFrom m es p0 l)[i]? = (l[i]?).map fun r => { op := r.x, ks := match r.x.op with | .r _ => ksGo m r (nextEff m (p0 + i) es) es | _ => [] }
  | [], p0, i => by simp [dopsFrom]
  | r :: l, p0, 0 => by
    simp only [dopsFrom, List.getElem?_cons_zero, Option.map_some]; rfl
  | r :: l, p0, i + 1 => by
    simp only [dopsFrom, List.getElem?_cons_succ, dopsFrom_get m es l (p0 + 1) i]
    have : p0 + 1 + i = p0 + (i + 1) := by omega
    rw [this]

theorem dopsFrom_len (m : Nat) (es : List (Nat × Row)) : ∀ (l : List Row) (p0 : Nat), (dopsFrom m es p0 l).length = l.length
  | [], _ => rfl
  | _ :: l, p0 => by simp [dopsFrom, dopsFrom_len m es l]

theorem trace_spec : ∀ {l : List XDop} {e : Env} {h : Heap} {tr : List (Env × Heap)}, traceA call noop l e h = some tr → tr.length = l.length + 1 ∧ tr[0]? = some (e, h) ∧ lastA tr = tr[l.length]? ∧
    ∀ (p : Nat) (o : XDop), l[p]? = some o → ∃ s s', tr[p]? = some s ∧ tr[p + 1]? = some s' ∧ operA call noop o.op s.1 s.2 = some s'
  | [], e, h, tr, ht => by simp only [traceA, Option.some.injEq] at ht; subst ht; simp [lastA]
  | o :: l, e, h, tr, ht => by
    simp only [traceA] at ht
    split at ht
    · rename_i e' h' hop
      split at ht
      · rename_i tr' htr
        injection ht with ht; subst ht
        obtain ⟨h1, h2, h3, h4⟩ := trace_spec htr
        refine ⟨by simp [h1], by simp, ?_, ?_⟩
        · cases tr' with
          | nil => simp at h1
          | cons s tr'' => simp only [lastA]; rw [h3]; simp
        · intro p q hq
          cases p with
          | zero => simp at hq; subst hq; exact ⟨(e, h), (e', h'), by simp, by simpa using h2, hop⟩
          | succ p =>
            obtain ⟨s, s', k1, k2, k3⟩ := h4 p q (by simpa using hq)
            exact ⟨s, s', by simpa using k1, by simpa using k2, k3⟩
      · cases ht
    · cases ht

theorem dopsOk_get {full : List (Env × Heap)} : ∀ {l : List XDop} {tr : List (Env × Heap)}, dopsOk full l tr = true → ∀ {p : Nat} {o : XDop} {s : Env × Heap}, l[p]? = some o → tr[p]? = some s → dopOk full o s = true
  | [], _, _, p, o, s, h, _ => by simp at h
  | o :: l, [], _, p, _, s, _, h => by simp at h
  | o :: l, t :: tr, hc, p, q, s, hq, hs => by
    simp only [dopsOk, Bool.and_eq_true] at hc
    cases p with
    | zero => simp at hq hs; subst hq; subst hs; exact hc.1
    | succ p => exact dopsOk_get hc.2 (p := p) (by simpa using hq) (by simpa using hs)

theorem operA_noEff {x : XOper} {e e' : Env} {h h' : Heap} (he : x.op.isEff = false) (ho : operA call noop x e h = some (e', h')) : h' = h := by
  simp only [operA] at ho
  cases hg : goes e x.guard with
  | false => simp only [hg, cond_false, Option.some.injEq, Prod.mk.injEq] at ho; exact ho.2.symm
  | true =>
    simp only [hg, cond_true] at ho
    cases hx : x.op <;> simp only [hx, XOp.isEff, Bool.true_eq_false] at he <;> simp only [hx, opA] at ho
    · split at ho
      · rename_i h2
        split at h2
        · injection h2 with h2; injection h2 with _ h3; injection ho with ho; injection ho with _ h4; rw [← h4, ← h3]
        · cases h2
      · cases ho
    · split at ho
      · rename_i h2
        split at h2
        · injection h2 with h2; injection h2 with _ h3; injection ho with ho; injection ho with _ h4; rw [← h4, ← h3]
        · cases h2
      · cases ho

theorem draw_sound (hC : CallSpec P call) (hN : NoopSpec P noop) {order : List Nat} {rs : List Row} (hrs : drawRows P n ops order = some rs) {e e' : Env} {h h' : Heap} {tr : List (Env × Heap)}
    (ht : traceA call noop (dopsFrom rs.length (effsAt 0 rs) 0 rs) e h = some tr) (hok : dopsOk tr (dopsFrom rs.length (effsAt 0 rs) 0 rs) tr = true) (hlast : lastA tr = some (e', h'))
    {g : Gh} (hS : Sim g h) {a : Act} (hA : ActR P g e a n) {Q : Exit → Act → World → Prop} (hQ : ∀ a' w', AfterA P n g h e' h' a' w' → Q .normal a' w') : wpAny P .any ops Q ops.size (Array.replicate ops.size false) a g.w := by
  unfold drawRows at hrs
  split at hrs
  · cases hrs
  · rename_i rs' hrf
    obtain ⟨hc, hrs⟩ := cond_some hrs
    injection hrs with hrs; subst hrs
    simp only [Bool.and_eq_true, List.all_eq_true] at hc
    obtain ⟨⟨⟨⟨hlen, hpairs⟩, hals⟩, hin⟩, hcov⟩ := hc
    have hlen := Nat.eq_of_beq_eq_true hlen
    have spec := rowsFrom_spec hrf
    obtain ⟨t1, t2, t3, t4⟩ := trace_spec ht
    rw [dopsFrom_len] at t1 t3
    have hinj : ∀ {p q : Nat} {r r' : Row}, rs'[p]? = some r → rs'[q]? = some r' → r.i = r'.i → p = q := by
      intro p q r r' hp hq he
      have aux : ∀ {p q : Nat} {r r' : Row}, rs'[p]? = some r → rs'[q]? = some r' → r.i = r'.i → ¬ p < q := by
        intro p q r r' hp hq he hlt
        have h6 := (spec q r' hq).2.2.2.2.2
        have : hasRow r'.i ((rs'.take q).reverse ++ []) = true := hasRow_iff.2 ⟨r, take_mem hlt hp, he⟩
        rw [this] at h6; cases h6
      have h1 := aux hp hq he
      have h2 := aux hq hp he.symm
      omega
    let E : Nat → Env := fun p => match tr[p]? with | some s => s.1 | none => .leaf
    let H : Nat → Heap := fun p => match tr[p]? with | some s => s.2 | none => Heap.empty
    have hE0 : E 0 = e := by simp only [E, t2]
    have hH0 : H 0 = h := by simp only [H, t2]
    rw [hlast] at t3
    have hEm : E rs'.length = e' := by simp only [E, ← t3]
    have hHm : H rs'.length = h' := by simp only [H, ← t3]
    have hrun : ∀ {p : Nat} {r : Row}, rs'[p]? = some r → operA call noop r.x (E p) (H p) = some (E (p + 1), H (p + 1)) := by
      intro p r hr
      obtain ⟨s, s', k1, k2, k3⟩ := t4 p _ (by rw [dopsFrom_get, hr]; rfl)
      simp only [E, H, k1, k2]; exact k3
    have D : DC P call noop n ops rs' E H := by
      refine ⟨hC, hN, fun hr => (spec _ _ hr).1, fun hr => (spec _ _ hr).2.1, hrun, fun hr => hin _ (List.mem_of_getElem? hr), fun hr => (spec _ _ hr).2.2.1, hinj, fun i hi => ?_, fun hr j hj => ?_, fun hr j hj => ?_, fun hpq hp hq => pairsOk_spec hpairs hpq hp hq,
        fun hpq hp hq he1 he2 => ?_, ?_⟩
      · obtain ⟨r, hm, hri⟩ := hasRow_iff.1 (hcov i (List.mem_range.2 hi))
        obtain ⟨p, hp⟩ := List.mem_iff_getElem?.1 hm
        exact ⟨p, r, hp, hri⟩
      · obtain ⟨r', hm, hri⟩ := hasRow_iff.1 ((spec _ _ hr).2.2.2.1 j hj)
        obtain ⟨q, hq, hqr⟩ := mem_take hm
        exact ⟨q, r', hq, hqr, hri⟩
      · rw [(spec _ _ hr).2.2.2.2.1] at hj
        obtain ⟨j', h1, h2⟩ := forcedMask_bit hj
        refine ⟨j', h1, h2.imp id ?_⟩
        rintro ⟨r', hm, hri, hf⟩
        obtain ⟨q, hq, hqr⟩ := mem_take hm
        exact ⟨q, r', hq, hqr, hri, hf⟩
      · rcases alsOk_spec hals hq he2 (.inr ⟨_, hpq, hp, he1⟩) with hf | ⟨k1, k2, d, k3, k4, k5⟩
        · exact .inl hf
        · refine .inr ⟨k1, k2, d, k3, fun u r'' hu hne => k4 r'' (List.mem_of_getElem? hu) fun he => hne (hinj hu hq he), fun u r'' hu hlt hm => k5 u r'' hlt hu hm⟩
      · intro p r x hr hx hgo k hk hb
        have hpl : p < rs'.length := (List.getElem?_eq_some_iff.1 hr).1
        have hnx := next_spec rs'.length p rs' 0 (by omega) (by omega)
        have hks := ks_spec r (nextEff rs'.length p (effsAt 0 rs')) rs'.length rs' 0 k (by omega) (hk.imp id fun ⟨e, h1, h2, h3⟩ => ⟨k, e, by omega, h1, h2, h3⟩) fun i e hi he heff => hb i e (by omega) he heff
        rcases hks with hkn | hkm
        · have hconst : ∀ q, p ≤ q → q ≤ nextEff rs'.length p (effsAt 0 rs') → H q = H p := by
            intro q
            induction q with
            | zero => intro h1 _; have : p = 0 := by omega
                      rw [this]
            | succ q ih =>
              intro h1 h2
              by_cases hpq : p = q + 1
              · rw [hpq]
              · have hrq : rs'[q]? = some rs'[q] := List.getElem?_eq_getElem (by omega)
                rw [operA_noEff (hnx.2.2 q _ hrq (by omega) (by omega)) (hrun hrq)]
                exact ih (by omega) (by omega)
          rw [hkn, hconst _ hnx.2.1 (Nat.le_refl _)]
        · obtain ⟨s, s', k1, k2, k3⟩ := t4 p _ (by rw [dopsFrom_get, hr]; rfl)
          have hd := dopsOk_get hok (p := p) (by rw [dopsFrom_get, hr]; rfl) k1
          have hEp : E p = s.1 := by simp only [E, k1]
          have hHp : H p = s.2 := by simp only [H, k1]
          simp only [hx, Nat.zero_add, dopOk] at hd
          rw [hEp] at hgo ⊢
          rw [hHp]
          split at hd
          · rename_i hnil; rw [hnil] at hkm; cases hkm
          · simp only [hgo, cond_true] at hd
            split at hd
            · rename_i v hv
              rw [hv]
              have := List.all_eq_true.1 hd k hkm
              split at this
              · rename_i sk hsk
                have hHk : H k = sk.2 := by simp only [H, hsk]
                rw [hHk]; exact sameRead_eq this
              · cases this
            · cases hd
    have := D.draw (by omega) (g0 := g) (by rw [hH0]; exact hS) (a := a) (by rw [hE0]; exact hA) (Q := Q) (fun a' w' hh => hQ a' w' (by rw [hH0, hEm, hHm] at hh; exact hh))
    exact this

end
end Go.Av
end

section
/- Code is as the evaluator says. -/
namespace Go.Av
section
variable {P : Program} {call : CallFn} {noop : Nat → Bool} {n : Nat}

theorem wp_loop_n {c : Code} {Q : Exit → Act → World → Prop} (I : Nat → Act → World → Prop) (h0 : ∀ a w, ¬ I 0 a w) (round : ∀ k a w, I (k + 1) a w → c.wp P (Exit.then (I k) Q) a w) (N : Nat) (a : Act) (w : World) (hI : I N a w) : (Code.loop c).wp P Q a w := by
  intro b k cs
  have key : ∀ N a w, I N a w → ∃ e a' w', Q e a' w' ∧ Arrives P (lone (b.at a (.code c :: .inLoop c :: k)) cs w) b k cs e a' w' := by
    intro N
    induction N with
    | zero => intro a w h; exact absurd h (h0 a w)
    | succ N ih =>
      intro a w hI
      obtain ⟨e, a₁, w₁, hq, harr⟩ := round N a w hI b (.inLoop c :: k) cs
      cases e with
      | normal =>
        obtain ⟨e₂, a₂, w₂, hq₂, harr₂⟩ := ih a₁ w₁ hq
        exact ⟨e₂, a₂, w₂, hq₂, .of_steps (Steps.trans harr (.one step_inLoop)) harr₂⟩
      | exit id => exact ⟨_, a₁, w₁, hq, .pass (x := .inLoop c) rfl (fun _ _ => .inl (by simp)) harr⟩
      | goto l => exact ⟨_, a₁, w₁, hq, .pass (x := .inLoop c) rfl (fun _ _ => .inl (by simp)) harr⟩
      | ret => exact ⟨_, a₁, w₁, hq, .pass (x := .inLoop c) rfl (fun _ _ => .inl (by simp)) harr⟩
      | panic ch => exact ⟨_, a₁, w₁, hq, .pass (x := .inLoop c) rfl (fun _ _ => .inl (by simp)) harr⟩
      | outgrown => exact ⟨_, a₁, w₁, hq, .pass (x := .inLoop c) rfl (fun _ _ => .inl (by simp)) harr⟩
  obtain ⟨e, a', w', hq, harr⟩ := key N a w hI
  exact ⟨e, a', w', hq, .of_steps (.one step_loop) harr⟩

def XExit.real : XExit → Exit
  | .normal => .normal
  | .exit i => .exit i
  | .ret => .ret

theorem AfterA.trans {g g' : Gh} {h h' : Heap} {e' : Env} {h2 : Heap} {a : Act} {w : World} (st : Step g h g' h') (hA : AfterA P n g' h' e' h2 a w) : AfterA P n g h e' h2 a w := by
  obtain ⟨g2, hw, hS, s2, hR⟩ := hA
  exact ⟨g2, hw, hS, st.trans s2, hR⟩

theorem range_map (ops : Array Oper) : (List.range ops.size).map (fun i => ops[i]?) = ops.toList.map some := by
  apply List.ext_getElem?
  intro i
  simp only [List.getElem?_map, Array.getElem?_toList]
  by_cases hi : i < ops.size
  · simp [hi]
  · simp [hi]

theorem code_sound (hm : P.follows .mixedOrders = true) (hC : CallSpec P call) (hN : NoopSpec P noop) {lf : Nat} : ∀ (c : Code) (xc : XCode), xcode P n c = some xc → ∀ {e e' : Env} {h h' : Heap} {x : XExit} {g : Gh} {a : Act},
    codeA call noop lf xc e h = some (x, e', h') → Sim g h → ActR P g e a n → ∀ {Q : Exit → Act → World → Prop}, (∀ a' w', AfterA P n g h e' h' a' w' → Q x.real a' w') → c.wp P Q a g.w := by
  intro c
  induction c with
  | skip =>
    intro xc hx e e' h h' x g a hc hS hA Q hQ
    simp only [xcode, Option.some.injEq] at hx; subst hx
    simp only [codeA, Option.some.injEq, Prod.mk.injEq] at hc
    obtain ⟨rfl, rfl, rfl⟩ := hc
    exact wp_skip (hQ _ _ ⟨g, rfl, hS, Step.refl _ _, hA⟩)
  | region id ops drawn =>
    intro xc hx e e' h h' x g a hc hS hA Q hQ
    cases drawn with
    | false =>
      simp only [xcode] at hx
      split at hx
      · rename_i l hl
        injection hx with hx; subst hx
        simp only [codeA] at hc
        split at hc
        · rename_i e1 h1 ho
          injection hc with hc; injection hc with hc1 hc2; injection hc2 with hc2 hc3; subst hc1; subst hc2; subst hc3
          exact wp_region (opers_sound hC hN _ ops.toList l (range_map ops) hl hS hA ho hQ)
        · cases hc
      · cases hx
    | true =>
      simp only [xcode] at hx
      split at hx
      · rename_i l hl
        injection hx with hx; subst hx
        simp only [codeA] at hc
        split at hc
        · rename_i tr htr
          obtain ⟨hok, hc⟩ := cond_some hc
          split at hc
          · rename_i e1 h1 hlast
            injection hc with hc; injection hc with hc1 hc2; injection hc2 with hc2 hc3; subst hc1; subst hc2; subst hc3
            obtain ⟨hSd, std⟩ := hS.draw
            refine wp_region_any hm ?_
            have key : ∀ {order : List Nat} {rs : List Row}, drawRows P n ops order = some rs → l = dopsFrom rs.length (effsAt 0 rs) 0 rs → wpAny P .any ops Q ops.size (Array.replicate ops.size false) a { g.w with drawn := g.w.drawn + 1 } := by
              intro order rs hrs he
              subst he
              exact draw_sound hC hN hrs htr hok hlast hSd (hA.mono hS std) (fun a' w' hh => hQ a' w' (hh.trans std))
            unfold xdreg at hl
            split at hl
            · rename_i rs hrs; injection hl with hl; exact key hrs hl.symm
            · dsimp only at hl
              split at hl
              · rename_i rs hrs; injection hl with hl; exact key hrs hl.symm
              · cases hl
          · cases hc
        · cases hc
      · injection hx with hx; subst hx
        simp only [codeA, opersA, operA, goes, cond_true, opA] at hc
        cases hc
  | seq p q ihp ihq =>
    intro xc hx e e' h h' x g a hc hS hA Q hQ
    simp only [xcode] at hx
    split at hx
    · rename_i xa xb ha hb
      injection hx with hx; subst hx
      simp only [codeA] at hc
      refine wp_seq ?_
      split at hc
      · rename_i e1 h1 ha1
        refine ihp xa ha ha1 hS hA fun a1 w1 hh => ?_
        obtain ⟨g1, rfl, hS1, st1, hA1⟩ := hh
        show q.wp P Q a1 g1.w
        exact ihq xb hb hc hS1 hA1 fun a2 w2 hh2 => hQ a2 w2 (hh2.trans st1)
      · rename_i hne
        refine ihp xa ha hc hS hA fun a1 w1 hh => ?_
        cases x with
        | normal => exact absurd hc (hne _ _)
        | exit i => exact hQ a1 w1 hh
        | ret => exact hQ a1 w1 hh
    · cases hx
  | cond y p q ihp ihq =>
    intro xc hx e e' h h' x g a hc hS hA Q hQ
    simp only [xcode] at hx
    split at hx
    · rename_i xy xa xb hy ha hb
      injection hx with hx; subst hx
      simp only [codeA] at hc
      have hv := hA.or _ _ hy
      split at hc
      · rename_i hg; rw [hg] at hv; simp only [VR] at hv
        exact wp_cond_true hv (ihp xa ha hc hS hA hQ)
      · rename_i hg; rw [hg] at hv; simp only [VR] at hv
        exact wp_cond_false hv (ihq xb hb hc hS hA hQ)
      · cases hc
    · cases hx
  | block id b ih =>
    intro xc hx e e' h h' x g a hc hS hA Q hQ
    simp only [xcode] at hx
    split at hx
    · rename_i xb hb
      injection hx with hx; subst hx
      simp only [codeA] at hc
      refine wp_block ?_
      split at hc
      · rename_i i e1 h1 hb1
        injection hc with hc; injection hc with hc1 hc2; injection hc2 with hc2 hc3; subst hc2; subst hc3
        refine ih xb hb hb1 hS hA fun a1 w1 hh => ?_
        simp only [XExit.real, Exit.inBlock]
        by_cases hi : i = id
        · subst hi
          simp at hc1; subst hc1
          rw [if_pos rfl]; exact hQ a1 w1 hh
        · rw [beq_no hi] at hc1
          simp at hc1; subst hc1
          rw [if_neg hi]; exact hQ a1 w1 hh
      · rename_i hne
        refine ih xb hb hc hS hA fun a1 w1 hh => ?_
        cases x with
        | normal => exact hQ a1 w1 hh
        | exit i => exact absurd hc (hne _ _ _)
        | ret => exact hQ a1 w1 hh
    · cases hx
  | loop b ih =>
    intro xc hx e e' h h' x g a hc hS hA Q hQ
    simp only [xcode] at hx
    split at hx
    · rename_i xb hb
      injection hx with hx; subst hx
      simp only [codeA] at hc
      refine wp_loop_n (fun N a1 w1 => ∃ e1 h1 g1, iter (codeA call noop lf xb) N e1 h1 = some (x, e', h') ∧ g1.w = w1 ∧ Sim g1 h1 ∧ Step g h g1 h1 ∧ ActR P g1 e1 a1 n) ?_ ?_ lf a g.w ⟨e, h, g, hc, rfl, hS, Step.refl _ _, hA⟩
      · rintro a1 w1 ⟨e1, h1, g1, hi, _⟩; simp [iter] at hi
      · rintro k a1 w1 ⟨e1, h1, g1, hi, rfl, hS1, st1, hA1⟩
        simp only [iter] at hi
        split at hi
        · rename_i e2 h2 hb2
          refine ih xb hb hb2 hS1 hA1 fun a2 w2 hh => ?_
          obtain ⟨g2, rfl, hS2, st2, hA2⟩ := hh
          exact ⟨e2, h2, g2, hi, rfl, hS2, st1.trans st2, hA2⟩
        · rename_i hne
          refine ih xb hb hi hS1 hA1 fun a2 w2 hh => ?_
          cases x with
          | normal => exact absurd hi (hne _ _)
          | exit i => exact hQ a2 w2 (hh.trans st1)
          | ret => exact hQ a2 w2 (hh.trans st1)
    · cases hx
  | exit id =>
    intro xc hx e e' h h' x g a hc hS hA Q hQ
    simp only [xcode, Option.some.injEq] at hx; subst hx
    simp only [codeA, Option.some.injEq, Prod.mk.injEq] at hc
    obtain ⟨rfl, rfl, rfl⟩ := hc
    exact wp_exit (hQ _ _ ⟨g, rfl, hS, Step.refl _ _, hA⟩)
  | ret =>
    intro xc hx e e' h h' x g a hc hS hA Q hQ
    simp only [xcode, Option.some.injEq] at hx; subst hx
    simp only [codeA, Option.some.injEq, Prod.mk.injEq] at hc
    obtain ⟨rfl, rfl, rfl⟩ := hc
    exact wp_ret (hQ _ _ ⟨g, rfl, hS, Step.refl _ _, hA⟩)
  | _ =>
    intro xc hx
    simp only [xcode, reduceCtorEq] at hx

end
end Go.Av
end

section
/- Calls are as the evaluator says. -/
namespace Go.Av
section
variable {P : Program}

theorem leaves_quiet {fn : Func} {tmps : Array Value} {R : Ending → World → Prop} {w : World} (h : ∃ v, (results fn tmps).run P w = .ok v w ∧ R (.returned v) w) : ∀ ds : List Deferred, (∀ d ∈ ds, QuietD P d) → Leaves P fn tmps R ds .returning w
  | [], _ => h
  | d :: ds, hq => by
    obtain ⟨fv, cap, f, args, h1, h2, h3⟩ := hq d (by simp)
    refine ⟨by simp, fv, cap, f, args, h1, h2 w, CallsD.mono (h3 w) fun e u w' he => ?_⟩
    obtain ⟨⟨v, rfl⟩, rfl, rfl⟩ := he
    exact leaves_quiet h ds fun d hd => hq d (by simp [hd])

theorem params_get : ∀ (l : List AVal) (k : Nat) (e : Env) (t : Nat), (params l (Pos.nth k) e).get (Pos.nth t) = if k ≤ t ∧ t < k + l.length then l[t - k]? else e.get (Pos.nth t)
  | [], k, e, t => by
    rw [if_neg (by simp only [List.length_nil]; omega)]; rfl
  | v :: l, k, e, t => by
    have : params (v :: l) (Pos.nth k) e = params l (Pos.nth (k + 1)) (Tr.put (some v) (Pos.nth k) e) := rfl
    rw [this, params_get l (k + 1)]
    by_cases h1 : t = k
    · subst h1
      rw [if_neg (by omega), if_pos (by simp), Tr.get_put, if_pos rfl]; simp
    · by_cases h2 : k ≤ t ∧ t < k + (v :: l).length
      · rw [if_pos (by simp at h2 ⊢; omega), if_pos h2]
        obtain ⟨j, rfl⟩ : ∃ j, t = k + 1 + j := ⟨t - (k + 1), by omega⟩
        have e1 : k + 1 + j - (k + 1) = j := by omega
        have e2 : k + 1 + j - k = j + 1 := by omega
        rw [e1, e2]; simp
      · rw [if_neg (by simp at h2 ⊢; omega), if_neg h2, Tr.get_put, if_neg]
        exact fun hh => h1 (Pos.nth_inj hh).symm

theorem start_act {g : Gh} {args : List AVal} {vs : Array Value} (hv : VRs g args vs.toList) {n : Nat} (hn : args.length ≤ n) :
    ActR P g (params args .h .leaf) { tmps := vs ++ Array.replicate (n - vs.size) undef, defers := [] } n := by
  have hl := VRs.length hv
  simp only [Array.length_toList] at hl
  refine ⟨by simp; omega, fun t => ?_, fun d hd => by cases hd⟩
  have hp := params_get args 0 .leaf t
  simp only [Nat.zero_le, true_and, Nat.zero_add, Nat.sub_zero] at hp
  have hh : Pos.nth 0 = Pos.h := rfl
  rw [hh] at hp
  simp only [getE, hp]
  by_cases ht : t < args.length
  · rw [if_pos ht]
    obtain ⟨y, hy, hr⟩ := VRs.get hv (List.getElem?_eq_getElem ht)
    rw [List.getElem?_eq_getElem ht]
    have : (vs ++ Array.replicate (n - vs.size) undef).getD t undef = y := by
      rw [Array.getD_eq_getD_getElem?, Array.getElem?_append_left (by omega)]
      rw [Array.getElem?_toList] at hy; rw [hy]; rfl
    rw [this]; exact hr
  · rw [if_neg ht]
    have h1 : (Tr.leaf : Env).get (Pos.nth t) = none := by cases Pos.nth t <;> rfl
    rw [h1]
    have : (vs ++ Array.replicate (n - vs.size) undef).getD t undef = undef := by
      rw [Array.getD_eq_getD_getElem?, Array.getElem?_append_right (by omega), Array.getElem?_replicate]
      split <;> rfl
    rw [this]; exact VR_undef g

def resF (tmps : Array Value) : ResultVar → Sem Value
  | .tmp t => pure (tmps.getD t undef)
  | .cell x t => do loadVar t (← asAddr (tmps.getD x undef))

theorem ress_sound {g : Gh} {h : Heap} {e : Env} {a : Act} {n : Nat} (hS : Sim g h) (hA : ActR P g e a n) : ∀ {rs : List ResultVar} {xs : List XRes} {vs : List AVal}, xress P rs = some xs → ressA h e xs = some vs →
    ∃ us : List Value, (rs.mapM (resF a.tmps)).run P g.w = .ok us g.w ∧ VRs g vs us
  | [], xs, vs, hx, hv => by
    simp only [xress, Option.some.injEq] at hx; subst hx
    simp only [ressA, Option.some.injEq] at hv; subst hv
    exact ⟨[], by simp [List.mapM_nil], by simp [VRs]⟩
  | r :: rs, xs, vs, hx, hv => by
    simp only [xress] at hx
    split at hx
    · rename_i x xs' hx1 hx2
      injection hx with hx; subst hx
      simp only [ressA] at hv
      split at hv
      · rename_i v vs' hv1 hv2
        injection hv with hv; subst hv
        obtain ⟨us, h1, h2⟩ := ress_sound hS hA hx2 hv2
        have hone : ∃ u, (resF a.tmps r).run P g.w = .ok u g.w ∧ VR g v u := by
          cases r with
          | tmp t =>
            simp only [xres, Option.some.injEq] at hx1; subst hx1
            simp only [resA, Option.some.injEq] at hv1; subst hv1
            exact ⟨_, by simp only [resF, Sem.run_pure], hA.env t⟩
          | cell c ty =>
            simp only [xres] at hx1
            split at hx1
            · rename_i m hm
              split at hx1
              · rename_i hok
                injection hx1 with hx1; subst hx1
                simp only [resA] at hv1
                split at hv1
                · rename_i cs hcs
                  obtain ⟨R, o, he, hc, hl⟩ := cellsAt_CR hS hcs (hA.env c)
                  obtain ⟨u, hu, hur⟩ := loadVar_sound hm hok hc hl hv1
                  exact ⟨u, by simp only [resF, he, asAddr, Sem.run_bind, Sem.run_pure, Result.andThen_ok, hu], hur⟩
                · cases hv1
              · cases hx1
            · cases hx1
        obtain ⟨u, hu, hur⟩ := hone
        refine ⟨u :: us, ?_, by simp only [VRs]; exact ⟨u, us, rfl, hur, h2⟩⟩
        simp only [List.mapM_cons, Sem.run_bind, hu, Result.andThen_ok, h1, Sem.run_pure]
      · cases hv
    · cases hx

theorem results_sound {g : Gh} {h : Heap} {e : Env} {a : Act} {n : Nat} (hS : Sim g h) (hA : ActR P g e a n) {fn : Func} {xs : List XRes} {vs : List AVal} (hx : xress P fn.results.toList = some xs) (hv : ressA h e xs = some vs) :
    ∃ u, (results fn a.tmps).run P g.w = .ok u g.w ∧ VR g (retA vs) u := by
  obtain ⟨us, h1, h2⟩ := ress_sound hS hA hx hv
  have hrun : (results fn a.tmps).run P g.w = .ok (if h : us.toArray.size = 1 then us.toArray[0] else .tuple us.toArray) g.w := by
    have : results fn a.tmps = (do let vs ← fn.results.mapM (resF a.tmps); pure (if h : vs.size = 1 then vs[0] else .tuple vs)) := by
      unfold results; congr 2
    rw [this, Array.mapM_eq_mapM_toList]
    simp only [Sem.run_bind, Sem.run_map, h1, Result.andThen_ok, Sem.run_pure]
  refine ⟨_, hrun, ?_⟩
  have hlen := VRs.length h2
  match vs, hlen, h2 with
  | [v], _, h2 =>
    obtain ⟨u, rfl, hu⟩ := VRs.of_one h2
    simpa [retA] using hu
  | [], hlen, h2 =>
    have : us = [] := List.length_eq_zero_iff.1 hlen.symm
    subst this
    simp only [retA, VR]; exact ⟨#[], by simp, h2⟩
  | v :: v' :: l, hlen, h2 =>
    have hne : ¬ us.toArray.size = 1 := by simp only [List.size_toArray]; simp at hlen; omega
    rw [dif_neg hne]
    simp only [retA, VR]; exact ⟨us.toArray, rfl, by simpa using h2⟩

def extImpl : XExt → Array Value → Sem Value
  | .atomicAdd => Extern.Atomic.update (Op.intArith .add) .i64 true
  | .atomicLoad => Extern.Atomic.loadT (.int .i64)
  | .f64bits => Extern.MathFloatBits.float64bits
  | .f64frombits => Extern.MathFloatBits.float64frombits

theorem ext_sound {g : Gh} {h h' : Heap} (hS : Sim g h) {x : XExt} {args : List AVal} {vs : Array Value} (hv : VRs g args vs.toList) {a : AVal} (hx : extA h x args = some (a, h')) :
    ∃ v g', (extImpl x vs).run P g.w = .ok v g'.w ∧ Sim g' h' ∧ Step g h g' h' ∧ VR g' a v := by
  obtain ⟨l⟩ := vs
  simp only at hv
  unfold extA at hx
  split at hx
  · rename_i b o d
    obtain ⟨v1, l1, rfl, hp, hv⟩ : ∃ v1 l1, l = v1 :: l1 ∧ VR g (.ptr b o) v1 ∧ VRs g [.int .i64 d] l1 := by simpa only [VRs] using hv
    obtain ⟨v2, rfl, hd⟩ := VRs.of_one hv
    simp only [VR] at hd; subst hd
    split at hx
    · rename_i n hcs
      split at hx
      · rename_i h2 hst
        injection hx with hx; injection hx with hx1 hx2; subst hx1; subst hx2
        obtain ⟨R, O, e1, hc, _⟩ := cellsAt_CR hS hcs hp
        obtain ⟨R', O', hr, e2⟩ := ptr_inv hp
        rw [e1] at e2; injection e2 with e2; injection e2 with e2; injection e2 with e2 e3 e4
        subst e2; subst e3
        simp only [CR] at hc
        obtain ⟨⟨u, hu, hur⟩, _⟩ := hc
        simp only [VR] at hur; subst hur
        obtain ⟨g', hrun, hS', st⟩ := storeAt_sound (P := P) hS hst (VRs.one (a := .int .i64 (IntKind.i64.wrap (n + d))) (v := .int .i64 (IntKind.i64.wrap (n + d))) (by simp only [VR])) hr
        refine ⟨.int .i64 (IntKind.i64.wrap (n + d)), g', ?_, hS', st, by simp only [VR]⟩
        have hone : (Value.int .i64 (IntKind.i64.wrap (n + d))).oneCell' = true := rfl
        have hadd : (⟨R, O' + o, none⟩ : Addr).add 0 = ⟨R, O' + o, none⟩ := by simp [addr_add]
        simp only [storeCells, Sem.run_bind, hadd, run_store P g.w _ _ _ hone, hu] at hrun
        subst e1
        have himpl : extImpl .atomicAdd ⟨[.pointer (some ⟨R, O' + o, none⟩), .int .i64 d]⟩ = (do
            let a ← asAddr (.pointer (some ⟨R, O' + o, none⟩))
            let old ← Extern.Atomic.read (.int .i64) a
            let new ← Op.intArith .add .i64 (← asInt old) (← asInt (.int .i64 d))
            store a new .atomic
            pure new) := rfl
        rw [himpl]
        simp only [Extern.Atomic.read, asAddr, asInt, asIntOf, Sem.run_bind, Sem.run_pure, Result.andThen_ok, run_load, hu, if_true, Op.intArith, run_store P g.w _ _ _ hone]
        cases hfz : g.w.frozen? ⟨R, O' + o, none⟩ with
        | true => simp [hfz] at hrun
        | false =>
          simp only [hfz, Bool.false_eq_true, if_false, Result.andThen_ok, Sem.run_pure, Result.ok.injEq, true_and] at hrun ⊢
          exact hrun
      · cases hx
    · cases hx
  · rename_i b o
    obtain ⟨v1, rfl, hp⟩ := VRs.of_one hv
    split at hx
    · rename_i n hcs
      injection hx with hx; injection hx with hx1 hx2; subst hx1; subst hx2
      obtain ⟨R, O, e1, hc, _⟩ := cellsAt_CR hS hcs hp
      simp only [CR] at hc
      obtain ⟨⟨u, hu, hur⟩, _⟩ := hc
      simp only [VR] at hur; subst hur
      subst e1
      refine ⟨.int .i64 n, g, ?_, hS, Step.refl _ _, by simp only [VR]⟩
      have himpl : extImpl .atomicLoad ⟨[.pointer (some ⟨R, O, none⟩)]⟩ = (do Extern.Atomic.read (.int .i64) (← asAddr (.pointer (some ⟨R, O, none⟩)))) := rfl
      rw [himpl]
      simp only [Extern.Atomic.read, asAddr, Sem.run_bind, Sem.run_pure, Result.andThen_ok, run_load, hu, if_true]
    · cases hx
  · rename_i b
    obtain ⟨v1, rfl, hp⟩ := VRs.of_one hv
    simp only [VR] at hp; subst hp
    injection hx with hx; injection hx with hx1 hx2; subst hx1; subst hx2
    exact ⟨.int .u64 b, g, rfl, hS, Step.refl _ _, by simp only [VR]; rfl⟩
  · rename_i m
    obtain ⟨v1, rfl, hp⟩ := VRs.of_one hv
    simp only [VR] at hp; subst hp
    injection hx with hx; injection hx with hx1 hx2; subst hx1; subst hx2
    exact ⟨.float .f64 m, g, rfl, hS, Step.refl _ _, by simp only [VR]⟩
  · cases hx

theorem Sim.world {g : Gh} {h : Heap} (hS : Sim g h) {w' : World} (hB : RowKit.Below g.w.heap.size g.w w') : Sim { g with w := w' } h ∧ Step g h { g with w := w' } h := by
  have st : Step g h { g with w := w' } h := ⟨fun _ _ h => h, fun _ h => h, fun _ _ _ h => h, ⟨hB.os, hB.tape, hB.output⟩, hB.size, fun R hR ho => ⟨hB.block R hR, ho⟩, fun R c e f hw => ⟨c, f, (hB.block R (Array.getElem?_eq_some_iff.1 hw).1).trans hw, rfl⟩⟩
  exact ⟨⟨fun b x hb => BR.mono st hS (hS.blk b x hb) fun R O hr => hB.block R (hS.lt hb hr), hS.inj, hS.fresh, fun R hR => ⟨Nat.lt_of_lt_of_le (hS.im R hR).1 hB.size, (hS.im R hR).2⟩⟩, st⟩

/-- a function without arguments that always comes to the same -/
def ConstSpec (P : Program) (f : Nat) (v : AVal) : Prop :=
  (∃ fn b, P.funcs[f]? = some fn ∧ (fn.name == "runtime.NumGoroutine") = false ∧ fn.body = some b) ∧ ∃ u, (∀ g, VR g v u) ∧
    ∀ w, Calls P f #[] w fun e w' => e = .returned u ∧ RowKit.Below w.heap.size w w'

structure XOk (P : Program) (X : XProg) : Prop where
  mixed : P.follows .mixedOrders = true
  noop : NoopSpec P X.noop
  const : ∀ f v, X.func f = some (.const v) → ConstSpec P f v
  func : ∀ f xf, X.func f = some xf → (∀ v, xf ≠ .const v) → ∃ fn, P.funcs[f]? = some fn ∧ (fn.name == "runtime.NumGoroutine") = false ∧ xfunc P fn = some xf ∧
    ∀ e, xf = .ext e → fn.body.isNone = true ∧ Extern.findNext fn = none ∧ Extern.find fn = some (extImpl e)

theorem xext_ext {fn : Func} {xf : XFn} (h : xext fn = some xf) : ∃ e, xf = .ext e := by
  unfold xext at h
  repeat' (first | split at h | (injection h with h; exact ⟨_, h.symm⟩) | cases h)

theorem call_sound {X : XProg} (hX : XOk P X) (lf : Nat) : ∀ n, CallSpec P (callA X lf n)
  | 0 => by intro f args h a h' g vs hc; cases hc
  | n + 1 => by
    intro f args h a h' g vs hc hS hv
    simp only [callA] at hc
    split at hc
    · cases hc
    · rename_i e hf
      obtain ⟨fn, h1, h2, h3, h4⟩ := hX.func f _ hf (fun v h => by cases h)
      obtain ⟨k1, k2, k3⟩ := h4 e rfl
      obtain ⟨v, g', hr, hS', st, hvr⟩ := ext_sound (P := P) hS hv hc
      left
      refine ⟨v, g', ?_, hS', st, hvr⟩
      rw [run_callFunc_extern h1 h2 k1 k2 k3, hr]; rfl
    · rename_i u hf
      split at hc
      · injection hc with hc; injection hc with hc1 hc2; subst hc1; subst hc2
        obtain ⟨⟨fn, b, k1, k2, k3⟩, u', k4, k5⟩ := hX.const f u hf
        have hvs : vs = #[] := by simp only [VRs] at hv; exact Array.toList_eq_nil_iff.1 hv
        subst hvs
        right
        have k2' : fn.name ≠ "runtime.NumGoroutine" := by simpa using k2
        refine ⟨by simp [callFunc, k1, k2', k3], Calls.mono (k5 g.w) fun e w' he => ?_⟩
        obtain ⟨rfl, hB⟩ := he
        obtain ⟨hS', st⟩ := hS.world hB
        exact ⟨u', _, rfl, rfl, hS', st, k4 _⟩
      · cases hc
    · rename_i xfn hf
      obtain ⟨fn, h1, h2, h3, _⟩ := hX.func f _ hf (fun v h => by cases h)
      obtain ⟨hlen, hc⟩ := cond_some hc
      have hlen := Nat.le_of_ble_eq_true hlen
      unfold xfunc at h3
      split at h3
      · obtain ⟨e, he⟩ := xext_ext h3; cases he
      · rename_i b hb
        split at h3
        · rename_i xb xr hxb hxr
          injection h3 with h3; injection h3 with h3; subst h3
          right
          refine ⟨?_, ?_⟩
          · have h2' : fn.name ≠ "runtime.NumGoroutine" := by simpa using h2
            simp [callFunc, h1, h2', hb]
          · refine calls_of_wp_defers h1 hb ?_
            have hA := start_act (P := P) hv hlen
            have fin : ∀ {x : XExit} {e1 : Env} {h1 : Heap}, codeA (callA X lf n) X.noop lf xb (params args .h .leaf) h = some (x, e1, h1) → (∀ i, x ≠ .exit i) → (match ressA h1 e1 xr with | some vs => some (bif X.frz f then freezeA (retA vs) h1 else (retA vs, h1)) | none => none) = some (a, h') →
                b.wp P (bodyPostD P fn (Ends g h a h')) { tmps := vs ++ Array.replicate (fn.ntmps - vs.size) undef, defers := [] } g.w := by
              intro x e1 h1 hcode hne hres
              refine code_sound hX.mixed (call_sound hX lf n) hX.noop b xb hxb hcode hS hA fun a1 w1 hh => ?_
              obtain ⟨g1, rfl, hS1, st1, hA1⟩ := hh
              have hend : ∃ v, (results fn a1.tmps).run P g1.w = .ok v g1.w ∧ Ends g h a h' (.returned v) g1.w := by
                cases hrs : ressA h1 e1 xr with
                | none => rw [hrs] at hres; cases hres
                | some rs =>
                  obtain ⟨u, hu, hur⟩ := results_sound hS1 hA1 hxr hrs
                  rw [hrs] at hres
                  simp only [Option.some.injEq] at hres
                  cases hz : X.frz f with
                  | false =>
                    simp only [hz, cond_false, Prod.mk.injEq] at hres
                    obtain ⟨rfl, rfl⟩ := hres
                    exact ⟨u, hu, u, g1, rfl, rfl, hS1, st1, hur⟩
                  | true =>
                    simp only [hz, cond_true] at hres
                    obtain ⟨g2, w2, S2, st2, v2⟩ := freezeA_sound hS1 hur
                    rw [hres] at S2 st2 v2
                    exact ⟨u, hu, u, g2, rfl, w2, S2, st1.trans st2, v2⟩
              cases x with
              | normal => exact leaves_quiet hend a1.defers hA1.defers
              | ret => exact leaves_quiet hend a1.defers hA1.defers
              | exit i => exact absurd rfl (hne i)
            split at hc
            · cases hc
            · rename_i x e1 h1 hne hcode
              exact fin hcode (fun i hx => by subst hx; exact hne i rfl) hc
            · cases hc
        · cases h3

end
end Go.Av
end

section
/- A closed run of the evaluator is one of the program. -/
namespace Go.Av
open Go.RowKit
section
variable {P : Program}

def Gh.start (w : World) : Gh := { ρ := fun _ => none, im := fun _ => False, w }

theorem Sim.start (w : World) : Sim (Gh.start w) Heap.empty where
  blk b x h := by cases b <;> cases h
  inj b b' x x' R O O' h := by cases b <;> cases h
  fresh b p h := by cases h
  im R h := by cases h

theorem not_owned_start (w : World) (R : Nat) : ¬ owned (Gh.start w) Heap.empty R := by
  rintro ⟨b, x, O, h, _⟩; cases b <;> cases h

theorem Step.below {w : World} {g' : Gh} {h' : Heap} (s : Step (Gh.start w) Heap.empty g' h') : Below w.heap.size w g'.w :=
  ⟨s.rest.1, s.rest.2.1, s.rest.2.2, s.size, fun k hk => (s.frame k hk (not_owned_start w k)).1⟩

theorem calls_of_spec {X : XProg} (hX : XOk P X) {f : Nat} {xfn : XFunc} (hf : X.func f = some (.go xfn)) {lf n : Nat} {args : List AVal} {h : Heap} {a : AVal} {h' : Heap} (hc : callA X lf n f args h = some (a, h')) {g : Gh} {vs : Array Value} (hS : Sim g h) (hv : VRs g args vs.toList) :
    Calls P f vs g.w (Ends g h a h') := by
  rcases call_sound hX lf n f args h a h' g vs hc hS hv with ⟨v, g', hr, _⟩ | ⟨_, h⟩
  · exfalso
    obtain ⟨fn, h1, h2, h3, _⟩ := hX.func f _ hf (fun v h => by cases h)
    have hb : ∃ b, fn.body = some b := by
      unfold xfunc at h3
      split at h3
      · obtain ⟨e, he⟩ := xext_ext h3; cases he
      · exact ⟨_, by assumption⟩
    obtain ⟨b, hb⟩ := hb
    have h2' : fn.name ≠ "runtime.NumGoroutine" := by simpa using h2
    have : (callFunc f vs).run P g.w = .ok (.enter f vs) g.w := by simp [callFunc, h1, h2', hb]
    rw [this] at hr; cases hr
  · exact h

theorem closed_calls {X : XProg} (hX : XOk P X) {f : Nat} {xfn : XFunc} (hf : X.func f = some (.go xfn)) {lf n : Nat} {a : AVal} {h' : Heap} (hc : callA X lf n f [] Heap.empty = some (a, h')) (w : World) :
    Calls P f #[] w fun e w' => ∃ v g', e = .returned v ∧ g'.w = w' ∧ VR g' a v ∧ Sim g' h' ∧ Below w.heap.size w w' := by
  refine Calls.mono (calls_of_spec hX hf hc (Sim.start w) (vs := #[]) (by simp [VRs])) fun e w' he => ?_
  obtain ⟨v, g', h1, rfl, h2, h3, h4⟩ := he
  exact ⟨v, g', h1, rfl, h4, h2, h3.below⟩

/-- a deferred call that recovers, where nothing panicked -/
theorem quiet_recover {f : Nat} {fn : Func} (hf : P.funcs[f]? = some fn) (hname : (fn.name == "runtime.NumGoroutine") = false) {i t1 t2 : Nat} {o1 o2 : Oper} {c : Code} (hb : fn.body = some (.seq (.region i #[o1, o2] false) (.cond (.tmp t2) c .skip)))
    (h1 : o1.op = .call { callee := .builtin .recover, args := #[], argTypes := #[] }) (g1 : o1.guard = none) (d1 : o1.dst = some t1) (g2 : o2.guard = none) (d2 : o2.dst = some t2) (hl : looksOf #[o1, o2] o2 = [t1])
    (hx : xop P o2 = some (.p (.nileq true .ifc true (.t (Pos.nth t1)) (.c .nilIface)))) (hne : t1 < fn.ntmps ∧ t2 < fn.ntmps) (hr : fn.results = #[]) (cap args : Array Value) : QuietD P { target := .fn (.func f) cap, args } := by
  have hname' : fn.name ≠ "runtime.NumGoroutine" := by simpa using hname
  refine ⟨.func f, cap, f, args ++ cap, rfl, fun w => by simp [invoke, callFunc, hf, hname', hb], fun w => ?_⟩
  refine callsD_of_wpS hf hb fun c₀ cs hc₀ => wpS_seq (wpS_region ?_)
  have hrange : List.range (#[o1, o2] : Array Oper).size = [0, 1] := rfl
  rw [hrange]
  have w1 : Region.wanted o1 (yielded #[o1, o2] (args ++ cap ++ Array.replicate (fn.ntmps - (args ++ cap).size) undef)) = true := by simp [Region.wanted, g1]
  have e1 : ∀ η, (execOp η o1).run P w = .ok .recover w := by
    intro η; simp [execOp, h1, resolve, invoke, builtin]
  have hrec : recoverD (c₀ :: cs) = none := by simp [recoverD, hc₀]
  simp only [wpOpsS, List.getElem?_toArray, List.getElem?_cons_zero, w1, if_true, e1, hrec]
  generalize ha : (({ tmps := args ++ cap ++ Array.replicate (fn.ntmps - (args ++ cap).size) undef, defers := [] } : Act).put o1.dst .nilIface) = a1
  have hsz : fn.ntmps ≤ a1.tmps.size := by subst ha; rw [d1]; simp [Act.put]; omega
  have hdef : a1.defers = [] := by subst ha; rw [d1]; rfl
  have hget : a1.tmps.getD t1 undef = .nilIface := by
    subst ha; rw [d1]
    have : t1 < (args ++ cap ++ Array.replicate (fn.ntmps - (args ++ cap).size) undef).size := by simp; omega
    simp only [Act.put, Array.getD_eq_getD_getElem?, Array.getElem?_setIfInBounds, if_true, if_pos this, Option.getD_some]
  have w2 : Region.wanted o2 (yielded #[o1, o2] a1.tmps) = true := by simp [Region.wanted, g2]
  let e : Env := Tr.put (some .nilIface) (Pos.nth t1) .leaf
  have hE : OR (Gh.start w) (evOf [t1] e) (etaOf [t1] a1) := narrow_or fun t ht => by
    simp only [List.mem_singleton] at ht; subst ht
    rw [hget]
    simp only [e, getE, Tr.get_put, if_true, VR]
  have hp : pureA (evOf [t1] e) (.nileq true .ifc true (.t (Pos.nth t1)) (.c .nilIface)) = some (.bool false) := by
    have : memP (Pos.nth t1) [t1] = true := memP_iff.2 ⟨t1, by simp, rfl⟩
    simp [pureA, nilEq, evOf, this, e, getE, Tr.get_put]
  obtain ⟨v, hv, hvr⟩ := pure_sound (w := w) hE hx hp
  simp only [VR] at hvr; subst hvr
  have e2 : (execOp a1.eval o2).run P w = .ok (.value (.bool false)) w := by
    rw [exec_narrow (ops := #[o1, o2]) hx a1, hl]; exact hv
  simp only [List.getElem?_cons_succ, List.getElem?_cons_zero, w2, if_true, e2, Oper.upon_value]
  show (Code.cond (.tmp t2) c .skip).wpS P _ (a1.put o2.dst (.bool false)) (c₀ :: cs) w
  have hev : (a1.put o2.dst (.bool false)).eval (.tmp t2) = .bool false := by
    have : t2 < a1.tmps.size := by omega
    rw [d2]; simp [Act.put, Act.eval, Array.getD_eq_getD_getElem?, this]
  refine wpS_cond hev (wpS_of_wp (wp_skip ?_))
  refine ⟨?_, .returning, by rw [← hc₀], .tuple #[], by simp [results, hr], ⟨_, rfl⟩, rfl, rfl⟩
  rw [d2]; exact hdef

end
end Go.Av
end

section
/- What a program must have, to be run by the evaluator. -/
namespace Go.Av
section
variable {P : Program}

theorem gen_add : Extern.allGenericRows.lookup "sync/atomic.AddInt64" = none := by kernel_rfl
theorem gen_load : Extern.allGenericRows.lookup "sync/atomic.LoadInt64" = none := by kernel_rfl
theorem gen_bits : Extern.allGenericRows.lookup "math.Float64bits" = none := by kernel_rfl
theorem gen_from : Extern.allGenericRows.lookup "math.Float64frombits" = none := by kernel_rfl
theorem typ_add : Extern.allTypedRows.lookup "sync/atomic.AddInt64" = none := by kernel_rfl
theorem typ_load : Extern.allTypedRows.lookup "sync/atomic.LoadInt64" = none := by kernel_rfl
theorem typ_bits : Extern.allTypedRows.lookup "math.Float64bits" = none := by kernel_rfl
theorem typ_from : Extern.allTypedRows.lookup "math.Float64frombits" = none := by kernel_rfl
theorem row_add : Extern.allRows.lookup "sync/atomic.AddInt64" = some (extImpl .atomicAdd) := by kernel_rfl
theorem row_load : Extern.allRows.lookup "sync/atomic.LoadInt64" = some (extImpl .atomicLoad) := by kernel_rfl
theorem row_bits : Extern.allRows.lookup "math.Float64bits" = some (extImpl .f64bits) := by kernel_rfl
theorem row_from : Extern.allRows.lookup "math.Float64frombits" = some (extImpl .f64frombits) := by kernel_rfl

theorem find_of {fn : Func} {e : XExt} (h : xext fn = some (.ext e)) : Extern.find fn = some (extImpl e) := by
  unfold xext at h
  split at h
  · rename_i hn; injection h with h; injection h with h; subst h
    simp only [Extern.find, hn, gen_add, typ_add, row_add]; rfl
  · split at h
    · rename_i hn; injection h with h; injection h with h; subst h
      simp only [Extern.find, hn, gen_load, typ_load, row_load]; rfl
    · split at h
      · rename_i hn; injection h with h; injection h with h; subst h
        simp only [Extern.find, hn, gen_bits, typ_bits, row_bits]; rfl
      · split at h
        · rename_i hn; injection h with h; injection h with h; subst h
          simp only [Extern.find, hn, gen_from, typ_from, row_from]; rfl
        · cases h

/-- what is looked up once for all functions -/
def funcsOk (P : Program) : Bool := P.funcs.toList.all fun fn => !(fn.name == "runtime.NumGoroutine") && (match fn.body with | some _ => true | none => match xext fn with | none => true | some _ => (Extern.findNext fn).isNone)

def xprog (P : Program) (noop : Nat → Bool) (frz : Nat → Bool := fun _ => false) : XProg := { func := fun f => match P.funcs[f]? with | some fn => xfunc P fn | none => none, noop, frz }

theorem xok {noop frz : Nat → Bool} (hm : P.follows .mixedOrders = true) (hn : NoopSpec P noop) (hf : funcsOk P = true) : XOk P (xprog P noop frz) := by
  have hnc : ∀ f v, (xprog P noop frz).func f ≠ some (.const v) := by
    intro f v h
    simp only [xprog] at h
    split at h
    · unfold xfunc at h
      split at h
      · obtain ⟨e, he⟩ := xext_ext h; cases he
      · split at h
        · injection h with h; cases h
        · cases h
    · cases h
  refine ⟨hm, hn, fun f v h => absurd h (hnc f v), fun f xf hxf _ => ?_⟩
  simp only [xprog] at hxf
  split at hxf
  · rename_i fn hfn
    have hmem : fn ∈ P.funcs.toList := by
      have := Array.mem_of_getElem? hfn
      simpa using this
    have := List.all_eq_true.1 hf fn hmem
    simp only [Bool.and_eq_true, Bool.not_eq_true'] at this
    refine ⟨fn, hfn, this.1, hxf, fun e he => ?_⟩
    subst he
    unfold xfunc at hxf
    split at hxf
    · rename_i hb
      have h2 := this.2
      simp only [hb, hxf] at h2
      exact ⟨by simp [hb], by simpa using h2, find_of hxf⟩
    · split at hxf
      · injection hxf with hxf; cases hxf
      · cases hxf
  · cases hxf

/-- with a function's answer known -/
def XProg.know (X : XProg) (f : Nat) (v : AVal) : XProg := { X with func := fun g => bif Nat.beq g f then some (.const v) else X.func g }

theorem XOk.know {X : XProg} (hX : XOk P X) {f : Nat} {v : AVal} (hc : ConstSpec P f v) : XOk P (X.know f v) := by
  refine ⟨hX.mixed, hX.noop, fun g u h => ?_, fun g xf h hne => ?_⟩
  · simp only [XProg.know] at h
    cases hb : Nat.beq g f with
    | true =>
      simp only [hb, cond_true, Option.some.injEq, XFn.const.injEq] at h
      subst h; rw [Nat.eq_of_beq_eq_true hb]; exact hc
    | false => simp only [hb, cond_false] at h; exact hX.const g u h
  · simp only [XProg.know] at h
    cases hb : Nat.beq g f with
    | true =>
      simp only [hb, cond_true, Option.some.injEq] at h
      exact absurd h.symm (hne v)
    | false => simp only [hb, cond_false] at h; exact hX.func g xf h hne

/-- a closed run that comes to a truth value -/
theorem const_of_run {X : XProg} (hX : XOk P X) {f : Nat} {fn : Func} {c : Code} (hf : P.funcs[f]? = some fn) (hb : fn.body = some c) {xfn : XFunc} (hx : X.func f = some (.go xfn)) {lf n : Nat} {b : Bool} {h' : Heap}
    (hc : callA X lf n f [] Heap.empty = some (.bool b, h')) : ConstSpec P f (.bool b) := by
  obtain ⟨fn', h1, h2, _⟩ := hX.func f _ hx (fun v h => by cases h)
  rw [hf] at h1; injection h1 with h1; subst h1
  refine ⟨⟨fn, c, hf, h2, hb⟩, .bool b, fun g => by simp only [VR], fun w => Calls.mono (closed_calls hX hx hc w) fun e w' he => ?_⟩
  obtain ⟨v, g', rfl, rfl, h3, _, h4⟩ := he
  simp only [VR] at h3; subst h3
  exact ⟨rfl, h4⟩

end
end Go.Av
end

section
/- The evaluator without fuel: what it comes to with fuel enough, and the equations of that. -/
namespace Go.Av

def Le (c c' : CallFn) : Prop := ∀ f a h r, c f a h = some r → c' f a h = some r

theorem opA_mono {c c' : CallFn} (hc : Le c c') {noop : Nat → Bool} {h : Heap} {ρ : XOpd → AVal} {x : XOp} {r : AVal × Heap} (ho : opA c noop h ρ x = some r) : opA c' noop h ρ x = some r := by
  cases x <;> simp only [opA] at ho ⊢ <;> first | exact ho | skip
  split at ho
  · exact hc _ _ _ _ ho
  · cases ho

theorem operA_mono {c c' : CallFn} (hc : Le c c') {noop : Nat → Bool} {o : XOper} {e : Env} {h : Heap} {r : Env × Heap} (ho : operA c noop o e h = some r) : operA c' noop o e h = some r := by
  simp only [operA] at ho ⊢
  cases hg : goes e o.guard with
  | false => simp only [hg, cond_false] at ho ⊢; exact ho
  | true =>
    simp only [hg, cond_true] at ho ⊢
    split at ho
    · rename_i v h' hop; rw [opA_mono hc hop]; exact ho
    · cases ho

theorem opersA_mono {c c' : CallFn} (hc : Le c c') {noop : Nat → Bool} : ∀ {l : List XOper} {e : Env} {h : Heap} {r : Env × Heap}, opersA c noop l e h = some r → opersA c' noop l e h = some r
  | [], _, _, _, ho => ho
  | o :: l, e, h, r, ho => by
    simp only [opersA] at ho ⊢
    split at ho
    · rename_i e' h' hop; rw [operA_mono hc hop]; exact opersA_mono hc ho
    · cases ho

theorem traceA_mono {c c' : CallFn} (hc : Le c c') {noop : Nat → Bool} : ∀ {l : List XDop} {e : Env} {h : Heap} {r : List (Env × Heap)}, traceA c noop l e h = some r → traceA c' noop l e h = some r
  | [], _, _, _, ho => ho
  | o :: l, e, h, r, ho => by
    simp only [traceA] at ho ⊢
    split at ho
    · rename_i e' h' hop
      split at ho
      · rename_i tr htr
        rw [operA_mono hc hop]; simp only [traceA_mono hc htr]; exact ho
      · cases ho
    · cases ho

theorem iter_mono {b b' : Env → Heap → Option (XExit × Env × Heap)} (hb : ∀ e h r, b e h = some r → b' e h = some r) : ∀ {n n' : Nat} {e : Env} {h : Heap} {r : XExit × Env × Heap}, n ≤ n' → iter b n e h = some r → iter b' n' e h = some r
  | 0, _, _, _, _, _, hi => by cases hi
  | n + 1, 0, _, _, _, hn, _ => by omega
  | n + 1, n' + 1, e, h, r, hn, hi => by
    simp only [iter] at hi ⊢
    split at hi
    · rename_i e' h' hbb; rw [hb _ _ _ hbb]; exact iter_mono hb (by omega) hi
    · rename_i hne
      rw [hb _ _ _ hi]
      obtain ⟨x, e', h'⟩ := r
      cases x with
      | normal => exact absurd hi (hne _ _)
      | exit i => rfl
      | ret => rfl

theorem codeA_mono {c c' : CallFn} (hc : Le c c') {noop : Nat → Bool} {lf lf' : Nat} (hl : lf ≤ lf') : ∀ (x : XCode) {e : Env} {h : Heap} {r : XExit × Env × Heap}, codeA c noop lf x e h = some r → codeA c' noop lf' x e h = some r := by
  intro x
  induction x with
  | skip => intro e h r ho; exact ho
  | exit id => intro e h r ho; exact ho
  | ret => intro e h r ho; exact ho
  | reg ops =>
    intro e h r ho
    simp only [codeA] at ho ⊢
    split at ho
    · rename_i e' h' hop; rw [opersA_mono hc hop]; exact ho
    · cases ho
  | dreg ops =>
    intro e h r ho
    simp only [codeA] at ho ⊢
    split at ho
    · rename_i tr htr; rw [traceA_mono hc htr]; exact ho
    · cases ho
  | seq a b iha ihb =>
    intro e h r ho
    simp only [codeA] at ho ⊢
    split at ho
    · rename_i e' h' ha; rw [iha ha]; exact ihb ho
    · rename_i hne
      rw [iha ho]
      obtain ⟨x, e', h'⟩ := r
      cases x with
      | normal => exact absurd ho (hne _ _)
      | exit i => rfl
      | ret => rfl
  | cond y a b iha ihb =>
    intro e h r ho
    simp only [codeA] at ho ⊢
    split at ho
    · exact iha ho
    · exact ihb ho
    · cases ho
  | block id b ih =>
    intro e h r ho
    simp only [codeA] at ho ⊢
    split at ho
    · rename_i i e' h' hb; rw [ih hb]; exact ho
    · rename_i hne
      rw [ih ho]
      obtain ⟨x, e', h'⟩ := r
      cases x with
      | normal => rfl
      | exit i => exact absurd ho (hne _ _ _)
      | ret => rfl
  | loop b ih =>
    intro e h r ho
    simp only [codeA] at ho ⊢
    exact iter_mono (fun e h r hb => ih hb) hl ho

theorem callA_mono (X : XProg) : ∀ {lf lf' n n' : Nat}, lf ≤ lf' → n ≤ n' → Le (callA X lf n) (callA X lf' n')
  | lf, lf', 0, n', hl, hn => by intro f a h r hc; cases hc
  | lf, lf', n + 1, 0, hl, hn => by omega
  | lf, lf', n + 1, n' + 1, hl, hn => by
    intro f a h r hc
    simp only [callA] at hc ⊢
    split at hc
    · cases hc
    · simpa using hc
    · simpa using hc
    · rename_i fn hf
      cases hb : Nat.ble a.length fn.nt with
      | false => simp [hb] at hc
      | true =>
        simp only [hb, cond_true] at hc ⊢
        split at hc
        · cases hc
        · rename_i x e h' hne hcode
          rw [codeA_mono (callA_mono X hl (Nat.le_of_succ_le_succ hn)) hl _ hcode]
          split
          · rename_i heq; injection heq with heq; injection heq with h1 h2; subst h1; exact absurd rfl (hne _)
          · rename_i heq; injection heq with heq; injection heq with h1 h2; injection h2 with h2 h3; subst h2; subst h3; exact hc
          · rename_i heq; cases heq
        · cases hc

open Classical in
/-- what a call comes to, with fuel enough -/
noncomputable def callF (X : XProg) : CallFn := fun f args h => if hh : ∃ r lf n, callA X lf n f args h = some r then some (Classical.choose hh) else none
open Classical in
noncomputable def codeF (X : XProg) (c : XCode) (e : Env) (h : Heap) : Option (XExit × Env × Heap) := if hh : ∃ r lf n, codeA (callA X lf n) X.noop lf c e h = some r then some (Classical.choose hh) else none

theorem callF_iff {X : XProg} {f : Nat} {args : List AVal} {h : Heap} {r : AVal × Heap} : callF X f args h = some r ↔ ∃ lf n, callA X lf n f args h = some r := by
  unfold callF
  constructor
  · intro hr
    split at hr
    · rename_i hh; injection hr with hr; rw [← hr]; exact Classical.choose_spec hh
    · cases hr
  · rintro ⟨lf, n, hr⟩
    have hh : ∃ r lf n, callA X lf n f args h = some r := ⟨r, lf, n, hr⟩
    rw [dif_pos hh]
    obtain ⟨lf', n', hr'⟩ := Classical.choose_spec hh
    have h1 := callA_mono X (Nat.le_max_left lf lf') (Nat.le_max_left n n') _ _ _ _ hr
    have h2 := callA_mono X (Nat.le_max_right lf lf') (Nat.le_max_right n n') _ _ _ _ hr'
    rw [h1] at h2; exact h2.symm

theorem codeA_both {X : XProg} {lf n lf' n' : Nat} (hl : lf ≤ lf') (hn : n ≤ n') {c : XCode} {e : Env} {h : Heap} {r : XExit × Env × Heap} (hc : codeA (callA X lf n) X.noop lf c e h = some r) : codeA (callA X lf' n') X.noop lf' c e h = some r :=
  codeA_mono (callA_mono X hl hn) hl c hc

theorem codeF_iff {X : XProg} {c : XCode} {e : Env} {h : Heap} {r : XExit × Env × Heap} : codeF X c e h = some r ↔ ∃ lf n, codeA (callA X lf n) X.noop lf c e h = some r := by
  unfold codeF
  constructor
  · intro hr
    split at hr
    · rename_i hh; injection hr with hr; rw [← hr]; exact Classical.choose_spec hh
    · cases hr
  · rintro ⟨lf, n, hr⟩
    have hh : ∃ r lf n, codeA (callA X lf n) X.noop lf c e h = some r := ⟨r, lf, n, hr⟩
    rw [dif_pos hh]
    obtain ⟨lf', n', hr'⟩ := Classical.choose_spec hh
    have h1 := codeA_both (Nat.le_max_left lf lf') (Nat.le_max_left n n') hr
    have h2 := codeA_both (Nat.le_max_right lf lf') (Nat.le_max_right n n') hr'
    rw [h1] at h2; exact h2.symm

theorem le_callF (X : XProg) (lf n : Nat) : Le (callA X lf n) (callF X) := fun _ _ _ _ hr => callF_iff.2 ⟨lf, n, hr⟩

section
variable {X : XProg}

theorem opA_fin {h : Heap} {ρ : XOpd → AVal} {x : XOp} {r : AVal × Heap} (ho : opA (callF X) X.noop h ρ x = some r) : ∃ lf n, opA (callA X lf n) X.noop h ρ x = some r := by
  cases x <;> simp only [opA] at ho ⊢ <;> first | exact ⟨0, 0, ho⟩ | skip
  split at ho
  · obtain ⟨lf, n, hc⟩ := callF_iff.1 ho
    exact ⟨lf, n, hc⟩
  · cases ho

theorem operA_fin {o : XOper} {e : Env} {h : Heap} {r : Env × Heap} (ho : operA (callF X) X.noop o e h = some r) : ∃ lf n, operA (callA X lf n) X.noop o e h = some r := by
  simp only [operA] at ho ⊢
  cases hg : goes e o.guard with
  | false => simp only [hg, cond_false] at ho ⊢; exact ⟨0, 0, ho⟩
  | true =>
    simp only [hg, cond_true] at ho ⊢
    split at ho
    · rename_i v h' hop
      obtain ⟨lf, n, hc⟩ := opA_fin hop
      exact ⟨lf, n, by rw [hc]; exact ho⟩
    · cases ho

theorem opersA_fin : ∀ {l : List XOper} {e : Env} {h : Heap} {r : Env × Heap}, opersA (callF X) X.noop l e h = some r → ∃ lf n, opersA (callA X lf n) X.noop l e h = some r
  | [], _, _, _, ho => ⟨0, 0, ho⟩
  | o :: l, e, h, r, ho => by
    simp only [opersA] at ho ⊢
    split at ho
    · rename_i e' h' hop
      obtain ⟨lf, n, h1⟩ := operA_fin hop
      obtain ⟨lf', n', h2⟩ := opersA_fin ho
      refine ⟨max lf lf', max n n', ?_⟩
      rw [operA_mono (callA_mono X (Nat.le_max_left _ _) (Nat.le_max_left _ _)) h1]
      exact opersA_mono (callA_mono X (Nat.le_max_right _ _) (Nat.le_max_right _ _)) h2
    · cases ho

theorem traceA_fin : ∀ {l : List XDop} {e : Env} {h : Heap} {r : List (Env × Heap)}, traceA (callF X) X.noop l e h = some r → ∃ lf n, traceA (callA X lf n) X.noop l e h = some r
  | [], _, _, _, ho => ⟨0, 0, ho⟩
  | o :: l, e, h, r, ho => by
    simp only [traceA] at ho ⊢
    split at ho
    · rename_i e' h' hop
      split at ho
      · rename_i tr htr
        obtain ⟨lf, n, h1⟩ := operA_fin hop
        obtain ⟨lf', n', h2⟩ := traceA_fin htr
        refine ⟨max lf lf', max n n', ?_⟩
        rw [operA_mono (callA_mono X (Nat.le_max_left _ _) (Nat.le_max_left _ _)) h1]
        simp only [traceA_mono (callA_mono X (Nat.le_max_right _ _) (Nat.le_max_right _ _)) h2]
        exact ho
      · cases ho
    · cases ho

theorem codeF_skip (e : Env) (h : Heap) : codeF X .skip e h = some (.normal, e, h) := codeF_iff.2 ⟨0, 0, rfl⟩
theorem codeF_exit (id : Nat) (e : Env) (h : Heap) : codeF X (.exit id) e h = some (.exit id, e, h) := codeF_iff.2 ⟨0, 0, rfl⟩
theorem codeF_ret (e : Env) (h : Heap) : codeF X .ret e h = some (.ret, e, h) := codeF_iff.2 ⟨0, 0, rfl⟩

theorem codeF_reg (ops : List XOper) (e : Env) (h : Heap) : codeF X (.reg ops) e h = match opersA (callF X) X.noop ops e h with | some (e', h') => some (.normal, e', h') | none => none := by
  apply Option.ext
  intro r
  rw [codeF_iff]
  constructor
  · rintro ⟨lf, n, hc⟩
    simp only [codeA] at hc
    split at hc
    · rename_i e' h' ho; rw [opersA_mono (le_callF X lf n) ho]; exact hc
    · cases hc
  · intro hc
    split at hc
    · rename_i e' h' ho
      obtain ⟨lf, n, h1⟩ := opersA_fin ho
      exact ⟨lf, n, by simp only [codeA, h1]; exact hc⟩
    · cases hc

theorem codeF_dreg (ops : List XDop) (e : Env) (h : Heap) : codeF X (.dreg ops) e h = match traceA (callF X) X.noop ops e h with
    | some tr => bif dopsOk tr ops tr then match lastA tr with
        | some (e', h') => some (.normal, e', h')
        | none => none
      else none
    | none => none := by
  apply Option.ext
  intro r
  rw [codeF_iff]
  constructor
  · rintro ⟨lf, n, hc⟩
    simp only [codeA] at hc
    split at hc
    · rename_i tr ho; rw [traceA_mono (le_callF X lf n) ho]; exact hc
    · cases hc
  · intro hc
    split at hc
    · rename_i tr ho
      obtain ⟨lf, n, h1⟩ := traceA_fin ho
      exact ⟨lf, n, by simp only [codeA, h1]; exact hc⟩
    · cases hc

theorem codeF_seq (a b : XCode) (e : Env) (h : Heap) : codeF X (.seq a b) e h = match codeF X a e h with
    | some (.normal, e', h') => codeF X b e' h'
    | r => r := by
  apply Option.ext
  intro r
  rw [codeF_iff]
  constructor
  · rintro ⟨lf, n, hc⟩
    simp only [codeA] at hc
    split at hc
    · rename_i e' h' ha; rw [codeF_iff.2 ⟨lf, n, ha⟩]; exact codeF_iff.2 ⟨lf, n, hc⟩
    · rename_i hne
      rw [codeF_iff.2 ⟨lf, n, hc⟩]
      obtain ⟨x, e', h'⟩ := r
      cases x with
      | normal => exact absurd hc (hne _ _)
      | exit i => rfl
      | ret => rfl
  · intro hc
    split at hc
    · rename_i e' h' ha
      obtain ⟨lf, n, h1⟩ := codeF_iff.1 ha
      obtain ⟨lf', n', h2⟩ := codeF_iff.1 hc
      refine ⟨max lf lf', max n n', ?_⟩
      simp only [codeA]
      rw [codeA_both (Nat.le_max_left _ _) (Nat.le_max_left _ _) h1]
      exact codeA_both (Nat.le_max_right _ _) (Nat.le_max_right _ _) h2
    · rename_i hne
      obtain ⟨lf, n, h1⟩ := codeF_iff.1 hc
      refine ⟨lf, n, ?_⟩
      simp only [codeA]
      rw [h1]
      obtain ⟨x, e', h'⟩ := r
      cases x with
      | normal => exact absurd hc (hne _ _)
      | exit i => rfl
      | ret => rfl

theorem codeF_cond (y : XOpd) (a b : XCode) (e : Env) (h : Heap) : codeF X (.cond y a b) e h = match getE e y with
    | .bool true => codeF X a e h
    | .bool false => codeF X b e h
    | _ => none := by
  apply Option.ext
  intro r
  rw [codeF_iff]
  constructor
  · rintro ⟨lf, n, hc⟩
    simp only [codeA] at hc
    split at hc
    · rename_i hy; rw [hy]; exact codeF_iff.2 ⟨lf, n, hc⟩
    · rename_i hy; rw [hy]; exact codeF_iff.2 ⟨lf, n, hc⟩
    · cases hc
  · intro hc
    simp only [codeA]
    split at hc
    · rename_i hy; rw [hy]; exact codeF_iff.1 hc
    · rename_i hy; rw [hy]; exact codeF_iff.1 hc
    · cases hc

theorem codeF_block (id : Nat) (b : XCode) (e : Env) (h : Heap) : codeF X (.block id b) e h = match codeF X b e h with
    | some (.exit i, e', h') => some (bif Nat.beq i id then .normal else .exit i, e', h')
    | r => r := by
  apply Option.ext
  intro r
  rw [codeF_iff]
  constructor
  · rintro ⟨lf, n, hc⟩
    simp only [codeA] at hc
    split at hc
    · rename_i i e' h' hb; rw [codeF_iff.2 ⟨lf, n, hb⟩]; exact hc
    · rename_i hne
      rw [codeF_iff.2 ⟨lf, n, hc⟩]
      obtain ⟨x, e', h'⟩ := r
      cases x with
      | normal => rfl
      | exit i => exact absurd hc (hne _ _ _)
      | ret => rfl
  · intro hc
    split at hc
    · rename_i i e' h' hb
      obtain ⟨lf, n, h1⟩ := codeF_iff.1 hb
      exact ⟨lf, n, by simp only [codeA]; rw [h1]; exact hc⟩
    · rename_i hne
      obtain ⟨lf, n, h1⟩ := codeF_iff.1 hc
      refine ⟨lf, n, ?_⟩
      simp only [codeA]
      rw [h1]
      obtain ⟨x, e', h'⟩ := r
      cases x with
      | normal => rfl
      | exit i => exact absurd hc (hne _ _ _)
      | ret => rfl

theorem codeF_loop (b : XCode) (e : Env) (h : Heap) : codeF X (.loop b) e h = match codeF X b e h with
    | some (.normal, e', h') => codeF X (.loop b) e' h'
    | r => r := by
  apply Option.ext
  intro r
  rw [codeF_iff]
  constructor
  · rintro ⟨lf, n, hc⟩
    simp only [codeA] at hc
    cases lf with
    | zero => cases hc
    | succ k =>
      simp only [iter] at hc
      split at hc
      · rename_i e' h' hb
        rw [codeF_iff.2 ⟨k + 1, n, hb⟩]
        refine codeF_iff.2 ⟨k + 1, n, ?_⟩
        simp only [codeA]
        exact iter_mono (fun _ _ _ h => h) (Nat.le_succ k) hc
      · rename_i hne
        rw [codeF_iff.2 ⟨k + 1, n, hc⟩]
        obtain ⟨x, e', h'⟩ := r
        cases x with
        | normal => exact absurd hc (hne _ _)
        | exit i => rfl
        | ret => rfl
  · intro hc
    split at hc
    · rename_i e' h' hb
      obtain ⟨lf, n, h1⟩ := codeF_iff.1 hb
      obtain ⟨lf', n', h2⟩ := codeF_iff.1 hc
      refine ⟨max lf lf' + 1, max n n', ?_⟩
      simp only [codeA, iter]
      rw [codeA_both (lf' := max lf lf' + 1) (n' := max n n') (by omega) (by omega) h1]
      simp only [codeA] at h2
      exact iter_mono (fun _ _ _ h => codeA_both (by omega) (by omega) h) (by omega) h2
    · rename_i hne
      obtain ⟨lf, n, h1⟩ := codeF_iff.1 hc
      refine ⟨lf + 1, n, ?_⟩
      simp only [codeA, iter]
      rw [codeA_both (lf' := lf + 1) (n' := n) (by omega) (by omega) h1]
      obtain ⟨x, e', h'⟩ := r
      cases x with
      | normal => exact absurd hc (hne _ _)
      | exit i => rfl
      | ret => rfl

theorem callF_const {f : Nat} {v : AVal} (hf : X.func f = some (.const v)) (h : Heap) : callF X f [] h = some (v, h) := callF_iff.2 ⟨0, 1, by simp only [callA, hf]⟩

theorem callF_ext {f : Nat} {x : XExt} (hf : X.func f = some (.ext x)) (args : List AVal) (h : Heap) : callF X f args h = extA h x args := by
  apply Option.ext
  intro r
  rw [callF_iff]
  constructor
  · rintro ⟨lf, n, hc⟩
    cases n with
    | zero => cases hc
    | succ n => simpa only [callA, hf] using hc
  · intro hc; exact ⟨0, 1, by simp only [callA, hf]; exact hc⟩

/-- how a body's end is a call's -/
noncomputable def outF (h : Option (XExit × Env × Heap)) (rs : List XRes) (z : Bool) : Option (AVal × Heap) :=
  match h with
  | some (.exit _, _, _) => none
  | some (_, e, h') => match ressA h' e rs with
    | some vs => some (bif z then freezeA (retA vs) h' else (retA vs, h'))
    | none => none
  | none => none

theorem callF_go {f : Nat} {fn : XFunc} (hf : X.func f = some (.go fn)) {args : List AVal} (hl : args.length ≤ fn.nt) (h : Heap) : callF X f args h = outF (codeF X fn.body (params args .h .leaf) h) fn.results (X.frz f) := by
  have hb : Nat.ble args.length fn.nt = true := Nat.ble_eq_true_of_le hl
  apply Option.ext
  intro r
  rw [callF_iff]
  constructor
  · rintro ⟨lf, n, hc⟩
    cases n with
    | zero => cases hc
    | succ n =>
      simp only [callA, hf, hb, cond_true] at hc
      split at hc
      · cases hc
      · rename_i x e h' hne hcode
        rw [codeF_iff.2 ⟨lf, n, hcode⟩]
        cases x with
        | normal => exact hc
        | ret => exact hc
        | exit i => exact absurd rfl (hne i)
      · cases hc
  · intro hc
    unfold outF at hc
    split at hc
    · cases hc
    · rename_i x e h' hne hcode
      obtain ⟨lf, n, h1⟩ := codeF_iff.1 hcode
      refine ⟨lf, n + 1, ?_⟩
      simp only [callA, hf, hb, cond_true]
      rw [h1]
      cases x with
      | normal => exact hc
      | ret => exact hc
      | exit i => exact absurd rfl (hne i)
    · cases hc

end
end Go.Av
end

section
/- Symbolic runs: the evaluator's equations in the form that simp likes. -/
namespace Go.Av
section
variable {X : XProg}

theorem S.nbeq (a b : Nat) : Nat.beq a b = decide (a = b) := by
  by_cases h : a = b
  · subst h; simp
  · rw [beq_no h]; simp [h]
theorem S.nble (a b : Nat) : Nat.ble a b = decide (a ≤ b) := by
  by_cases h : a ≤ b
  · rw [Nat.ble_eq_true_of_le h]; simp [h]
  · cases hb : Nat.ble a b with
    | false => simp [h]
    | true => exact absurd (Nat.le_of_ble_eq_true hb) h
theorem S.atC1 (h : Heap) (v : AVal) (l : List AVal) : cellsAt h (.cptr (v :: l)) 1 = some [v] := rfl
theorem S.getC (e : Env) (v : AVal) : getE e (.c v) = v := rfl
theorem S.getT (e : Env) (v : AVal) (a b : Nat) : getE (Tr.put (some v) (Pos.nth a) e) (.t (Pos.nth b)) = if a = b then v else getE e (.t (Pos.nth b)) := by
  simp only [getE, Tr.get_put]
  by_cases h : a = b
  · subst h; simp
  · have : ¬ Pos.nth a = Pos.nth b := fun hh => h (Pos.nth_inj hh)
    simp [h, this]
theorem S.setS (e : Env) (p : Pos) (v : AVal) : setE e (some p) v = Tr.put (some v) p e := rfl
theorem S.setN (e : Env) (v : AVal) : setE e none v = e := rfl
theorem S.pNil (p : Pos) (e : Env) : params [] p e = e := rfl
theorem S.pCons (v : AVal) (l : List AVal) (k : Nat) (e : Env) : params (v :: l) (Pos.nth k) e = params l (Pos.nth (k + 1)) (Tr.put (some v) (Pos.nth k) e) := rfl
theorem S.goN (e : Env) : goes e none = true := rfl
theorem S.goS (e : Env) (a : Nat) (w : Bool) : goes e (some (Pos.nth a, w)) = match getE e (.t (Pos.nth a)) with | .bool b => b == w | _ => false := by
  simp only [goes, getE]
  cases e.get (Pos.nth a) with
  | none => rfl
  | some v => cases v <;> rfl

theorem S.call {f : Nat} {fn : XFunc} (hf : X.func f = some (.go fn)) {args : List AVal} (hl : args.length ≤ fn.nt) (h : Heap) : callF X f args h = outF (codeF X fn.body (params args (Pos.nth 0) .leaf) h) fn.results (X.frz f) := callF_go hf hl h

theorem S.resT (h : Heap) (e : Env) (p : Pos) : resA h e (.tmp p) = some (getE e (.t p)) := rfl

theorem S.new_next (h : Heap) (x : Blk) : (h.new x).next = h.next.succ := id rfl
theorem S.put_next (h : Heap) (p : Pos) (x : Blk) : (h.put p x).next = h.next := id rfl
theorem S.kill_next (h : Heap) (p : Pos) : (h.kill p).next = h.next := id rfl
theorem S.get_new_self (h : Heap) (x : Blk) : (h.new x).get h.next = some x := by simp [Heap.get, Heap.new, Tr.get_put]
theorem S.get_new_ne (h : Heap) (x : Blk) (b : Pos) (hb : b.val < h.next.val) : (h.new x).get b = h.get b := by
  have : ¬ h.next = b := by rintro rfl; omega
  simp [Heap.get, Heap.new, Tr.get_put, this]
theorem S.get_put_self (h : Heap) (x : Blk) (b : Pos) : (h.put b x).get b = some x := by simp [Heap.get, Heap.put, Tr.get_put]
theorem S.get_put_ne (h : Heap) (x : Blk) (b c : Pos) (hb : c.val ≠ b.val) : (h.put c x).get b = h.get b := by
  have : ¬ c = b := by rintro rfl; exact hb rfl
  simp [Heap.get, Heap.put, Tr.get_put, this]

theorem S.ofL1 (v : AVal) : Blk.ofL [v] = .cells 1 (.node v .leaf .leaf) := rfl
theorem S.slice0 {α : Type} (t : Bt α) (i : Nat) : t.slice i 0 = some [] := rfl
theorem S.slice1 {α : Type} (t : Bt α) (i : Nat) : t.slice i 1 = (t.get i).map fun x => [x] := by
  simp only [Bt.slice]; cases t.get i <;> rfl
theorem S.sets1 {α : Type} (t : Bt α) (i : Nat) (x : α) : t.sets i [x] = (t.get i).map fun _ => t.set x i := by
  simp only [Bt.sets]; cases t.get i <;> rfl

theorem odds_set {α : Type} (x : α) : ∀ (l : List α) (i : Nat), (evens (l.set (2 * i) x) = (evens l).set i x ∧ odds (l.set (2 * i + 1) x) = (odds l).set i x) ∧ (odds (l.set (2 * i) x) = odds l ∧ evens (l.set (2 * i + 1) x) = evens l)
  | [], i => by simp [evens, odds]
  | [a], i => by
    cases i with
    | zero => simp [evens, odds]
    | succ i =>
      have e1 : 2 * (i + 1) = (2 * i + 1) + 1 := by omega
      have e2 : 2 * (i + 1) + 1 = (2 * i + 1) + 1 + 1 := by omega
      simp [e1, evens, odds]
  | a :: b :: l, i => by
    cases i with
    | zero => simp [evens, odds]
    | succ i =>
      obtain ⟨⟨h1, h2⟩, h3, h4⟩ := odds_set x l i
      have e1 : 2 * (i + 1) = (2 * i) + 1 + 1 := by omega
      have e2 : 2 * (i + 1) + 1 = (2 * i + 1) + 1 + 1 := by omega
      rw [e1]
      simp only [List.set_cons_succ, evens, odds, h1, h2, h3, h4, and_self]

theorem Bt.set_ofL {α : Type} (x : α) : ∀ (f : Nat) (l : List α) (i : Nat), (Bt.ofL f l).set x i = Bt.ofL f (l.set i x)
  | 0, l, i => rfl
  | f + 1, [], i => rfl
  | f + 1, a :: l, i => by
    cases i with
    | zero => simp [Bt.ofL, Bt.set_node]
    | succ i =>
      have hb : Nat.beq (i + 1) 0 = false := rfl
      simp only [Bt.ofL, Bt.set_node, List.set_cons_succ, hb, cond_false]
      rcases Nat.mod_two_eq_zero_or_one i with hi | hi
      · obtain ⟨k, rfl⟩ : ∃ k, i = 2 * k := ⟨i / 2, by omega⟩
        have h1 : (2 * k + 1) % 2 = 1 := by omega
        have h2 : (2 * k + 1) / 2 = k := by omega
        obtain ⟨⟨e1, _⟩, e3, _⟩ := odds_set x l k
        rw [h1, h2, e1, e3, Bt.set_ofL x f]; rfl
      · obtain ⟨k, rfl⟩ : ∃ k, i = 2 * k + 1 := ⟨i / 2, by omega⟩
        have h1 : (2 * k + 1 + 1) % 2 = 0 := by omega
        have h2 : (2 * k + 1 + 1) / 2 - 1 = k := by omega
        obtain ⟨⟨_, e2⟩, _, e4⟩ := odds_set x l k
        have hz : Nat.beq 0 1 = false := rfl
        rw [h1, h2, e2, e4]; simp only [hz, cond_false]; rw [Bt.set_ofL x f]

theorem Bt.sets_ofL {α : Type} (f : Nat) : ∀ (vs l : List α) (i : Nat), l.length ≤ f → i + vs.length ≤ l.length → (Bt.ofL f l).sets i vs = some (Bt.ofL f (l.take i ++ vs ++ l.drop (i + vs.length)))
  | [], l, i, _, _ => by simp [Bt.sets]
  | v :: vs, l, i, hf, hi => by
    simp only [List.length_cons] at hi
    simp only [Bt.sets, Bt.get_ofL f l i hf, List.getElem?_eq_getElem (show i < l.length by omega), Bt.set_ofL]
    rw [Bt.sets_ofL f vs (l.set i v) (i + 1) (by simpa using hf) (by simp; omega)]
    congr 2
    have e1 : (l.set i v).take (i + 1) = l.take i ++ [v] := by
      rw [List.take_succ_eq_append_getElem (by simp; omega)]; simp [List.take_set_of_le]
    have e2 : (l.set i v).drop (i + 1 + vs.length) = l.drop (i + 1 + vs.length) := by
      rw [List.drop_set_of_lt]; omega
    rw [e1, e2]
    have e3 : i + 1 + vs.length = i + (vs.length + 1) := by omega
    simp [e3]

theorem Bt.slice_ofL {α : Type} (f : Nat) (l : List α) (hf : l.length ≤ f) : ∀ (n i : Nat), i + n ≤ l.length → (Bt.ofL f l).slice i n = some ((l.drop i).take n)
  | 0, i, _ => by simp [Bt.slice]
  | n + 1, i, hi => by
    simp only [Bt.slice, Bt.get_ofL f l i hf, List.getElem?_eq_getElem (show i < l.length by omega), Bt.slice_ofL f l hf n (i + 1) (by omega)]
    rw [List.drop_eq_getElem_cons (show i < l.length by omega), List.take_succ_cons]

theorem S.at_ofL {h : Heap} {b : Pos} {l : List AVal} (hg : h.get b = some (Blk.ofL l)) {o n : Nat} (hn : o + n ≤ l.length) : cellsAt h (.ptr b o) n = some ((l.drop o).take n) := by
  simp only [cellsAt, hg, Blk.ofL, Bt.slice_ofL l.length l (Nat.le_refl _) n o hn]
theorem S.store_ofL {h : Heap} {b : Pos} {l : List AVal} (hg : h.get b = some (Blk.ofL l)) {o : Nat} {vs : List AVal} (hv : vs.all AVal.scalar = true) (hn : o + vs.length ≤ l.length) : storeAt h b o vs = some (h.put b (Blk.ofL (l.take o ++ vs ++ l.drop (o + vs.length)))) := by
  simp only [storeAt, hg, Blk.ofL, hv, cond_true, Bt.sets_ofL l.length vs l o (Nat.le_refl _) hn]
  congr 3
  · simp; omega
  · congr 1; simp; omega
end
end Go.Av
end
