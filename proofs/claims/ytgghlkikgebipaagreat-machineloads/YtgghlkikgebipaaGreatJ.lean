/- A world is loaded just if its program is right and there is room for its globals, else the checker's error or ErrFull is told (the law MachineLoads, whatever the input). Conditions: none. This file: part J. -/
import Derived.Test.YtgghlkikgebipaaGreatF
import Derived.Test.YtgghlkikgebipaaGreatH
import Derived.Test.YtgghlkikgebipaaGreatI
import Derived.Test.YtgghlkikgebipaaGreatE
set_option linter.all false

section
open Go Go.Av Go.Ck
namespace Go.Tw
set_option linter.unusedSimpArgs false
set_option linter.unusedVariables false

def seenL (l : List (Int × Int)) : List (AVal × AVal) := l.map fun k => (.agg [I k.1, I k.2], .bool true)
/-- the checker's block: the code's (false), the document's (true) -/
abbrev ckBlk (z : Bool) (p : PProg) (mp : Pos) (e sl : Int) : Blk := Blk.ofL [p.cons.val PCon.enc, p.codes.val PCode.enc, p.nodes.val PNode.enc, p.globals.val PGlobal.enc, I p.main, .map mp, I (if z then sl else e), I (if z then e else sl)]

structure CkAt (z : Bool) (h : Heap) (c mp : Pos) (p : PProg) (s : St) : Prop where
  lc : c.val < h.next.val
  lm : mp.val < h.next.val
  ne : c.val ≠ mp.val
  gc : h.get c = some (ckBlk z p mp s.e s.sl)
  gm : h.get mp = some (.map (seenL s.seen))

/-- all but two blocks as they were -/
structure Fr (h h' : Heap) (c mp : Pos) : Prop where
  next : h.next.val ≤ h'.next.val
  get : ∀ q : Pos, q.val < h.next.val → q.val ≠ c.val → q.val ≠ mp.val → h'.get q = h.get q

theorem Fr.refl (h : Heap) (c mp : Pos) : Fr h h c mp := ⟨Nat.le_refl _, fun _ _ _ _ => rfl⟩
theorem Fr.trans {h h1 h2 : Heap} {c mp : Pos} (a : Fr h h1 c mp) (b : Fr h1 h2 c mp) : Fr h h2 c mp :=
  ⟨Nat.le_trans a.next b.next, fun q hq h1 h2 => (b.get q (Nat.lt_of_lt_of_le hq a.next) h1 h2).trans (a.get q hq h1 h2)⟩
theorem Fr.new {h : Heap} {c mp : Pos} (x : Blk) : Fr h (h.new x) c mp := ⟨by rw [S.new_next, pv]; omega, fun q hq _ _ => S.get_new_ne h x q hq⟩
theorem Fr.put {h h' : Heap} {c mp b : Pos} (f : Fr h h' c mp) (x : Blk) (hb : h.next.val ≤ b.val ∨ b.val = c.val ∨ b.val = mp.val) : Fr h (h'.put b x) c mp := ⟨f.next, fun q hq h1 h2 => by rw [S.get_put_ne _ _ _ _ (by omega)]; exact f.get q hq h1 h2⟩
theorem Fr.new' {h h' : Heap} {c mp : Pos} (f : Fr h h' c mp) (x : Blk) : Fr h (h'.new x) c mp := f.trans (Fr.new x)
section
variable {z : Bool} {h : Heap} {c mp : Pos} {p : PProg} {s : St}
theorem CkAt.new (k : CkAt z h c mp p s) (x : Blk) : CkAt z (h.new x) c mp p s :=
  ⟨by rw [S.new_next, pv]; have := k.lc; omega, by rw [S.new_next, pv]; have := k.lm; omega, k.ne, by rw [S.get_new_ne _ _ _ k.lc]; exact k.gc, by rw [S.get_new_ne _ _ _ k.lm]; exact k.gm⟩
theorem CkAt.putO (k : CkAt z h c mp p s) {b : Pos} (x : Blk) (h1 : b.val ≠ c.val) (h2 : b.val ≠ mp.val) : CkAt z (h.put b x) c mp p s :=
  ⟨k.lc, k.lm, k.ne, by rw [S.get_put_ne _ _ _ _ h1]; exact k.gc, by rw [S.get_put_ne _ _ _ _ h2]; exact k.gm⟩
theorem CkAt.err (k : CkAt z h c mp p s) (e sl : Int) : CkAt z (h.put c (ckBlk z p mp e sl)) c mp p { s with e := e, sl := sl } :=
  ⟨k.lc, k.lm, k.ne, S.get_put_self _ _ _, by rw [S.get_put_ne _ _ _ _ k.ne]; exact k.gm⟩

theorem need_keep {e err : Int} {b : Bool} (h : b = true ∨ e ≠ 0) : need e b err = e := by
  unfold need; rw [if_neg]; rintro ⟨h1, h2⟩; rcases h with h3 | h3
  · rw [h2] at h3; cases h3
  · exact h3 h1
theorem need_zero {e err : Int} {b : Bool} (he : err ≠ 0) : need e b err = 0 ↔ e = 0 ∧ b = true := by
  unfold need
  cases b with
  | true => simp
  | false =>
    by_cases h : e = 0
    · simp [h, he]
    · simp [h]
theorem need_ne {e err : Int} {b : Bool} (h : e ≠ 0) : need e b err = e := need_keep (.inr h)

theorem lenSl_val {α : Type} (enc : α → List AVal) (s : Sl α) : lenSlA (s.val enc) = some (I (len s)) := by
  cases s <;> rfl
theorem scalar_val {α : Type} (enc : α → List AVal) (s : Sl α) : (s.val enc).scalar = true := by cases s <;> rfl
theorem cells_val {α : Type} (enc : α → List AVal) (s : Sl α) : (s.val enc).cells = [s.val enc] := by cases s <;> rfl
theorem addr_val {α : Type} (enc : α → List AVal) (es : Nat) (hes : ∀ x, (enc x).length = es) (s : Sl α) (i : Nat) (x : α) (hx : s.list[i]? = some x) :
    ∃ cs, addrSlA es (s.val enc) (some i) = some (.cptr (enc x ++ cs)) := by
  cases s with
  | nil => simp [Sl.list] at hx
  | mk l =>
    simp only [Sl.list] at hx
    obtain ⟨h1, h2⟩ := flat_at enc es hes l i x hx
    have hi : i < l.length := (List.getElem?_eq_some_iff.1 hx).1
    refine ⟨(l.flatMap enc).drop (i * es + es), ?_⟩
    have b1 : Nat.blt i l.length = true := by simpa using hi
    have b2 : Nat.ble (i * es) (l.flatMap enc).length = true := Nat.ble_eq_true_of_le (by omega)
    simp only [Sl.val, addrSlA, b1, b2, Bool.and_self, cond_true]
    congr 2
    rw [← h1, ← List.drop_drop, List.take_append_drop]

theorem in_w {k n : Int} {h : Heap} {Q : AVal → Heap → Prop} (hq : Q (.bool (below k n)) h) : Cal X n_code_in [I k, I n] h Q := by
  refine Cal.go (u_code_in _ _ rfl) ?_
  rw [b_code_in]
  by_cases h1 : 0 ≤ k
  · by_cases h2 : k < n <;> simpa [h1, h2, below] using hq
  · simpa [h1, below] using hq
theorem below_w {k n : Int} {h : Heap} {Q : AVal → Heap → Prop} (hq : Q (.bool (below k n)) h) : Cal X n_ref14_below [I k, I n] h Q := by
  refine Cal.go (u_ref14_below _ _ rfl) ?_
  rw [b_ref14_below]
  by_cases h1 : 0 ≤ k
  · by_cases h2 : k < n <;> simpa [h1, h2, below] using hq
  · simpa [h1, below] using hq

theorem ask_w {b : Bool} {err : Int} {Q : AVal → Heap → Prop} (k : CkAt false h c mp p s) (he : err ≠ 0)
    (hq : ∀ h', CkAt false h' c mp p { s with e := need s.e b err } → Fr h h' c mp → Q (.bool (decide (need s.e b err = 0))) h') : Cal X n_code_checker_ask [.ptr c 0, .bool b, I err] h Q := by
  refine Cal.go (u_code_checker_ask _ _ rfl) ?_
  rw [b_code_checker_ask]
  have gc := k.gc
  by_cases hs : b = true ∨ s.e ≠ 0
  · have := hq h (by rw [need_keep hs]; exact k) (Fr.refl _ _ _)
    rw [need_keep hs] at this
    cases b with
    | true => simpa [gc] using this
    | false =>
      have h0 : ¬ s.e = 0 := hs.resolve_left (by simp)
      simpa [gc, h0] using this
  · have hb : b = false := by cases b with | true => exact absurd (.inl rfl) hs | false => rfl
    have h0 : s.e = 0 := Classical.byContradiction fun h => hs (.inr h)
    subst hb
    have hn : need s.e false err = err := by unfold need; rw [if_pos ⟨h0, rfl⟩]
    have := hq (h.put c (ckBlk false p mp err s.sl)) (by rw [hn]; exact k.err err s.sl) (Fr.put (Fr.refl _ _ _) _ (.inr (.inl rfl)))
    rw [hn] at this
    simpa [gc, ckBlk, h0, he] using this
end
end Go.Tw
end

section
open Go Go.Av Go.Ck
namespace Go.Tw
set_option linter.unusedSimpArgs false
set_option linter.unusedVariables false
section
variable {z : Bool} {h : Heap} {c mp : Pos} {p : PProg} {s : St}

theorem need_w {b : Bool} {err : Int} {Q : AVal → Heap → Prop} (k : CkAt true h c mp p s) (he : err ≠ 0)
    (hq : ∀ h', CkAt true h' c mp p { s with e := need s.e b err } → Fr h h' c mp → Q (.tup []) h') : Cal X n_ref14_C_need [.ptr c 0, .bool b, I err] h Q := by
  refine Cal.go (u_ref14_C_need _ _ rfl) ?_
  rw [b_ref14_C_need]
  have gc := k.gc
  by_cases hs : b = true ∨ s.e ≠ 0
  · have := hq h (by rw [need_keep hs]; exact k) (Fr.refl _ _ _)
    by_cases h0 : s.e = 0
    · have hb : b = true := hs.resolve_right (by simp [h0])
      subst hb
      simpa [gc, h0] using this
    · simpa [gc, h0] using this
  · have hb : b = false := by cases b with | true => exact absurd (.inl rfl) hs | false => rfl
    have h0 : s.e = 0 := Classical.byContradiction fun h => hs (.inr h)
    subst hb
    have hn : need s.e false err = err := by unfold need; rw [if_pos ⟨h0, rfl⟩]
    have := hq (h.put c (ckBlk true p mp err s.sl)) (by rw [hn]; exact k.err err s.sl) (Fr.put (Fr.refl _ _ _) _ (.inr (.inl rfl)))
    simpa [gc, ckBlk, h0, he] using this

theorem atom_w {a : PAtom} {slots : Int} {Q : AVal → Heap → Prop} (k : CkAt false h c mp p s)
    (hq : ∀ h', CkAt false h' c mp p { s with e := need s.e (atomOk p slots a) 1 } → Fr h h' c mp → Q (.bool (decide (need s.e (atomOk p slots a) 1 = 0))) h') : Cal X n_code_checker_atom [.ptr c 0, .agg a.enc, I slots] h Q := by
  refine Cal.go (u_code_checker_atom _ _ rfl) ?_
  rw [b_code_checker_atom]
  obtain ⟨g, n⟩ := a
  have k1 := k.new (Blk.ofL [.bool g, I n])
  have gc := k1.gc
  cases g with
  | true =>
    simp [PAtom.enc, gc, lenSl_val]
    refine in_w ?_
    simp
    refine ask_w k1 (by decide) fun h' k' f' => ?_
    simpa [atomOk] using hq h' k' (Fr.trans (Fr.new _) f')
  | false =>
    simp [PAtom.enc, gc, lenSl_val]
    refine in_w ?_
    simp
    refine ask_w k1 (by decide) fun h' k' f' => ?_
    simpa [atomOk] using hq h' k' (Fr.trans (Fr.new _) f')

theorem atom14_w {a : PAtom} {slots : Int} {Q : AVal → Heap → Prop} (k : CkAt true h c mp p s)
    (hq : ∀ h', CkAt true h' c mp p { s with e := need s.e (atomOk p slots a) 1 } → Fr h h' c mp → Q (.tup []) h') : Cal X n_ref14_C_atom [.ptr c 0, .agg a.enc, I slots] h Q := by
  refine Cal.go (u_ref14_C_atom _ _ rfl) ?_
  rw [b_ref14_C_atom]
  obtain ⟨g, n⟩ := a
  have k1 := k.new (Blk.ofL [.bool g, I n])
  have gc := k1.gc
  cases g with
  | true =>
    simp [PAtom.enc, gc, lenSl_val]
    refine below_w ?_
    simp
    refine need_w k1 (by decide) fun h' k' f' => ?_
    simpa [atomOk] using hq h' k' (Fr.trans (Fr.new _) f')
  | false =>
    simp [PAtom.enc, gc, lenSl_val]
    refine below_w ?_
    simp
    refine need_w k1 (by decide) fun h' k' f' => ?_
    simpa [atomOk] using hq h' k' (Fr.trans (Fr.new _) f')

/-- how many arguments an operation has; -1: as many as it has -/
def opArgs (op n : Int) : Int := if op = 5 then 1 else if op = 3 then (if n = 13 ∨ n = 14 then 1 else 2) else if op = 4 then 3 else -1
theorem opargs_w {op n : Int} {h : Heap} {Q : AVal → Heap → Prop} (hq : Q (I (opArgs op n)) h) : Cal X n_code_op_args [I op, I n] h Q := by
  refine Cal.go (u_code_op_args _ _ rfl) ?_
  rw [b_code_op_args]
  by_cases h5 : op = 5
  · simpa [h5, opArgs] using hq
  · by_cases h3 : op = 3
    · by_cases h13 : n = 13
      · simpa [h3, h13, opArgs] using hq
      · by_cases h14 : n = 14
        · simpa [h3, h14, opArgs] using hq
        · simpa [h3, h13, h14, opArgs] using hq
    · by_cases h4 : op = 4
      · simpa [h4, opArgs] using hq
      · simpa [h5, h3, h4, opArgs] using hq

theorem at_of {α : Type} {s : Sl α} {n : Int} (hb : below n (len s) = true) : ∃ (i : Nat) (x : α), n = i ∧ s.list[i]? = some x ∧ at' s n = some x := by
  have hn0 : 0 ≤ n := by simp [below] at hb; exact hb.1
  obtain ⟨i, rfl⟩ : ∃ i : Nat, n = i := ⟨n.toNat, by omega⟩
  have hil : i < s.list.length := by simp [below, len] at hb; exact hb
  obtain ⟨x, hx⟩ : ∃ x, s.list[i]? = some x := ⟨_, List.getElem?_eq_getElem hil⟩
  exact ⟨i, x, rfl, hx, by simp [at', hx]⟩

theorem con_w {n kids : Int} {Q : AVal → Heap → Prop} (k : CkAt false h c mp p s)
    (hq : ∀ h', CkAt false h' c mp p { s with e := chkCon p n kids s.e } → Fr h h' c mp → Q (.bool (decide (chkCon p n kids s.e = 0))) h') : Cal X n_code_checker_con [.ptr c 0, I n, I kids] h Q := by
  refine Cal.go (u_code_checker_con _ _ rfl) ?_
  rw [b_code_checker_con]
  have gc := k.gc
  simp [gc, lenSl_val]
  refine in_w ?_
  simp
  refine ask_w k (by decide) fun h1 k1 f1 => ?_
  have g1 := k1.gc
  by_cases hz : need s.e (below n (len p.cons)) 1 = 0
  · obtain ⟨hs, hb⟩ := (need_zero (by decide)).1 hz
    obtain ⟨i, x, rfl, hx, ha⟩ := at_of hb
    obtain ⟨cs, a1⟩ := addr_val PCon.enc 2 (fun _ => rfl) p.cons i x hx
    have hc : chkCon p i kids s.e = need 0 (decide (x.arity = kids)) 11 := by simp only [chkCon, hz, if_true, ha]
    rw [hc] at hq
    simp only [hz] at k1
    simp [hz, g1, a1, PCon.enc]
    refine ask_w k1 (by decide) fun h2 k2 f2 => ?_
    simpa using hq h2 k2 (f1.trans f2)
  · have hc : chkCon p n kids s.e = need s.e (below n (len p.cons)) 1 := by simp only [chkCon, if_neg hz]
    rw [hc] at hq
    simpa [hz] using hq h1 k1 f1
theorem con14_w {n kids : Int} {Q : AVal → Heap → Prop} (k : CkAt true h c mp p s)
    (hq : ∀ h', CkAt true h' c mp p { s with e := chkCon p n kids s.e } → Fr h h' c mp → Q (.tup []) h') : Cal X n_ref14_C_con [.ptr c 0, I n, I kids] h Q := by
  refine Cal.go (u_ref14_C_con _ _ rfl) ?_
  rw [b_ref14_C_con]
  have gc := k.gc
  simp [gc, lenSl_val]
  refine below_w ?_
  simp
  refine need_w k (by decide) fun h1 k1 f1 => ?_
  have g1 := k1.gc
  by_cases hz : need s.e (below n (len p.cons)) 1 = 0
  · obtain ⟨hs, hb⟩ := (need_zero (by decide)).1 hz
    obtain ⟨i, x, rfl, hx, ha⟩ := at_of hb
    obtain ⟨cs, a1⟩ := addr_val PCon.enc 2 (fun _ => rfl) p.cons i x hx
    have hc : chkCon p i kids s.e = need 0 (decide (x.arity = kids)) 11 := by simp only [chkCon, hz, if_true, ha]
    rw [hc] at hq
    simp only [hz] at k1
    simp [hz, g1, a1, PCon.enc]
    refine need_w k1 (by decide) fun h2 k2 f2 => ?_
    simpa using hq h2 k2 (f1.trans f2)
  · have hc : chkCon p n kids s.e = need s.e (below n (len p.cons)) 1 := by simp only [chkCon, if_neg hz]
    rw [hc] at hq
    simpa [hz, g1] using hq h1 k1 f1
end
end Go.Tw
end

section
open Go Go.Av Go.Ck
namespace Go.Tw
set_option linter.unusedSimpArgs false
set_option linter.unusedVariables false
section
variable {z : Bool} {h : Heap} {c mp : Pos} {p : PProg} {s : St}

theorem chkCaps_ne {more : Int} : ∀ (l : List Int) {e : Int}, e ≠ 0 → chkCaps more l e = e
  | [], _, _ => rfl
  | k :: l, e, h => by simp only [chkCaps]; rw [need_ne h]; exact chkCaps_ne l h
theorem chkClos_ne {p : PProg} {more : Int} : ∀ (l : List PClos) {e : Int}, e ≠ 0 → chkClos p more l e = e
  | [], _, _ => rfl
  | x :: l, e, h => by simp only [chkClos]; rw [if_pos h]
theorem drop_at {α : Type} {l : List α} {i : Nat} (hi : i < l.length) : ∃ x, l[i]? = some x ∧ l.drop i = x :: l.drop (i + 1) :=
  ⟨l[i], List.getElem?_eq_getElem hi, List.drop_eq_getElem_cons hi⟩

theorem caps_w {more : Int} {cs : Sl Int} (hlen : len cs < 4611686018427387904) {e : Env} {Q : XExit → Env → Heap → Prop} (k : CkAt false h c mp p s)
    (g0 : getE e (tt 0) = .ptr c 0) (g8 : getE e (tt 8) = I more) (g57 : getE e (tt 57) = cs.val fun n => [I n]) (g58 : getE e (tt 58) = I (len cs)) (g59 : getE e (tt 59) = I 0)
    (hq : ∀ e' h', CkAt false h' c mp p { s with e := chkCaps more cs.list s.e } → Fr h h' c mp → (∀ t : Nat, t < 12 ∨ (12 < t ∧ t < 59) → getE e' (tt t) = getE e (tt t)) → Q (.exit 2) e' h') :
    Run X (.loop b_code_checker_let_L0) e h Q := by
  obtain ⟨J, hJ⟩ : ∃ J : Nat → Env → Heap → Prop, ∀ k e1 h1, J k e1 h1 ↔ ∃ (i : Nat) (e2 : Int), k = cs.list.length - i ∧ i ≤ cs.list.length ∧ getE e1 (tt 59) = I i ∧ CkAt false h1 c mp p { s with e := e2 } ∧ chkCaps more (cs.list.drop i) e2 = chkCaps more cs.list s.e ∧ Fr h h1 c mp ∧ (∀ t : Nat, t < 12 ∨ (12 < t ∧ t < 59) → getE e1 (tt t) = getE e (tt t)) := ⟨_, fun _ _ _ => Iff.rfl⟩
  refine Run.loop J (fun k e1 h1 hk => ?_) cs.list.length ((hJ _ _ _).2 ⟨0, s.e, by omega, by omega, g59, k, rfl, Fr.refl _ _ _, fun _ _ => rfl⟩)
  obtain ⟨i, e2, rfl, hi, g59, k1, hr, f1, ge⟩ := (hJ _ _ _).1 hk
  rw [b_code_checker_let_L0]
  by_cases hil : i < cs.list.length
  · obtain ⟨x, hx, hd⟩ := drop_at hil
    obtain ⟨q, a1⟩ := addr_val (fun n => [I n]) 1 (fun _ => rfl) cs i x hx
    have hi' : (i : Int) < len cs := by simp only [len]; omega
    have hw : IntKind.i64.wrap ((i : Int) + 1) = ((i + 1 : Nat) : Int) := by rw [wrap_small (by omega) (by omega)]; omega
    simp [g59, ge, g0, g8, g57, g58, hi', a1]
    refine in_w ?_
    simp
    refine ask_w k1 (by decide) fun h2 k2 f2 => ?_
    simp [g59, hw]
    refine ⟨cs.list.length - (i + 1), by omega, (hJ _ _ _).2 ⟨i + 1, _, rfl, by omega, by simp, k2, ?_, f1.trans f2, fun t ht => ?_⟩⟩
    · rw [← hr, hd]; rfl
    · simp
      repeat rw [if_neg (by omega)]
      exact ge t ht
  · have hi' : ¬ (i : Int) < len cs := by simp only [len]; omega
    have hil : i = cs.list.length := by omega
    subst hil
    simp [g59, ge, g58, hi']
    refine hq _ _ ?_ f1 fun t ht => ?_
    · have : chkCaps more cs.list s.e = e2 := by rw [← hr]; simp [chkCaps]
      rw [this]; exact k1
    · simp; rw [if_neg (by omega)]; exact ge t ht

theorem enc_clos_len (x : PClos) : x.enc.length = 2 := rfl

theorem clos_w {more : Int} {xs : Sl PClos} (hlen : len xs < 4611686018427387904) (hcaps : ∀ x ∈ xs.list, len x.caps < 4611686018427387904) {e : Env} {Q : XExit → Env → Heap → Prop} (k : CkAt false h c mp p s)
    (g0 : getE e (tt 0) = .ptr c 0) (g8 : getE e (tt 8) = I more) (g19 : getE e (tt 19) = xs.val PClos.enc) (g20 : getE e (tt 20) = I (len xs)) (g21 : getE e (tt 21) = I 0)
    (hq : ∀ x e' h', CkAt false h' c mp p { s with e := chkClos p more xs.list s.e } → Fr h h' c mp → ((x = .exit 0 ∧ (∀ t : Nat, t < 10 → getE e' (tt t) = getE e (tt t))) ∨ (x = .ret ∧ chkClos p more xs.list s.e ≠ 0)) → Q x e' h') :
    Run X (.loop b_code_checker_let_L1) e h Q := by
  obtain ⟨J, hJ⟩ : ∃ J : Nat → Env → Heap → Prop, ∀ k e1 h1, J k e1 h1 ↔ ∃ (i : Nat) (e2 : Int), k = xs.list.length - i ∧ i ≤ xs.list.length ∧ getE e1 (tt 21) = I i ∧ CkAt false h1 c mp p { s with e := e2 } ∧ chkClos p more (xs.list.drop i) e2 = chkClos p more xs.list s.e ∧ Fr h h1 c mp ∧ (∀ t : Nat, t < 10 ∨ t = 19 ∨ t = 20 → getE e1 (tt t) = getE e (tt t)) := ⟨_, fun _ _ _ => Iff.rfl⟩
  refine Run.loop J (fun k e1 h1 hk => ?_) xs.list.length ((hJ _ _ _).2 ⟨0, s.e, by omega, by omega, g21, k, rfl, Fr.refl _ _ _, fun _ _ => rfl⟩)
  obtain ⟨i, e2, rfl, hi, g21, k1, hr, f1, ge⟩ := (hJ _ _ _).1 hk
  rw [b_code_checker_let_L1]
  by_cases hil : i < xs.list.length
  · obtain ⟨x, hx, hd⟩ := drop_at hil
    obtain ⟨q, a1⟩ := addr_val PClos.enc 2 (fun _ => rfl) xs i x hx
    have hi' : (i : Int) < len xs := by simp only [len]; omega
    have hw : IntKind.i64.wrap ((i : Int) + 1) = ((i + 1 : Nat) : Int) := by rw [wrap_small (by omega) (by omega)]; omega
    have l1 := k1.lc
    have l2 := k1.lm
    have kA := (k1.new (Blk.ofL [I 0, .nils])).putO (b := h1.next) (Blk.ofL x.enc) (by omega) (by omega)
    have fA : Fr h1 ((h1.new (Blk.ofL [I 0, .nils])).put h1.next (Blk.ofL x.enc)) c mp := (Fr.new _).put _ (.inl (Nat.le_refl _))
    have gA := kA.gc
    have hcx : len x.caps < 4611686018427387904 := hcaps x (List.mem_of_getElem? hx)
    rw [hd] at hr
    simp only [PClos.enc] at kA fA gA a1
    simp [g21, ge, g0, g8, g19, g20, hi', a1, scalar_val, gA, lenSl_val]
    refine in_w ?_
    simp
    refine ask_w kA (by decide) fun h2 k2 f2 => ?_
    have g2 := k2.gc
    have b2 : h2.get h1.next = some (Blk.ofL [I x.code, x.caps.val fun n => [I n]]) := by
      rw [f2.get _ (by simp [pv]) (by omega) (by omega)]; simp
    by_cases hz : need e2 (below x.code (len p.codes)) 1 = 0
    · obtain ⟨hs, hbl⟩ := (need_zero (by decide)).1 hz
      obtain ⟨j, y, hj, hy, ha⟩ := at_of hbl
      obtain ⟨w, a2⟩ := addr_val PCode.enc 4 (fun _ => rfl) p.codes j y hy
      simp only [PCode.enc] at a2
      simp only [hz] at k2
      have hzj := hz
      rw [hj] at hzj
      simp [ge, g0, g8, g19, g20, g21, hz, hzj, g2, b2, lenSl_val, a2, hj]
      refine ask_w k2 (by decide) fun h3 k3 f3 => ?_
      have b3 : h3.get h1.next = some (Blk.ofL [I x.code, x.caps.val fun n => [I n]]) := by
        rw [f3.get _ (by have := f2.next; simp [pv] at this; omega) (by omega) (by omega)]; exact b2
      simp only [hs, chkClos, ne_eq, not_true_eq_false, if_false] at hr
      rw [hs] at hz
      rw [hz] at hr
      simp only [if_true, ha] at hr
      by_cases hy2 : need 0 (decide (len x.caps = y.free)) 11 = 0
      · rw [hy2] at hr k3
        simp [ge, g0, g8, g19, g20, g21, hy2, b3, lenSl_val]
        refine caps_w (more := more) (cs := x.caps) hcx k3 (by simp [ge, g0]) (by simp [ge, g8]) (by simp) (by simp) (by simp) fun e' h' k4 f4 ge4 => ?_
        simp [ge4, ge, g0, g8, g19, g20, g21, hw]
        refine ⟨xs.list.length - (i + 1), by omega, (hJ _ _ _).2 ⟨i + 1, _, rfl, by omega, by simp, k4, hr, (((f1.trans fA).trans f2).trans f3).trans f4, fun t ht => ?_⟩⟩
        simp
        rw [if_neg (by omega), if_neg (by omega), ge4 t (by omega)]
        simp
        repeat rw [if_neg (by omega)]
        exact ge t ht
      · rw [chkCaps_ne _ hy2, chkClos_ne _ hy2] at hr
        simp [hy2]
        rw [← hr] at hq
        exact hq _ _ _ k3 (((f1.trans fA).trans f2).trans f3) (.inr ⟨rfl, hy2⟩)
    · have hres : chkClos p more xs.list s.e = need e2 (below x.code (len p.codes)) 1 := by
        rw [← hr]
        by_cases hs : e2 = 0
        · subst hs
          simp only [chkClos, ne_eq, not_true_eq_false, if_false]
          rw [if_neg hz, chkCaps_ne _ hz, chkClos_ne _ hz]
        · rw [chkClos_ne _ hs, need_ne hs]
      simp [hz]
      rw [hres] at hq
      exact hq _ _ _ k2 ((f1.trans fA).trans f2) (.inr ⟨rfl, hz⟩)
  · have hi' : ¬ (i : Int) < len xs := by simp only [len]; omega
    have hil : i = xs.list.length := by omega
    subst hil
    simp [g21, ge, g20, hi']
    refine hq _ _ _ ?_ f1 (.inl ⟨rfl, fun t ht => ?_⟩)
    · have : chkClos p more xs.list s.e = e2 := by rw [← hr]; simp [chkClos]
      rw [this]; exact k1
    · simp; rw [if_neg (by omega)]; exact ge t (by omega)
end
end Go.Tw
end

section
open Go Go.Av Go.Ck
namespace Go.Tw
set_option linter.unusedSimpArgs false
set_option linter.unusedVariables false
/-- a block of our own, apart from the checker's -/
structure Own (h : Heap) (b : Pos) (x : Blk) (c mp : Pos) : Prop where
  lt : b.val < h.next.val
  nc : b.val ≠ c.val
  nm : b.val ≠ mp.val
  get : h.get b = some x
theorem Own.fr {h h' : Heap} {b : Pos} {x : Blk} {c mp : Pos} (o : Own h b x c mp) (f : Fr h h' c mp) : Own h' b x c mp :=
  ⟨Nat.lt_of_lt_of_le o.lt f.next, o.nc, o.nm, by rw [f.get _ o.lt o.nc o.nm]; exact o.get⟩
theorem Own.fill {h : Heap} {b : Pos} {x : Blk} {c mp : Pos} (o : Own h b x c mp) (y w : Blk) : Own ((h.new y).put h.next w) b x c mp :=
  ⟨by simp [pv]; have := o.lt; omega, o.nc, o.nm, by have := o.lt; rw [S.get_put_ne _ _ _ _ (by omega), S.get_new_ne _ _ _ o.lt]; exact o.get⟩
theorem Own.new {h : Heap} {b : Pos} {x : Blk} {c mp : Pos} (o : Own h b x c mp) (y : Blk) : Own (h.new y) b x c mp :=
  ⟨by simp [pv]; have := o.lt; omega, o.nc, o.nm, by rw [S.get_new_ne _ _ _ o.lt]; exact o.get⟩
section
variable {z : Bool} {h : Heap} {c mp : Pos} {p : PProg} {s : St}
theorem CkAt.fill (k : CkAt z h c mp p s) (x y : Blk) : CkAt z ((h.new x).put h.next y) c mp p s ∧ Fr h ((h.new x).put h.next y) c mp ∧ Own ((h.new x).put h.next y) h.next y c mp := by
  have h1 := k.lc
  have h2 := k.lm
  exact ⟨(k.new x).putO y (by omega) (by omega), (Fr.new x).put y (.inl (Nat.le_refl _)), by simp [pv], by omega, by omega, by simp⟩
theorem CkAt.box (k : CkAt z h c mp p s) (x : Blk) : CkAt z (h.new x) c mp p s ∧ Fr h (h.new x) c mp ∧ Own (h.new x) h.next x c mp := by
  have h1 := k.lc
  have h2 := k.lm
  exact ⟨k.new x, Fr.new x, by simp [pv], by omega, by omega, by simp⟩

theorem args_w {slots : Int} {xs : Sl PAtom} (hlen : len xs < 4611686018427387904) {e : Env} {Q : XExit → Env → Heap → Prop} (k : CkAt false h c mp p s)
    (g0 : getE e (tt 0) = .ptr c 0) (g3 : getE e (tt 3) = I slots) (g94 : getE e (tt 94) = xs.val PAtom.enc) (g95 : getE e (tt 95) = I (len xs)) (g96 : getE e (tt 96) = I 0)
    (hq : ∀ e' h', CkAt false h' c mp p { s with e := chkArgs p slots xs.list s.e } → Fr h h' c mp → (∀ t : Nat, t < 11 → getE e' (tt t) = getE e (tt t)) → Q (.exit 0) e' h') :
    Run X (.loop b_code_checker_node_L0) e h Q := by
  obtain ⟨J, hJ⟩ : ∃ J : Nat → Env → Heap → Prop, ∀ k e1 h1, J k e1 h1 ↔ ∃ (i : Nat) (e2 : Int), k = xs.list.length - i ∧ i ≤ xs.list.length ∧ getE e1 (tt 96) = I i ∧ CkAt false h1 c mp p { s with e := e2 } ∧ chkArgs p slots (xs.list.drop i) e2 = chkArgs p slots xs.list s.e ∧ Fr h h1 c mp ∧ (∀ t : Nat, t < 11 ∨ t = 94 ∨ t = 95 → getE e1 (tt t) = getE e (tt t)) := ⟨_, fun _ _ _ => Iff.rfl⟩
  refine Run.loop J (fun k e1 h1 hk => ?_) xs.list.length ((hJ _ _ _).2 ⟨0, s.e, by omega, by omega, g96, k, rfl, Fr.refl _ _ _, fun _ _ => rfl⟩)
  obtain ⟨i, e2, rfl, hi, g96, k1, hr, f1, ge⟩ := (hJ _ _ _).1 hk
  rw [b_code_checker_node_L0]
  by_cases hil : i < xs.list.length
  · obtain ⟨x, hx, hd⟩ := drop_at hil
    obtain ⟨q, a1⟩ := addr_val PAtom.enc 2 (fun _ => rfl) xs i x hx
    have hi' : (i : Int) < len xs := by simp only [len]; omega
    have hw : IntKind.i64.wrap ((i : Int) + 1) = ((i + 1 : Nat) : Int) := by rw [wrap_small (by omega) (by omega)]; omega
    obtain ⟨kA, fA, oA⟩ := k1.fill (Blk.ofL [.bool false, I 0]) (Blk.ofL x.enc)
    rw [hd] at hr
    have hxe : x.enc = [.bool x.g, I x.n] := rfl
    rw [hxe] at kA fA oA a1
    simp [g96, ge, g0, g3, g94, g95, hi', a1]
    refine atom_w (a := x) kA fun h2 k2 f2 => ?_
    simp [g96, hw]
    refine ⟨xs.list.length - (i + 1), by omega, (hJ _ _ _).2 ⟨i + 1, _, rfl, by omega, by simp, k2, hr, (f1.trans fA).trans f2, fun t ht => ?_⟩⟩
    simp
    repeat rw [if_neg (by omega)]
    exact ge t ht
  · have hi' : ¬ (i : Int) < len xs := by simp only [len]; omega
    have hil : i = xs.list.length := by omega
    subst hil
    simp [g96, ge, g95, hi']
    refine hq _ _ ?_ f1 fun t ht => ?_
    · have : chkArgs p slots xs.list s.e = e2 := by rw [← hr]; simp [chkArgs]
      rw [this]; exact k1
    · simp; rw [if_neg (by omega)]; exact ge t (by omega)

theorem args14_w {slots : Int} {n : PNode} (hlen : len n.args < 4611686018427387904) {e : Env} {b : Pos} {Q : XExit → Env → Heap → Prop} (k : CkAt true h c mp p s) (o : Own h b (Blk.ofL n.enc) c mp)
    (g0 : getE e (tt 0) = .ptr c 0) (g3 : getE e (tt 3) = I slots) (g8 : getE e (tt 8) = .ptr b 0) (g9 : getE e (tt 9) = I 0)
    (hq : ∀ e' h', CkAt true h' c mp p { s with e := chkArgs p slots n.args.list s.e } → Fr h h' c mp → (∀ t : Nat, t < 9 → getE e' (tt t) = getE e (tt t)) → Q (.exit 0) e' h') :
    Run X (.loop b_ref14_C_Node_L0) e h Q := by
  obtain ⟨J, hJ⟩ : ∃ J : Nat → Env → Heap → Prop, ∀ k e1 h1, J k e1 h1 ↔ ∃ (i : Nat) (e2 : Int), k = n.args.list.length - i ∧ i ≤ n.args.list.length ∧ getE e1 (tt 9) = I i ∧ CkAt true h1 c mp p { s with e := e2 } ∧ chkArgs p slots (n.args.list.drop i) e2 = chkArgs p slots n.args.list s.e ∧ Fr h h1 c mp ∧ (∀ t : Nat, t < 9 → getE e1 (tt t) = getE e (tt t)) := ⟨_, fun _ _ _ => Iff.rfl⟩
  refine Run.loop J (fun k e1 h1 hk => ?_) n.args.list.length ((hJ _ _ _).2 ⟨0, s.e, by omega, by omega, g9, k, rfl, Fr.refl _ _ _, fun _ _ => rfl⟩)
  obtain ⟨i, e2, rfl, hi, g9, k1, hr, f1, ge⟩ := (hJ _ _ _).1 hk
  have o1 := (o.fr f1).get
  have hne : n.enc = [I n.op, I n.n, .bool n.f.g, I n.f.n, n.args.val PAtom.enc, n.clos.val PClos.enc, I n.kid, n.brs.val PBranch.enc] := rfl
  rw [hne] at o1
  rw [b_ref14_C_Node_L0]
  by_cases hil : i < n.args.list.length
  · obtain ⟨x, hx, hd⟩ := drop_at hil
    obtain ⟨q, a1⟩ := addr_val PAtom.enc 2 (fun _ => rfl) n.args i x hx
    have hi' : (i : Int) < len n.args := by simp only [len]; omega
    have hw : IntKind.i64.wrap ((i : Int) + 1) = ((i + 1 : Nat) : Int) := by rw [wrap_small (by omega) (by omega)]; omega
    rw [hd] at hr
    have hxe : x.enc = [.bool x.g, I x.n] := rfl
    rw [hxe] at a1
    simp [g9, ge, g0, g3, g8, o1, lenSl_val, hi', a1]
    refine atom14_w (a := x) k1 fun h2 k2 f2 => ?_
    simp [g9, hw]
    refine ⟨n.args.list.length - (i + 1), by omega, (hJ _ _ _).2 ⟨i + 1, _, rfl, by omega, by simp, k2, hr, f1.trans f2, fun t ht => ?_⟩⟩
    simp
    repeat rw [if_neg (by omega)]
    exact ge t ht
  · have hi' : ¬ (i : Int) < len n.args := by simp only [len]; omega
    have hil : i = n.args.list.length := by omega
    subst hil
    simp [g9, ge, g8, o1, lenSl_val, hi']
    refine hq _ _ ?_ f1 fun t ht => ?_
    · have : chkArgs p slots n.args.list s.e = e2 := by rw [← hr]; simp [chkArgs]
      rw [this]; exact k1
    · simp
      repeat rw [if_neg (by omega)]
      exact ge t (by omega)
end
end Go.Tw
end

section
open Go Go.Av Go.Ck
namespace Go.Tw
set_option linter.unusedSimpArgs false
set_option linter.unusedVariables false

def Bd (f : Nat) : Int := 2305843009213693952 - f * 281474976710656
structure PB (p : PProg) : Prop where
  ar : ∀ x ∈ p.cons.list, 0 ≤ x.arity ∧ x.arity ≤ 24
  cl : ∀ n ∈ p.nodes.list, len n.clos ≤ 140737488355328
  ag : ∀ n ∈ p.nodes.list, len n.args < 4611686018427387904
  br : ∀ n ∈ p.nodes.list, len n.brs < 4611686018427387904
  cp : ∀ n ∈ p.nodes.list, ∀ x ∈ n.clos.list, len x.caps < 4611686018427387904

theorem chkNode_ne {p : PProg} {f : Nat} {at_ above slots : Int} {s : St} (h : s.e ≠ 0) : chkNode p (f + 1) at_ above slots s = s := by
  simp only [chkNode, need_ne h]
  rw [if_pos (.inl h)]

/-- what a node's check is, at less than f -/
structure NodeW (z : Bool) (fn : Nat) (p : PProg) (c mp : Pos) (f : Nat) : Prop where
  ok : ∀ {at_ above slots : Int} {s : St} {h : Heap} {Q : AVal → Heap → Prop}, CkAt z h c mp p s → above ≤ f → (s.e = 0 → 0 ≤ slots ∧ slots ≤ Bd f) →
  (∀ h', CkAt z h' c mp p (chkNode p (f + 1) at_ above slots s) → Fr h h' c mp → Q (.tup []) h') → Cal X fn [.ptr c 0, I at_, I above, I slots] h Q

theorem chkBranches_ne {p : PProg} {slots : Int} {nd : Int → Int → St → St} : ∀ (l : List PBranch) {s : St}, s.e ≠ 0 → chkBranches p slots nd l s = s
  | [], _, _ => rfl
  | b :: l, s, h => by simp only [chkBranches]; rw [if_pos h]
theorem chkCon_ne {p : PProg} {n kids e : Int} (h : e ≠ 0) : chkCon p n kids e = e := by
  simp only [chkCon, need_ne h]; rw [if_neg h]
theorem chkCon_zero {p : PProg} (hp : PB p) {n kids e : Int} (h : chkCon p n kids e = 0) : 0 ≤ kids ∧ kids ≤ 24 := by
  simp only [chkCon] at h
  by_cases h0 : need e (below n (len p.cons)) 1 = 0
  · rw [if_pos h0] at h
    obtain ⟨_, hb⟩ := (need_zero (by decide)).1 h0
    obtain ⟨i, x, _, hx, ha⟩ := at_of hb
    rw [ha, h0] at h
    obtain ⟨_, hd⟩ := (need_zero (by decide)).1 h
    have := hp.ar x (List.mem_of_getElem? hx)
    simp at hd; omega
  · rw [if_neg h0] at h; exact absurd h h0

section
variable {z : Bool} {h : Heap} {c mp : Pos} {p : PProg} {s : St}

theorem brs_w {f : Nat} (hp : PB p) (hN : NodeW false n_code_checker_node p c mp f) {at_ slots : Int} (hat : at_ ≤ f) (hs0 : 0 ≤ slots) (hs1 : slots ≤ Bd (f + 1)) {xs : Sl PBranch} (hlen : len xs < 4611686018427387904) {e : Env} {Q : XExit → Env → Heap → Prop} (k : CkAt false h c mp p s)
    (g0 : getE e (tt 0) = .ptr c 0) (g1 : getE e (tt 1) = I at_) (g3 : getE e (tt 3) = I slots) (g18 : getE e (tt 18) = xs.val PBranch.enc) (g19 : getE e (tt 19) = I (len xs)) (g20 : getE e (tt 20) = I 0)
    (hq : ∀ x e' h', CkAt false h' c mp p (chkBranches p slots (fun k m s => chkNode p (f + 1) k at_ m s) xs.list s) → Fr h h' c mp → (x = .exit 0 ∨ x = .ret) → Q x e' h') :
    Run X (.loop b_code_checker_choice_L0) e h Q := by
  obtain ⟨J, hJ⟩ : ∃ J : Nat → Env → Heap → Prop, ∀ k e1 h1, J k e1 h1 ↔ ∃ (i : Nat) (s1 : St), k = xs.list.length - i ∧ i ≤ xs.list.length ∧ getE e1 (tt 20) = I i ∧ CkAt false h1 c mp p s1 ∧ chkBranches p slots (fun k m s => chkNode p (f + 1) k at_ m s) (xs.list.drop i) s1 = chkBranches p slots (fun k m s => chkNode p (f + 1) k at_ m s) xs.list s ∧ Fr h h1 c mp ∧ (∀ t : Nat, t < 9 ∨ t = 18 ∨ t = 19 → getE e1 (tt t) = getE e (tt t)) := ⟨_, fun _ _ _ => Iff.rfl⟩
  refine Run.loop J (fun k e1 h1 hk => ?_) xs.list.length ((hJ _ _ _).2 ⟨0, s, by omega, by omega, g20, k, rfl, Fr.refl _ _ _, fun _ _ => rfl⟩)
  obtain ⟨i, s1, rfl, hi, g20, k1, hr, f1, ge⟩ := (hJ _ _ _).1 hk
  rw [b_code_checker_choice_L0]
  by_cases hil : i < xs.list.length
  · obtain ⟨x, hx, hd⟩ := drop_at hil
    obtain ⟨q, a1⟩ := addr_val PBranch.enc 4 (fun _ => rfl) xs i x hx
    have hi' : (i : Int) < len xs := by simp only [len]; omega
    have hw : IntKind.i64.wrap ((i : Int) + 1) = ((i + 1 : Nat) : Int) := by rw [wrap_small (by omega) (by omega)]; omega
    rw [hd] at hr
    rcases x with ⟨kd, nn, ar, nd⟩
    obtain ⟨kA, fA, oA⟩ := k1.fill (Blk.ofL [I 0, I 0, I 0, I 0]) (Blk.ofL [I kd, I nn, I ar, I nd])
    have hxe : PBranch.enc ⟨kd, nn, ar, nd⟩ = [I kd, I nn, I ar, I nd] := rfl
    rw [hxe] at a1
    have oG := oA.get
    have kG := kA.gc
    have B1 : Bd f = Bd (f + 1) + 281474976710656 := by simp only [Bd]; omega
    have B2 : Bd (f + 1) < 2305843009213693952 := by simp only [Bd]; omega
    have e1w : getE e1 (tt 20) = I i := g20
    have w1 : IntKind.i64.wrap (slots + 1) = slots + 1 := wrap_small (by omega) (by omega)
    by_cases k0 : kd = 0
    · subst k0
      simp [g20, ge, g0, g1, g3, g18, g19, hi', a1, oG]
      refine con_w kA fun h2 k2 f2 => ?_
      by_cases hc : chkCon p nn ar s1.e = 0
      · have hs1e : s1.e = 0 := Classical.byContradiction fun hne => by rw [chkCon_ne hne] at hc; exact hne hc
        obtain ⟨c1, c2⟩ := chkCon_zero hp hc
        have hwm : IntKind.i64.wrap (slots + ar) = slots + ar := wrap_small (by omega) (by omega)
        have og := (oA.fr f2).get
        simp [hc, og, g20, ge, g0, g1, g3, hwm]
        refine hN.ok k2 hat (fun _ => by omega) fun h3 k3 f3 => ?_
        simp only [chkBranches, hs1e, ne_eq, not_true_eq_false, if_false, if_true] at hr
        rw [hs1e] at hc
        simp only [hc, if_true] at hr
        simp only [hs1e, hc] at k3
        simp [hw, e1w]
        refine ⟨xs.list.length - (i + 1), by omega, (hJ _ _ _).2 ⟨i + 1, _, rfl, by omega, by simp, k3, hr, ((f1.trans fA).trans f2).trans f3, fun t ht => ?_⟩⟩
        simp
        repeat rw [if_neg (by omega)]
        exact ge t ht
      · simp [hc, g20, ge, g0, g1, g3]
        refine hq _ _ _ ?_ ((f1.trans fA).trans f2) (.inr rfl)
        rw [← hr]
        by_cases hs1e : s1.e = 0
        · rw [hs1e] at hc k2
          simp only [chkBranches, hs1e, ne_eq, not_true_eq_false, if_false, if_true, hc]
          rw [chkBranches_ne _ (by exact hc)]
          exact k2
        · rw [chkBranches_ne _ hs1e]
          rw [chkCon_ne hs1e] at k2
          exact k2
    · by_cases k1' : kd = 1
      · subst k1'
        have kG2 := kA.gc
        simp [g20, ge, g0, g1, g3, g18, g19, hi', a1, oG, kG2, lenSl_val]
        refine in_w ?_
        by_cases hb : below nn (len p.globals) = true
        · obtain ⟨j, y, rfl, hy, ha⟩ := at_of hb
          obtain ⟨w, a2⟩ := addr_val PGlobal.enc 3 (fun _ => rfl) p.globals j y hy
          simp only [PGlobal.enc] at a2
          simp [hb, kG2, oG, a2, ge, g0, g1, g3]
          refine ask_w kA (by decide) fun h2 k2 f2 => ?_
          have og := (oA.fr f2).get
          simp [og, ge, g0, g1, g3, g20]
          refine hN.ok k2 hat (fun _ => by omega) fun h3 k3 f3 => ?_
          have hr3 : chkBranches p slots (fun k m s => chkNode p (f + 1) k at_ m s) (xs.list.drop (i + 1)) (chkNode p (f + 1) nd at_ slots { s1 with e := need s1.e (decide (y.code < 0)) 1 }) = chkBranches p slots (fun k m s => chkNode p (f + 1) k at_ m s) xs.list s := by
            rw [← hr]
            by_cases hs1e : s1.e = 0
            · have hn0 : need 0 (below (j : Int) (len p.globals)) 1 = 0 := by rw [hb]; rfl
              simp only [chkBranches, hs1e, ne_eq, not_true_eq_false, if_false, if_true, ha, hn0]
              by_cases hz : need 0 (decide (y.code < 0)) 1 = 0
              · simp [hz]
              · simp [hz]; rw [chkNode_ne (by exact hz)]
            · rw [chkBranches_ne (_ :: _) hs1e, need_ne hs1e, chkNode_ne (by exact hs1e), chkBranches_ne _ (by exact hs1e)]
          simp [hw, e1w]
          refine ⟨xs.list.length - (i + 1), by omega, (hJ _ _ _).2 ⟨i + 1, _, rfl, by omega, by simp, k3, hr3, ((f1.trans fA).trans f2).trans f3, fun t ht => ?_⟩⟩
          simp
          repeat rw [if_neg (by omega)]
          exact ge t ht
        · simp [hb, kG2, oG, ge, g0, g1, g3]
          refine ask_w kA (by decide) fun h2 k2 f2 => ?_
          have og := (oA.fr f2).get
          simp [og, ge, g0, g1, g3, g20]
          refine hN.ok k2 hat (fun _ => by omega) fun h3 k3 f3 => ?_
          have hr3 : chkBranches p slots (fun k m s => chkNode p (f + 1) k at_ m s) (xs.list.drop (i + 1)) (chkNode p (f + 1) nd at_ slots { s1 with e := need s1.e false 1 }) = chkBranches p slots (fun k m s => chkNode p (f + 1) k at_ m s) xs.list s := by
            rw [← hr]
            have hbf : below nn (len p.globals) = false := by simpa using hb
            by_cases hs1e : s1.e = 0
            · have hn0 : need 0 false 1 = 1 := rfl
              simp only [chkBranches, hs1e, ne_eq, not_true_eq_false, if_false, if_true, hbf, hn0]
              simp
              rw [chkNode_ne (by simp)]
            · rw [chkBranches_ne (_ :: _) hs1e, need_ne hs1e, chkNode_ne (by exact hs1e), chkBranches_ne _ (by exact hs1e)]
          simp [hw, e1w]
          refine ⟨xs.list.length - (i + 1), by omega, (hJ _ _ _).2 ⟨i + 1, _, rfl, by omega, by simp, k3, hr3, ((f1.trans fA).trans f2).trans f3, fun t ht => ?_⟩⟩
          simp
          repeat rw [if_neg (by omega)]
          exact ge t ht
      · by_cases k2' : kd = 2
        · subst k2'
          simp [g20, ge, g0, g1, g3, g18, g19, hi', a1, oG, w1]
          refine hN.ok kA hat (fun _ => by omega) fun h3 k3 f3 => ?_
          have hr3 : chkBranches p slots (fun k m s => chkNode p (f + 1) k at_ m s) (xs.list.drop (i + 1)) (chkNode p (f + 1) nd at_ (slots + 1) s1) = chkBranches p slots (fun k m s => chkNode p (f + 1) k at_ m s) xs.list s := by
            rw [← hr]
            by_cases hs1e : s1.e = 0
            · have hs1' : ({ e := 0, sl := s1.sl, seen := s1.seen } : St) = s1 := by cases s1; simp only at hs1e; subst hs1e; rfl
              simp [chkBranches, hs1e, hs1']
            · rw [chkBranches_ne (_ :: _) hs1e, chkNode_ne (by exact hs1e), chkBranches_ne _ (by exact hs1e)]
          simp [hw, e1w]
          refine ⟨xs.list.length - (i + 1), by omega, (hJ _ _ _).2 ⟨i + 1, _, rfl, by omega, by simp, k3, hr3, (f1.trans fA).trans f3, fun t ht => ?_⟩⟩
          simp
          repeat rw [if_neg (by omega)]
          exact ge t ht
        · simp [g20, ge, g0, g1, g3, g18, g19, hi', a1, oG, k0, k1', k2']
          refine ask_w kA (by decide) fun h2 k2 f2 => ?_
          have og := (oA.fr f2).get
          simp [og, ge, g0, g1, g3, g20]
          refine hN.ok k2 hat (fun _ => by omega) fun h3 k3 f3 => ?_
          have hr3 : chkBranches p slots (fun k m s => chkNode p (f + 1) k at_ m s) (xs.list.drop (i + 1)) (chkNode p (f + 1) nd at_ slots { s1 with e := need s1.e false 6 }) = chkBranches p slots (fun k m s => chkNode p (f + 1) k at_ m s) xs.list s := by
            rw [← hr]
            by_cases hs1e : s1.e = 0
            · have hn0 : need 0 false 6 = 6 := rfl
              simp only [chkBranches, hs1e, ne_eq, not_true_eq_false, if_false, if_true, k0, k1', k2', hn0]
              simp
              rw [chkNode_ne (by simp)]
            · rw [chkBranches_ne (_ :: _) hs1e, need_ne hs1e, chkNode_ne (by exact hs1e), chkBranches_ne _ (by exact hs1e)]
          simp [hw, e1w]
          refine ⟨xs.list.length - (i + 1), by omega, (hJ _ _ _).2 ⟨i + 1, _, rfl, by omega, by simp, k3, hr3, ((f1.trans fA).trans f2).trans f3, fun t ht => ?_⟩⟩
          simp
          repeat rw [if_neg (by omega)]
          exact ge t ht
  · have hi' : ¬ (i : Int) < len xs := by simp only [len]; omega
    have hil : i = xs.list.length := by omega
    subst hil
    simp [g20, ge, g19, hi']
    refine hq _ _ _ ?_ f1 (.inl rfl)
    rw [← hr]; simpa [chkBranches] using k1
end
end Go.Tw
end

section
open Go Go.Av Go.Ck
namespace Go.Tw
set_option linter.unusedSimpArgs false
set_option linter.unusedVariables false

abbrev kk : List Scal := [.num .i64, .num .i64]
theorem keyEq (a b a' b' : Int) : valEq true kk (.agg [I a, I b]) (.agg [I a', I b']) = some (decide (a = a') && decide (b = b')) := by
  simp [valEq, cellsEq, scalEq]
theorem key_ok (a b : Int) : keyOk true kk (.agg [I a, I b]) = true := by simp [keyOk, keyEq]
theorem find_seen (a b : Int) : ∀ l : List (Int × Int), findA true kk (.agg [I a, I b]) (seenL l) = some (if (a, b) ∈ l then some (.bool true) else none)
  | [] => by simp [seenL, findA]
  | (c, d) :: l => by
    have ih := find_seen a b l
    simp only [seenL] at ih
    simp only [seenL, List.map_cons, findA, keyEq]
    by_cases h : a = c ∧ b = d
    · obtain ⟨rfl, rfl⟩ := h; simp
    · have : (decide (a = c) && decide (b = d)) = false := by simpa using h
      rw [this]; simp only [ih]
      have hne : ¬ (a, b) = (c, d) := by simpa using h
      simp [hne]
theorem put_seen (a b : Int) : ∀ l : List (Int × Int), (a, b) ∉ l → putA true kk (.agg [I a, I b]) (.bool true) (seenL l) = some (seenL (l ++ [(a, b)]))
  | [], _ => by simp [seenL, putA]
  | (c, d) :: l, hn => by
    have hn' : (a, b) ∉ l := fun h => hn (List.mem_cons_of_mem _ h)
    have hne : ¬ (a, b) = (c, d) := fun h => hn (h ▸ List.mem_cons_self)
    have ih := put_seen a b l hn'
    simp only [seenL] at ih
    simp only [seenL, List.map_cons, putA, keyEq]
    have : (decide (a = c) && decide (b = d)) = false := by simpa using hne
    rw [this]; simp only [ih]; rfl

section
variable {z : Bool} {h : Heap} {c mp : Pos} {p : PProg} {s : St}
theorem CkAt.see (k : CkAt z h c mp p s) (l : List (Int × Int)) : CkAt z (h.put mp (.map (seenL l))) c mp p { s with seen := l } :=
  ⟨k.lc, k.lm, k.ne, by rw [S.get_put_ne _ _ _ _ (fun e => k.ne e.symm)]; exact k.gc, S.get_put_self _ _ _⟩
theorem Fr.see : Fr h (h.put mp (.map (seenL s.seen))) c mp := Fr.put (Fr.refl _ _ _) _ (.inr (.inr rfl))

theorem let_w {f : Nat} (hp : PB p) (hN : NodeW false n_code_checker_node p c mp f) {at_ slots : Int} (hat : at_ ≤ f) (hs0 : 0 ≤ slots) (hs1 : slots ≤ Bd (f + 1)) {n : PNode} (hn : n ∈ p.nodes.list) {Q : AVal → Heap → Prop} (k : CkAt false h c mp p s)
    (hq : ∀ h', CkAt false h' c mp p (if chkClos p (slots + len n.clos) n.clos.list s.e = 0 then chkNode p (f + 1) n.kid at_ (slots + len n.clos) { s with e := chkClos p (slots + len n.clos) n.clos.list s.e } else { s with e := chkClos p (slots + len n.clos) n.clos.list s.e }) → Fr h h' c mp → Q (.tup []) h') :
    Cal X n_code_checker_let [.ptr c 0, I at_, .agg n.enc, I slots] h Q := by
  refine Cal.go (u_code_checker_let _ _ rfl) ?_
  rw [b_code_checker_let]
  have hne : n.enc = [I n.op, I n.n, .bool n.f.g, I n.f.n, n.args.val PAtom.enc, n.clos.val PClos.enc, I n.kid, n.brs.val PBranch.enc] := rfl
  obtain ⟨k1, f1, o1⟩ := k.box (Blk.ofL n.enc)
  rw [hne] at k1 f1 o1
  have og := o1.get
  have hcl := hp.cl n hn
  have hc0 : 0 ≤ len n.clos := by simp only [len]; omega
  have B2 : Bd (f + 1) < 2305843009213693952 := by simp only [Bd]; omega
  have B1 : Bd f = Bd (f + 1) + 281474976710656 := by simp only [Bd]; omega
  have hw : IntKind.i64.wrap (slots + len n.clos) = slots + len n.clos := wrap_small (by omega) (by omega)
  simp [hne, og, lenSl_val, hw]
  refine clos_w (more := slots + len n.clos) (xs := n.clos) (by omega) (hp.cp n hn) k1 (by simp) (by simp) (by simp) (by simp) (by simp) fun x e' h' k2 f2 hx => ?_
  rcases hx with ⟨rfl, ge⟩ | ⟨rfl, hz⟩
  · have og2 := (o1.fr f2).get
    simp [ge, og2]
    refine hN.ok k2 hat (fun _ => by omega) fun h3 k3 f3 => ?_
    simp
    refine hq h3 ?_ ((f1.trans f2).trans f3)
    by_cases hz : chkClos p (slots + len n.clos) n.clos.list s.e = 0
    · rw [if_pos hz]; exact k3
    · rw [if_neg hz]; rw [chkNode_ne (by exact hz)] at k3; exact k3
  · simp
    refine hq h' ?_ (f1.trans f2)
    rw [if_neg hz]; exact k2

theorem choice_w {f : Nat} (hp : PB p) (hN : NodeW false n_code_checker_node p c mp f) {at_ slots : Int} (hat : at_ ≤ f) (hs0 : 0 ≤ slots) (hs1 : slots ≤ Bd (f + 1)) {n : PNode} (hn : n ∈ p.nodes.list) {Q : AVal → Heap → Prop} (k : CkAt false h c mp p s)
    (hq : ∀ h', CkAt false h' c mp p (chkBranches p slots (fun k m s => chkNode p (f + 1) k at_ m s) n.brs.list (chkNode p (f + 1) n.kid at_ slots s)) → Fr h h' c mp → Q (.tup []) h') :
    Cal X n_code_checker_choice [.ptr c 0, I at_, .agg n.enc, I slots] h Q := by
  refine Cal.go (u_code_checker_choice _ _ rfl) ?_
  rw [b_code_checker_choice]
  have hne : n.enc = [I n.op, I n.n, .bool n.f.g, I n.f.n, n.args.val PAtom.enc, n.clos.val PClos.enc, I n.kid, n.brs.val PBranch.enc] := rfl
  obtain ⟨k1, f1, o1⟩ := k.box (Blk.ofL n.enc)
  rw [hne] at k1 f1 o1
  have og := o1.get
  have B1 : Bd f = Bd (f + 1) + 281474976710656 := by simp only [Bd]; omega
  simp [hne, og]
  refine hN.ok k1 hat (fun _ => by omega) fun h2 k2 f2 => ?_
  have og2 := (o1.fr f2).get
  simp [og2, lenSl_val]
  refine brs_w hp hN hat hs0 hs1 (hp.br n hn) k2 (by simp) (by simp) (by simp) (by simp) (by simp) (by simp) fun x e' h' k3 f3 hx => ?_
  rcases hx with rfl | rfl
  · simpa using hq h' k3 ((f1.trans f2).trans f3)
  · simpa using hq h' k3 ((f1.trans f2).trans f3)

theorem chkArgs_ne {slots : Int} : ∀ (l : List PAtom) {e : Int}, e ≠ 0 → chkArgs p slots l e = e
  | [], _, _ => rfl
  | k :: l, e, h => by simp only [chkArgs]; rw [need_ne h]; exact chkArgs_ne l h
theorem chkCount_ne {n : PNode} {e : Int} (h : e ≠ 0) : chkCount n e = e := by
  simp only [chkCount, need_ne h, ite_self]

/-- the first question of an operation -/
def chkOp (n : PNode) (e : Int) : Int := if n.op = 3 then need e (decide (0 ≤ n.n ∧ n.n ≤ 14)) 1 else e
/-- the two questions of code's checker are the count's -/
theorem chkCount_args {n : PNode} {e : Int} : chkCount n e = (if 0 ≤ opArgs n.op n.n then need (chkOp n e) (decide (len n.args = opArgs n.op n.n)) 11 else chkOp n e) := by
  by_cases o3 : n.op = 3
  · have hne5 : ¬ (3 : Int) = 5 := by decide
    simp only [chkCount, opArgs, chkOp, o3, if_true, hne5, if_false]
    by_cases hd : 0 ≤ n.n ∧ n.n ≤ 14
    · by_cases h13 : 13 ≤ n.n
      · have : n.n = 13 ∨ n.n = 14 := by omega
        simp [h13, this]
      · have : ¬ (n.n = 13 ∨ n.n = 14) := by omega
        simp [h13, this]
    · have hd' : decide (0 ≤ n.n ∧ n.n ≤ 14) = false := by simpa using hd
      rw [hd']
      have hne : need e false 1 ≠ 0 := by
        intro h; have := (need_zero (by decide)).1 h; simp at this
      rw [need_ne hne, need_ne hne, ite_self]
  · by_cases o4 : n.op = 4
    · simp [o4, chkCount, opArgs, chkOp]
    · by_cases o5 : n.op = 5
      · simp [o5, chkCount, opArgs, chkOp]
      · simp [o3, o4, o5, chkCount, opArgs, chkOp]
        rw [need_keep (.inl rfl)]

/-- a node's check behind its first questions -/
def chkRest (p : PProg) (f : Nat) (at_ slots : Int) (n : PNode) (s : St) (e2 : Int) : St :=
  let e3 := chkCount n (chkArgs p slots n.args.list e2)
  let s3 : St := { s with e := e3 }
  if e3 ≠ 0 then s3
  else if n.op = 2 then { s3 with e := chkCon p n.n (len n.args) e3 }
  else if n.op = 6 then
    let e4 := chkClos p (slots + len n.clos) n.clos.list e3
    if e4 = 0 then chkNode p f n.kid at_ (slots + len n.clos) { s3 with e := e4 } else { s3 with e := e4 }
  else if n.op = 7 then
    chkBranches p slots (fun k m s => chkNode p f k at_ m s) n.brs.list (chkNode p f n.kid at_ slots s3)
  else s3
theorem chkNode_go {f : Nat} {at_ above slots : Int} {n : PNode} (hs : s.e = 0) (hb : below at_ (len p.nodes) = true) (hlt : at_ < above) (hsn : (at_, slots) ∉ s.seen) (hna : at' p.nodes at_ = some n) :
    chkNode p (f + 1) at_ above slots s = chkRest p f at_ slots n { e := 0, sl := if s.sl < slots then slots else s.sl, seen := s.seen ++ [(at_, slots)] } (if n.op = 1 then need (need 0 (decide (1 ≤ n.op ∧ n.op ≤ 7)) 6) (atomOk p slots n.f) 1 else need 0 (decide (1 ≤ n.op ∧ n.op ≤ 7)) 6) := by
  have h1 : need 0 (true && true) 1 = 0 := rfl
  have h2 : ¬ ((0 : Int) ≠ 0 ∨ (at_, slots) ∈ s.seen) := by simp [hsn]
  simp only [chkNode, hs, hb, hlt, decide_true, h1, if_neg h2, hna, gt_iff_lt]
  rfl
theorem chkRest_ne {f : Nat} {at_ slots : Int} {n : PNode} {e2 : Int} (h : e2 ≠ 0) : chkRest p f at_ slots n s e2 = { s with e := e2 } := by
  simp only [chkRest, chkArgs_ne _ h, chkCount_ne h]
  rw [if_pos h]

theorem node_tail {f : Nat} (hp : PB p) (hN : ∀ g, f = g + 1 → NodeW false n_code_checker_node p c mp g) {at_ slots : Int} (h0 : 0 ≤ at_) (hat : at_ < f) (hs0 : 0 ≤ slots) (hs1 : slots ≤ Bd f) {n : PNode} (hn : n ∈ p.nodes.list) {b : Pos} {e : Env} {Q : XExit → Env → Heap → Prop} (k : CkAt false h c mp p s) (hs : s.e = 0) (o : Own h b (Blk.ofL n.enc) c mp)
    (g0 : getE e (tt 0) = .ptr c 0) (g1 : getE e (tt 1) = I at_) (g3 : getE e (tt 3) = I slots) (g9 : getE e (tt 9) = .ptr b 0)
    (hq : ∀ x e' h', (x = .normal ∨ x = .ret) → CkAt false h' c mp p (chkRest p f at_ slots n s 0) → Fr h h' c mp → Q x e' h') : Run X b_code_checker_node_S7 e h Q := by
  obtain ⟨g, rfl⟩ : ∃ g, f = g + 1 := ⟨f - 1, by omega⟩
  have hN := hN g rfl
  rw [b_code_checker_node_S7]
  simp only [chkRest] at hq
  have hne : n.enc = [I n.op, I n.n, .bool n.f.g, I n.f.n, n.args.val PAtom.enc, n.clos.val PClos.enc, I n.kid, n.brs.val PBranch.enc] := rfl
  rw [hne] at o
  have og := o.get
  simp [g9, og, lenSl_val]
  refine args_w (slots := slots) (xs := n.args) (hp.ag n hn) k (by simp [g0]) (by simp [g3]) (by simp) (by simp) (by simp) fun e1 h1 k1 f1 ge' => ?_
  have ge : ∀ t : Nat, t < 11 → getE e1 (tt t) = getE e (tt t) := by
    intro t ht; rw [ge' t ht]; simp
    repeat rw [if_neg (by omega)]
  simp only [hs] at k1
  have o1 := o.fr f1
  have og1 := o1.get
  have hat' : at_ ≤ g := by omega
  -- behind the count
  have fin : ∀ {e2 : Env} {h2 : Heap} , (∀ t : Nat, t < 11 → getE e2 (tt t) = getE e (tt t)) → CkAt false h2 c mp p { s with e := chkCount n (chkArgs p slots n.args.list 0) } → Fr h h2 c mp → Run X b_code_checker_node_S11 e2 h2 Q := by
    intro e2 h2 ge2 k2 f2
    have o2 := o.fr f2
    have og2 := o2.get
    have g2 := k2.gc
    rw [b_code_checker_node_S11]
    by_cases he : chkCount n (chkArgs p slots n.args.list 0) ≠ 0
    · simp [ge2, g0, g2, he]
      exact hq _ _ _ (.inr rfl) (by simp only [if_pos he]; exact k2) f2
    · have he : chkCount n (chkArgs p slots n.args.list 0) = 0 := by simpa using he
      simp only [he, ne_eq, not_true_eq_false, if_false] at hq
      simp only [he] at k2
      by_cases o2' : n.op = 2
      · simp [ge2, g0, g1, g3, g9, g2, he, og2, o2', lenSl_val]
        refine con_w k2 fun h3 k3 f3 => ?_
        simp
        exact hq _ _ _ (.inl rfl) (by simp only [o2', if_true]; exact k3) (f2.trans f3)
      · by_cases o6 : n.op = 6
        · have hne6 : ¬ (6 : Int) = 2 := by decide
          simp [ge2, g0, g1, g3, g9, g2, he, og2, o6, lenSl_val]
          rw [← o6]
          refine let_w hp hN hat' hs0 hs1 hn k2 fun h3 k3 f3 => ?_
          simp
          exact hq _ _ _ (.inl rfl) (by simp only [o6, if_true, if_neg hne6]; exact k3) (f2.trans f3)
        · by_cases o7 : n.op = 7
          · have hne7 : ¬ (7 : Int) = 2 := by decide
            have hne76 : ¬ (7 : Int) = 6 := by decide
            simp [ge2, g0, g1, g3, g9, g2, he, og2, o7, lenSl_val]
            rw [← o7]
            refine choice_w hp hN hat' hs0 hs1 hn k2 fun h3 k3 f3 => ?_
            simp
            exact hq _ _ _ (.inl rfl) (by simp only [o7, if_true, if_neg hne7, if_neg hne76]; exact k3) (f2.trans f3)
          · simp [ge2, g0, g1, g3, g9, g2, he, og2, o2', o6, o7, lenSl_val]
            exact hq _ _ _ (.inl rfl) (by simp only [if_neg o2', if_neg o6, if_neg o7]; exact k2) f2
  -- behind the first question
  have mid : ∀ {e2 : Env} {h2 : Heap} , (∀ t : Nat, t < 11 → getE e2 (tt t) = getE e (tt t)) → CkAt false h2 c mp p { s with e := chkOp n (chkArgs p slots n.args.list 0) } → Fr h h2 c mp → Run X b_code_checker_node_S9 e2 h2 Q := by
    intro e2 h2 ge2 k2 f2
    have o2 := o.fr f2
    have og2 := o2.get
    have g2 := k2.gc
    rw [b_code_checker_node_S9]
    simp [ge2, g0, g9, og2]
    refine opargs_w ?_
    by_cases hw : 0 ≤ opArgs n.op n.n
    · simp [ge2, g0, g9, og2, hw, lenSl_val]
      refine ask_w k2 (by decide) fun h3 k3 f3 => ?_
      simp
      refine fin (fun t ht => ?_) (by rw [chkCount_args, if_pos hw]; exact k3) (f2.trans f3)
      simp
      repeat rw [if_neg (by omega)]
      exact ge2 t ht
    · simp [ge2, g0, g9, og2, hw, lenSl_val]
      refine fin (fun t ht => ?_) (by rw [chkCount_args, if_neg hw]; exact k2) f2
      simp
      repeat rw [if_neg (by omega)]
      exact ge2 t ht
  by_cases o3 : n.op = 3
  · have hk : ∀ {d : Bool}, d = decide (0 ≤ n.n ∧ n.n ≤ 14) → chkOp n (chkArgs p slots n.args.list 0) = need (chkArgs p slots n.args.list 0) d 1 := by
      rintro _ rfl; simp only [chkOp, o3, if_true]
    by_cases r1 : 0 ≤ n.n
    · simp [ge, g0, g1, g3, g9, og1, o3, r1]
      refine ask_w k1 (by decide) fun h2 k2 f2 => ?_
      simp
      refine mid (fun t ht => ?_) (by rw [hk (d := decide (n.n ≤ 14)) (by simp [r1])]; exact k2) (f1.trans f2)
      simp
      repeat rw [if_neg (by omega)]
      exact ge t ht
    · simp [ge, g0, g1, g3, g9, og1, o3, r1]
      refine ask_w k1 (by decide) fun h2 k2 f2 => ?_
      simp
      refine mid (fun t ht => ?_) (by rw [hk (d := false) (by simp [r1])]; exact k2) (f1.trans f2)
      simp
      repeat rw [if_neg (by omega)]
      exact ge t ht
  · simp [ge, g0, g1, g3, g9, og1, o3]
    refine mid (fun t ht => ?_) (by simp only [chkOp, if_neg o3]; exact k1) f1
    simp
    repeat rw [if_neg (by omega)]
    exact ge t ht

theorem node_step {f : Nat} (hp : PB p) (hnl : len p.nodes ≤ 4611686018427387904) (hN : ∀ g, f = g + 1 → NodeW false n_code_checker_node p c mp g) : NodeW false n_code_checker_node p c mp f := by
  constructor
  intro at_ above slots s h Q k hab hsl hq
  refine Cal.go (u_code_checker_node _ _ rfl) ?_
  rw [b_code_checker_node]
  obtain ⟨kA, fA, oA⟩ := k.fill (Blk.ofL [I 0, I 0]) (Blk.ofL [I at_, I slots])
  have gA := kA.gc
  have gM := kA.gm
  have oG := oA.get
  have hfl : fills [I 0, I 0] [(0, 1, I at_), (1, 1, I slots)] = some [I at_, I slots] := by simp [fills]
  by_cases hs : s.e ≠ 0
  · rw [chkNode_ne hs] at hq
    simp [gA, hs, hfl]
    exact hq _ kA fA
  have hs : s.e = 0 := by simpa using hs
  obtain ⟨hs0, hs1⟩ := hsl hs
  simp [gA, hs, hfl, lenSl_val]
  refine in_w ?_
  by_cases hbf : below at_ (len p.nodes) = false
  · simp [hbf]
    refine ask_w kA (by decide) fun h2 k2 f2 => ?_
    have hn1 : need s.e false 1 = 1 := by rw [hs]; rfl
    simp [hn1]
    refine hq _ ?_ (fA.trans f2)
    have : chkNode p (f + 1) at_ above slots s = { s with e := 1 } := by simp [chkNode, hbf, hn1]
    rw [this]; simpa [hn1] using k2
  have hb : below at_ (len p.nodes) = true := by simpa using hbf
  simp [hb]
  by_cases hlt : ¬ at_ < above
  · simp [hlt]
    refine ask_w kA (by decide) fun h2 k2 f2 => ?_
    have hn1 : need s.e false 1 = 1 := by rw [hs]; rfl
    simp [hn1]
    refine hq _ ?_ (fA.trans f2)
    have : chkNode p (f + 1) at_ above slots s = { s with e := 1 } := by simp [chkNode, hb, hlt, hn1]
    rw [this]; simpa [hn1] using k2
  have hlt : at_ < above := by simpa using hlt
  simp [hlt]
  refine ask_w kA (by decide) fun h2 k2 f2 => ?_
  have hn1 : need s.e true 1 = 0 := by rw [hs]; rfl
  have g2 := k2.gc
  have m2 := k2.gm
  have o2 := oA.fr f2
  have og2 := o2.get
  have k2' : CkAt false h2 c mp p s := by simp only [hn1] at k2; have : ({ e := 0, sl := s.sl, seen := s.seen } : St) = s := by cases s; simp only at hs; subst hs; rfl
                                          rw [this] at k2; exact k2
  simp only [] at m2
  obtain ⟨i, n, rfl, hn, hna⟩ := at_of hb
  have hnm := List.mem_of_getElem? hn
  by_cases hsn : ((i : Int), slots) ∈ s.seen
  · simp [hn1, g2, m2, og2, key_ok, find_seen, hsn]
    refine hq _ ?_ (fA.trans f2)
    have : chkNode p (f + 1) i above slots s = s := by
      simp only [chkNode, hb, hlt, decide_true, Bool.and_self, hn1, hsn, or_true, if_true]
      cases s; simp only at hs; subst hs; rfl
    rw [this]; exact k2'
  simp [hn1, g2, m2, og2, key_ok, find_seen, put_seen, hsn]
  have hf0 : (0 : Int) ≤ i := by omega
  have hfl' : (i : Int) < f := by omega
  obtain ⟨q, a1⟩ := addr_val PNode.enc 8 (fun _ => rfl) p.nodes i n hn
  have hne : n.enc = [I n.op, I n.n, .bool n.f.g, I n.f.n, n.args.val PAtom.enc, n.clos.val PClos.enc, I n.kid, n.brs.val PBranch.enc] := rfl
  have k3 := k2'.see (s.seen ++ [((i : Int), slots)])
  have g3 := k3.gc
  have k4 := k3.err s.e (if s.sl < slots then slots else s.sl)
  have f4 : Fr h2 ((h2.put mp (.map (seenL (s.seen ++ [((i : Int), slots)])))).put c (ckBlk false p mp s.e (if s.sl < slots then slots else s.sl))) c mp := (Fr.put (Fr.refl _ _ _) _ (.inr (.inr rfl))).put _ (.inr (.inl rfl))
  have g4 := k4.gc
  obtain ⟨k5, f5, o5⟩ := k4.fill (Blk.ofL [I 0, I 0, .bool false, I 0, .nils, .nils, I 0, .nils]) (Blk.ofL n.enc)
  rw [hne] at k5 f5 o5 a1
  simp only [S.put_next] at k5 f5 o5
  have og5 := o5.get
  simp only [hs] at g3 k4 f4 g4 k5 f5 o5 og5
  have fr5 : Fr h _ c mp := ((fA.trans f2).trans f4).trans f5
  rw [chkNode_go hs hb hlt hsn hna] at hq
  by_cases hr : 1 ≤ n.op ∧ n.op ≤ 7
  · have hr0 : need 0 (decide (1 ≤ n.op ∧ n.op ≤ 7)) 6 = 0 := by rw [decide_eq_true hr]; rfl
    rw [hr0] at hq
    simp [g3, ckBlk, a1, scalar_val, og5, hr.1]
    refine ask_w k5 (by decide) fun h6 k6 f6 => ?_
    have hr0' : need 0 (decide (n.op ≤ 7)) 6 = 0 := by rw [decide_eq_true hr.2]; rfl
    simp only [hr0'] at k6
    have o6 := o5.fr f6
    have og6 := o6.get
    by_cases o1 : n.op = 1
    · rw [if_pos o1] at hq
      simp [hr0', show need 0 true 6 = 0 from rfl, og6, o1]
      refine atom_w (a := n.f) k6 fun h7 k7 f7 => ?_
      have o7 := o6.fr f7
      by_cases hz : need 0 (atomOk p slots n.f) 1 = 0
      · rw [hz] at hq
        simp only [hz] at k7
        simp [hz]
        refine node_tail hp hN hf0 hfl' hs0 hs1 hnm k7 rfl o7 (by simp) (by simp) (by simp) (by simp) fun x e' h' hx k8 f8 => ?_
        have := hq h' k8 (((fr5.trans f6).trans f7).trans f8)
        rcases hx with rfl | rfl <;> simpa using this
      · rw [chkRest_ne hz] at hq
        simp [hz]
        exact hq _ k7 ((fr5.trans f6).trans f7)
    · rw [if_neg o1] at hq
      simp [hr0', show need 0 true 6 = 0 from rfl, og6, o1]
      refine node_tail hp hN hf0 hfl' hs0 hs1 hnm k6 rfl o6 (by simp) (by simp) (by simp) (by simp) fun x e' h' hx k8 f8 => ?_
      have := hq h' k8 ((fr5.trans f6).trans f8)
      rcases hx with rfl | rfl <;> simpa using this
  · have hr0 : need 0 (decide (1 ≤ n.op ∧ n.op ≤ 7)) 6 = 6 := by rw [decide_eq_false hr]; rfl
    rw [hr0] at hq
    have hif : (if n.op = 1 then need 6 (atomOk p slots n.f) 1 else 6) = 6 := by rw [need_ne (by decide), ite_self]
    rw [hif, chkRest_ne (by decide)] at hq
    by_cases r1 : 1 ≤ n.op
    · have r7 : ¬ n.op ≤ 7 := fun h => hr ⟨r1, h⟩
      have hr6 : need 0 (decide (n.op ≤ 7)) 6 = 6 := by rw [decide_eq_false r7]; rfl
      simp [g3, ckBlk, a1, scalar_val, og5, r1]
      refine ask_w k5 (by decide) fun h6 k6 f6 => ?_
      simp only [hr6] at k6
      simp [hr6]
      exact hq _ k6 (fr5.trans f6)
    · have hr6 : need 0 false 6 = 6 := rfl
      simp [g3, ckBlk, a1, scalar_val, og5, r1]
      refine ask_w k5 (by decide) fun h6 k6 f6 => ?_
      simp only [hr6] at k6
      simp [hr6]
      exact hq _ k6 (fr5.trans f6)

theorem node_w (hp : PB p) (hnl : len p.nodes ≤ 4611686018427387904) : ∀ f, NodeW false n_code_checker_node p c mp f
  | 0 => node_step hp hnl fun g hg => by omega
  | f + 1 => node_step hp hnl fun g hg => by
    have : f = g := by omega
    subst this; exact node_w hp hnl f
end
end Go.Tw
end

section
open Go Go.Av Go.Ck
namespace Go.Tw
set_option linter.unusedSimpArgs false
set_option linter.unusedVariables false
section
variable {z : Bool} {h : Heap} {c mp : Pos} {p : PProg} {s : St}

theorem cons_w {xs : Sl PCon} (hlen : len xs < 4611686018427387904) {e : Env} {Q : XExit → Env → Heap → Prop} (k : CkAt false h c mp p s)
    (g0 : getE e (tt 0) = .ptr c 0) (g10 : getE e (tt 10) = xs.val PCon.enc) (g11 : getE e (tt 11) = I (len xs)) (g12 : getE e (tt 12) = I 0)
    (hq : ∀ e' h', CkAt false h' c mp p { s with e := chkCons xs.list s.e } → Fr h h' c mp → getE e' (tt 0) = .ptr c 0 → Q (.exit 0) e' h') :
    Run X (.loop b_code_checker_roots_L0) e h Q := by
  obtain ⟨J, hJ⟩ : ∃ J : Nat → Env → Heap → Prop, ∀ k e1 h1, J k e1 h1 ↔ ∃ (i : Nat) (e2 : Int), k = xs.list.length - i ∧ i ≤ xs.list.length ∧ getE e1 (tt 12) = I i ∧ CkAt false h1 c mp p { s with e := e2 } ∧ chkCons (xs.list.drop i) e2 = chkCons xs.list s.e ∧ Fr h h1 c mp ∧ (∀ t : Nat, t < 1 ∨ t = 10 ∨ t = 11 → getE e1 (tt t) = getE e (tt t)) := ⟨_, fun _ _ _ => Iff.rfl⟩
  refine Run.loop J (fun k e1 h1 hk => ?_) xs.list.length ((hJ _ _ _).2 ⟨0, s.e, by omega, by omega, g12, k, rfl, Fr.refl _ _ _, fun _ _ => rfl⟩)
  obtain ⟨i, e2, rfl, hi, g12, k1, hr, f1, ge⟩ := (hJ _ _ _).1 hk
  rw [b_code_checker_roots_L0]
  by_cases hil : i < xs.list.length
  · obtain ⟨x, hx, hd⟩ := drop_at hil
    obtain ⟨q, a1⟩ := addr_val PCon.enc 2 (fun _ => rfl) xs i x hx
    have hi' : (i : Int) < len xs := by simp only [len]; omega
    have hw : IntKind.i64.wrap ((i : Int) + 1) = ((i + 1 : Nat) : Int) := by rw [wrap_small (by omega) (by omega)]; omega
    rw [hd] at hr
    obtain ⟨nm, ar⟩ := x
    obtain ⟨kA, fA, oA⟩ := k1.fill (Blk.ofL [.str [], I 0]) (Blk.ofL [.str nm, I ar])
    have hxe : PCon.enc ⟨nm, ar⟩ = [.str nm, I ar] := rfl
    rw [hxe] at a1
    have og := oA.get
    by_cases r0 : 0 ≤ ar
    · simp [g12, ge, g0, g10, g11, hi', a1, og, r0]
      refine ask_w kA (by decide) fun h2 k2 f2 => ?_
      simp [g12, hw]
      refine ⟨xs.list.length - (i + 1), by omega, (hJ _ _ _).2 ⟨i + 1, _, rfl, by omega, by simp, k2, by rw [← hr]; simp [chkCons, r0], (f1.trans fA).trans f2, fun t ht => ?_⟩⟩
      simp
      repeat rw [if_neg (by omega)]
      exact ge t ht
    · simp [g12, ge, g0, g10, g11, hi', a1, og, r0]
      refine ask_w kA (by decide) fun h2 k2 f2 => ?_
      simp [g12, hw]
      refine ⟨xs.list.length - (i + 1), by omega, (hJ _ _ _).2 ⟨i + 1, _, rfl, by omega, by simp, k2, by rw [← hr]; simp [chkCons, r0], (f1.trans fA).trans f2, fun t ht => ?_⟩⟩
      simp
      repeat rw [if_neg (by omega)]
      exact ge t ht
  · have hi' : ¬ (i : Int) < len xs := by simp only [len]; omega
    have hil : i = xs.list.length := by omega
    subst hil
    simp [g12, ge, g11, hi']
    refine hq _ _ ?_ f1 (by simp [ge, g0])
    have : chkCons xs.list s.e = e2 := by rw [← hr]; simp [chkCons]
    rw [this]; exact k1

theorem globs_w {xs : Sl PGlobal} (hlen : len xs < 4611686018427387904) {e : Env} {Q : XExit → Env → Heap → Prop} (k : CkAt false h c mp p s)
    (g0 : getE e (tt 0) = .ptr c 0) (g10 : getE e (tt 31) = xs.val PGlobal.enc) (g11 : getE e (tt 32) = I (len xs)) (g12 : getE e (tt 33) = I 0)
    (hq : ∀ e' h', CkAt false h' c mp p { s with e := chkGlobals p xs.list s.e } → Fr h h' c mp → getE e' (tt 0) = .ptr c 0 → Q (.exit 2) e' h') :
    Run X (.loop b_code_checker_roots_L1) e h Q := by
  obtain ⟨J, hJ⟩ : ∃ J : Nat → Env → Heap → Prop, ∀ k e1 h1, J k e1 h1 ↔ ∃ (i : Nat) (e2 : Int), k = xs.list.length - i ∧ i ≤ xs.list.length ∧ getE e1 (tt 33) = I i ∧ CkAt false h1 c mp p { s with e := e2 } ∧ chkGlobals p (xs.list.drop i) e2 = chkGlobals p xs.list s.e ∧ Fr h h1 c mp ∧ (∀ t : Nat, t < 1 ∨ t = 31 ∨ t = 32 → getE e1 (tt t) = getE e (tt t)) := ⟨_, fun _ _ _ => Iff.rfl⟩
  refine Run.loop J (fun k e1 h1 hk => ?_) xs.list.length ((hJ _ _ _).2 ⟨0, s.e, by omega, by omega, g12, k, rfl, Fr.refl _ _ _, fun _ _ => rfl⟩)
  obtain ⟨i, e2, rfl, hi, g12, k1, hr, f1, ge⟩ := (hJ _ _ _).1 hk
  rw [b_code_checker_roots_L1]
  by_cases hil : i < xs.list.length
  · obtain ⟨x, hx, hd⟩ := drop_at hil
    obtain ⟨q, a1⟩ := addr_val PGlobal.enc 3 (fun _ => rfl) xs i x hx
    have hi' : (i : Int) < len xs := by simp only [len]; omega
    have hw : IntKind.i64.wrap ((i : Int) + 1) = ((i + 1 : Nat) : Int) := by rw [wrap_small (by omega) (by omega)]; omega
    rw [hd] at hr
    obtain ⟨co, fl, bt⟩ := x
    obtain ⟨kA, fA, oA⟩ := k1.fill (Blk.ofL [I 0, .bool false, .int .u64 0]) (Blk.ofL [I co, .bool fl, .int .u64 bt])
    have hxe : PGlobal.enc ⟨co, fl, bt⟩ = [I co, .bool fl, .int .u64 bt] := rfl
    rw [hxe] at a1
    have og := oA.get
    have gA := kA.gc
    have fin : ∀ {b : Bool} {h2 : Heap} {e2' : Env}, b = globalOk p ⟨co, fl, bt⟩ → CkAt false h2 c mp p { s with e := need e2 b 1 } → Fr h h2 c mp → (∀ t : Nat, t < 1 ∨ t = 31 ∨ t = 32 → getE e2' (tt t) = getE e1 (tt t)) → getE e2' (tt 33) = I ((i + 1 : Nat) : Int) → ∃ j, j < xs.list.length - i ∧ J j e2' h2 := by
      rintro b h2 e2' rfl k2 f2 ge2 e33
      exact ⟨xs.list.length - (i + 1), by omega, (hJ _ _ _).2 ⟨i + 1, _, rfl, by omega, e33, k2, by rw [← hr]; rfl, f2, fun t ht => (ge2 t ht).trans (ge t ht)⟩⟩
    by_cases r0 : co = -1
    · subst r0
      simp [g12, ge, g0, g10, g11, hi', a1, og]
      refine ask_w kA (by decide) fun h2 k2 f2 => ?_
      simp [g12, hw]
      refine fin (b := true) (by simp [globalOk]) k2 ((f1.trans fA).trans f2) (fun t ht => ?_) (by simp)
      simp
      repeat rw [if_neg (by omega)]
    · simp [g12, ge, g0, g10, g11, hi', a1, og, r0, gA, lenSl_val]
      refine in_w ?_
      by_cases hb : below co (len p.codes) = true
      · obtain ⟨j, y, rfl, hy, ha⟩ := at_of hb
        obtain ⟨w, a2⟩ := addr_val PCode.enc 4 (fun _ => rfl) p.codes j y hy
        simp only [PCode.enc] at a2
        simp [hb, ge, g0, gA, og, a2]
        refine ask_w kA (by decide) fun h2 k2 f2 => ?_
        simp [g12, hw]
        refine fin (b := decide (y.free = 0)) (by simp [globalOk, r0, hb, ha]) k2 ((f1.trans fA).trans f2) (fun t ht => ?_) (by simp)
        simp
        repeat rw [if_neg (by omega)]
      · simp [hb, ge, g0, gA, og]
        refine ask_w kA (by decide) fun h2 k2 f2 => ?_
        simp [g12, hw]
        refine fin (b := false) (by simp [globalOk, r0, hb]) k2 ((f1.trans fA).trans f2) (fun t ht => ?_) (by simp)
        simp
        repeat rw [if_neg (by omega)]
  · have hi' : ¬ (i : Int) < len xs := by simp only [len]; omega
    have hil : i = xs.list.length := by omega
    subst hil
    simp [g12, ge, g11, hi']
    refine hq _ _ ?_ f1 (by simp [ge, g0])
    have : chkGlobals p xs.list s.e = e2 := by rw [← hr]; simp [chkGlobals]
    rw [this]; exact k1

theorem chkGlobals_ne : ∀ (l : List PGlobal) {e : Int}, e ≠ 0 → chkGlobals p l e = e
  | [], _, _ => rfl
  | k :: l, e, h => by simp only [chkGlobals]; rw [need_ne h]; exact chkGlobals_ne l h
theorem chkGlobals_zero : ∀ (l : List PGlobal) {e : Int}, chkGlobals p l e = 0 → ∀ g ∈ l, globalOk p g = true
  | [], _, _, g, hg => by simp at hg
  | k :: l, e, h, g, hg => by
    simp only [chkGlobals] at h
    have h1 : need e (globalOk p k) 1 = 0 := Classical.byContradiction fun hne => by rw [chkGlobals_ne l hne] at h; exact hne h
    rcases List.mem_cons.1 hg with rfl | hg
    · exact ((need_zero (by decide)).1 h1).2
    · exact chkGlobals_zero l h g hg
theorem chkCons_ne : ∀ (l : List PCon) {e : Int}, e ≠ 0 → chkCons l e = e
  | [], _, _ => rfl
  | k :: l, e, h => by simp only [chkCons]; rw [need_ne h]; exact chkCons_ne l h
theorem chkCons_zero : ∀ (l : List PCon) {e : Int}, chkCons l e = 0 → ∀ g ∈ l, 0 ≤ g.arity ∧ g.arity ≤ 24
  | [], _, _, g, hg => by simp at hg
  | k :: l, e, h, g, hg => by
    simp only [chkCons] at h
    have h1 : need e (decide (0 ≤ k.arity ∧ k.arity ≤ 24)) 1 = 0 := Classical.byContradiction fun hne => by rw [chkCons_ne l hne] at h; exact hne h
    rcases List.mem_cons.1 hg with rfl | hg
    · simpa using ((need_zero (by decide)).1 h1).2
    · exact chkCons_zero l h g hg
theorem global_at {g : PGlobal} (h : globalOk p g = true) (h0 : 0 ≤ g.code) : below g.code (len p.codes) = true ∧ ∃ y, at' p.codes g.code = some y ∧ y.free = 0 := by
  simp only [globalOk, Bool.or_eq_true, decide_eq_true_eq, Bool.and_eq_true] at h
  rcases h with h | ⟨h1, h2⟩
  · omega
  · refine ⟨h1, ?_⟩
    cases ha : at' p.codes g.code with
    | none => rw [ha] at h2; cases h2
    | some y => rw [ha] at h2; exact ⟨y, rfl, by simpa using h2⟩

theorem roots_w (hc : len p.cons < 4611686018427387904) (hg : len p.globals < 4611686018427387904) {Q : AVal → Heap → Prop} (k : CkAt false h c mp p s)
    (hq : ∀ h', CkAt false h' c mp p { s with e := chkRoots p s.e } → Fr h h' c mp → Q (.tup []) h') : Cal X n_code_checker_roots [.ptr c 0] h Q := by
  refine Cal.go (u_code_checker_roots _ _ rfl) ?_
  rw [b_code_checker_roots]
  have gk := k.gc
  simp [gk, lenSl_val]
  refine cons_w (xs := p.cons) hc k (by simp) (by simp) (by simp) (by simp) fun e1 h1 k1 f1 g0 => ?_
  have g1 := k1.gc
  simp [g0, g1, lenSl_val]
  refine globs_w (xs := p.globals) hg k1 (by simp [g0]) (by simp) (by simp) (by simp) fun e2 h2 k2 f2 g0 => ?_
  have g2 := k2.gc
  simp [g0, g2, lenSl_val]
  refine in_w ?_
  generalize hE : chkGlobals p p.globals.list (chkCons p.cons.list s.e) = E at k2 g2
  simp only [hE] at g2 k2
  have hR : chkRoots p s.e = chkMain p E := by simp only [chkRoots, hE]
  rw [hR] at hq
  by_cases hb : below p.main (len p.globals) = true
  · obtain ⟨j, y, hj, hy, ha⟩ := at_of hb
    obtain ⟨w, a2⟩ := addr_val PGlobal.enc 3 (fun _ => rfl) p.globals j y hy
    simp only [PGlobal.enc] at a2
    have hbj := hb
    rw [hj] at hbj
    simp [hb, hbj, g0, g2, hj, a2]
    refine ask_w k2 (by decide) fun h3 k3 f3 => ?_
    have g3 := k3.gc
    have hm : chkMain p E = if need E (decide (0 ≤ y.code)) 1 ≠ 0 then need E (decide (0 ≤ y.code)) 1 else (match at' p.codes y.code with | none => need E (decide (0 ≤ y.code)) 1 | some c => need (need E (decide (0 ≤ y.code)) 1) (decide (c.args = 0)) 1) := by
      simp only [chkMain, hb, ha]
      rw [need_keep (e := E) (.inl rfl)]
      by_cases hE0 : E = 0
      · simp [hE0]; rfl
      · rw [if_pos hE0, need_ne hE0, if_pos hE0]
    rw [hm] at hq
    by_cases hz : need E (decide (0 ≤ y.code)) 1 = 0
    · obtain ⟨hE0, hy0⟩ := (need_zero (by decide)).1 hz
      have hy0 : 0 ≤ y.code := by simpa using hy0
      have hgo := chkGlobals_zero p.globals.list (hE.trans hE0) y (List.mem_of_getElem? hy)
      obtain ⟨hb2, y2, ha2, _⟩ := global_at hgo hy0
      obtain ⟨j2, y3, hj2, hy3, ha3⟩ := at_of hb2
      rw [ha2] at ha3; injection ha3 with ha3; subst ha3
      obtain ⟨w2, a3⟩ := addr_val PCode.enc 4 (fun _ => rfl) p.codes j2 y2 hy3
      simp only [PCode.enc] at a3
      have hm2 : need E (decide (0 ≤ (j2 : Int))) 1 = 0 := by rw [← hj2]; exact hz
      rw [hj2] at a2
      have hm3 : need E true 1 = 0 := by rw [hE0]; rfl
      simp [hz, hm2, hm3, g0, g3, hj, a2, hj2, a3]
      refine ask_w k3 (by decide) fun h4 k4 f4 => ?_
      simp
      simp only [hz, ne_eq, not_true_eq_false, if_false, ha2] at hq
      simp only [hz] at k4
      exact hq _ k4 (((f1.trans f2).trans f3).trans f4)
    · simp [hz]
      simp only [if_pos hz] at hq
      exact hq _ k3 ((f1.trans f2).trans f3)
  · have hm : chkMain p E = need E false 1 := by
      have hbf : below p.main (len p.globals) = false := by simpa using hb
      simp only [chkMain, hbf]
      rw [if_pos]
      intro h; have := (need_zero (by decide)).1 h; simp at this
    rw [hm] at hq
    simp [hb, g0]
    refine ask_w k2 (by decide) fun h3 k3 f3 => ?_
    have hz : need E false 1 ≠ 0 := by intro h; have := (need_zero (by decide)).1 h; simp at this
    simp [hz]
    exact hq _ k3 ((f1.trans f2).trans f3)

theorem ok_w {n : Int} {h : Heap} {Q : AVal → Heap → Prop} (hq : Q (.bool (decide (0 ≤ n ∧ n ≤ 64))) h) : Cal X n_code_checker_code_1 [I n] h Q := by
  refine Cal.go (u_code_checker_code_1 _ _ rfl) ?_
  rw [b_code_checker_code_1]
  by_cases h1 : 0 ≤ n
  · simpa [h1] using hq
  · simpa [h1] using hq

theorem code_w (hp : PB p) (hnl : len p.nodes ≤ 4096) {k : Nat} {x : PCode} (hx : p.codes.list[k]? = some x) {Q : AVal → Heap → Prop} (kk : CkAt false h c mp p s)
    (hq : ∀ h', CkAt false h' c mp p (chkCode p x s) → Fr h h' c mp → Q (.tup []) h') : Cal X n_code_checker_code [.ptr c 0, I k] h Q := by
  refine Cal.go (u_code_checker_code _ _ rfl) ?_
  rw [b_code_checker_code]
  obtain ⟨nm, fr, ar, nd⟩ := x
  obtain ⟨w, a1⟩ := addr_val PCode.enc 4 (fun _ => rfl) p.codes k _ hx
  simp only [PCode.enc] at a1
  obtain ⟨kA, fA, oA⟩ := kk.fill (Blk.ofL [.str [], I 0, I 0, I 0]) (Blk.ofL [.str nm, I fr, I ar, I nd])
  have gk := kk.gc
  have og := oA.get
  simp [gk, a1, og]
  refine ok_w ?_
  by_cases h1 : 0 ≤ fr ∧ fr ≤ 64
  · simp [h1, og]
    refine ok_w ?_
    simp
    refine ask_w kA (by decide) fun h2 k2 f2 => ?_
    have og2 := (oA.fr f2).get
    have hdd : (decide (0 ≤ ar) && decide (ar ≤ 64)) = decide (0 ≤ ar ∧ ar ≤ 64) := (Bool.decide_and _ _).symm
    rw [hdd] at k2
    have g2 := k2.gc
    have he : decide (0 ≤ fr ∧ fr ≤ 64 ∧ 0 ≤ ar ∧ ar ≤ 64) = decide (0 ≤ ar ∧ ar ≤ 64) := by simp [h1]
    by_cases hz : need s.e (decide (0 ≤ ar ∧ ar ≤ 64)) 1 = 0
    · obtain ⟨_, hd⟩ := (need_zero (by decide)).1 hz
      have hd : 0 ≤ ar ∧ ar ≤ 64 := by simpa using hd
      have hw : IntKind.i64.wrap (fr + ar) = fr + ar := wrap_small (by omega) (by omega)
      simp only [chkCode, he, hz, if_true] at hq
      simp only [hz] at k2
      have hzz : need s.e (decide (0 ≤ ar) && decide (ar ≤ 64)) 1 = 0 := by rw [hdd]; exact hz
      simp [hzz, og2, g2, lenSl_val, hw]
      have hl0 : 0 ≤ len p.nodes := by simp only [len]; omega
      refine (node_w hp (by omega) (len p.nodes).toNat).ok k2 (by omega) (fun _ => ⟨by omega, by simp only [Bd]; omega⟩) fun h3 k3 f3 => ?_
      simp
      exact hq h3 k3 ((fA.trans f2).trans f3)
    · simp only [chkCode, he, if_neg hz] at hq
      have hzz : ¬ need s.e (decide (0 ≤ ar) && decide (ar ≤ 64)) 1 = 0 := by rw [hdd]; exact hz
      simp [hzz]
      exact hq h2 k2 (fA.trans f2)
  · simp [h1, og]
    refine ask_w kA (by decide) fun h2 k2 f2 => ?_
    have he : decide (0 ≤ fr ∧ fr ≤ 64 ∧ 0 ≤ ar ∧ ar ≤ 64) = false := by simp; intro h2 h3; exact absurd ⟨h2, h3⟩ h1
    have hz : need s.e false 1 ≠ 0 := by intro h; have := (need_zero (by decide)).1 h; simp at this
    simp only [chkCode, he, if_neg hz] at hq
    simp [hz]
    exact hq h2 k2 (fA.trans f2)

theorem codes_w (hp : PB p) (hnl : len p.nodes ≤ 4096) (hcl : len p.codes < 4611686018427387904) {b : Pos} {e : Env} {Q : XExit → Env → Heap → Prop} (k : CkAt false h c mp p s)
    (g4 : getE e (tt 4) = .ptr c 0) (g23 : getE e (tt 23) = I (len p.codes)) (g24 : getE e (tt 24) = I 0)
    (hq : ∀ x e' h', CkAt false h' c mp p (chkCodes p p.codes.list s) → Fr h h' c mp → ((x = .exit 0 ∧ (s.e = 0 → (chkCodes p p.codes.list s).e = 0)) ∨ (x = .ret ∧ (chkCodes p p.codes.list s).e ≠ 0 ∧ getE e' (tt 2) = I (chkCodes p p.codes.list s).e ∧ ∃ j : Int, getE e' (tt 3) = I j)) → Q x e' h') :
    Run X (.loop b_code_Check_L0) e h Q := by
  obtain ⟨J, hJ⟩ : ∃ J : Nat → Env → Heap → Prop, ∀ k e1 h1, J k e1 h1 ↔ ∃ (i : Nat) (s1 : St), k = p.codes.list.length - i ∧ i ≤ p.codes.list.length ∧ getE e1 (tt 24) = I i ∧ CkAt false h1 c mp p s1 ∧ (s.e = 0 → s1.e = 0) ∧ chkCodes p (p.codes.list.drop i) s1 = chkCodes p p.codes.list s ∧ Fr h h1 c mp ∧ (∀ t : Nat, t = 4 ∨ t = 23 → getE e1 (tt t) = getE e (tt t)) := ⟨_, fun _ _ _ => Iff.rfl⟩
  refine Run.loop J (fun k e1 h1 hk => ?_) p.codes.list.length ((hJ _ _ _).2 ⟨0, s, by omega, by omega, g24, k, id, rfl, Fr.refl _ _ _, fun _ _ => rfl⟩)
  obtain ⟨i, s1, rfl, hi, g24, k1, hse, hr, f1, ge⟩ := (hJ _ _ _).1 hk
  rw [b_code_Check_L0]
  by_cases hil : i < p.codes.list.length
  · obtain ⟨x, hx, hd⟩ := drop_at hil
    have hi' : (i : Int) < len p.codes := by simp only [len]; omega
    have hw : IntKind.i64.wrap ((i : Int) + 1) = ((i + 1 : Nat) : Int) := by rw [wrap_small (by omega) (by omega)]; omega
    rw [hd] at hr
    simp [g24, ge, g4, g23, hi']
    refine code_w hp hnl hx k1 fun h2 k2 f2 => ?_
    have g2 := k2.gc
    by_cases hz : (chkCode p x s1).e = 0
    · simp [ge, g4, g2, hz, g24, hw]
      refine ⟨p.codes.list.length - (i + 1), by omega, (hJ _ _ _).2 ⟨i + 1, _, rfl, by omega, by simp, k2, fun _ => hz, ?_, f1.trans f2, fun t ht => ?_⟩⟩
      · rw [← hr]; simp [chkCodes, hz]
      · simp
        repeat rw [if_neg (by omega)]
        exact ge t ht
    · simp [ge, g4, g2, hz, g24, hw]
      have : chkCodes p p.codes.list s = chkCode p x s1 := by rw [← hr]; simp [chkCodes, hz]
      rw [this] at hq
      exact hq _ _ _ k2 (f1.trans f2) (.inr ⟨rfl, hz, by simp, i, by simp⟩)
  · have hi' : ¬ (i : Int) < len p.codes := by simp only [len]; omega
    have hil : i = p.codes.list.length := by omega
    subst hil
    simp [g24, ge, g23, hi']
    have : chkCodes p p.codes.list s = s1 := by rw [← hr]; simp [chkCodes]
    rw [this] at hq
    exact hq _ _ _ k1 f1 (.inl ⟨rfl, hse⟩)

/-- a heap in which all that was stays -/
structure Kept (h h' : Heap) : Prop where
  next : h.next.val ≤ h'.next.val
  get : ∀ q : Pos, q.val < h.next.val → h'.get q = h.get q
theorem Kept.refl (h : Heap) : Kept h h := ⟨Nat.le_refl _, fun _ _ => rfl⟩
theorem Kept.trans {h h1 h2 : Heap} (a : Kept h h1) (b : Kept h1 h2) : Kept h h2 :=
  ⟨Nat.le_trans a.next b.next, fun q hq => (b.get q (Nat.lt_of_lt_of_le hq a.next)).trans (a.get q hq)⟩
theorem Kept.new {h h' : Heap} (k : Kept h h') (x : Blk) : Kept h (h'.new x) :=
  ⟨by rw [S.new_next, pv]; have := k.next; omega, fun q hq => by rw [S.get_new_ne _ _ _ (Nat.lt_of_lt_of_le hq k.next)]; exact k.get q hq⟩
theorem Kept.put {h h' : Heap} (k : Kept h h') {b : Pos} (x : Blk) (hb : h.next.val ≤ b.val) : Kept h (h'.put b x) :=
  ⟨k.next, fun q hq => by rw [S.get_put_ne _ _ _ _ (by omega)]; exact k.get q hq⟩
theorem Kept.fr {h h1 h2 : Heap} {c mp : Pos} (k : Kept h h1) (f : Fr h1 h2 c mp) (hc : h.next.val ≤ c.val) (hm : h.next.val ≤ mp.val) : Kept h h2 :=
  ⟨Nat.le_trans k.next f.next, fun q hq => by rw [f.get q (Nat.lt_of_lt_of_le hq k.next) (by omega) (by omega)]; exact k.get q hq⟩

/-- a program as it comes in -/
structure PIn (p : PProg) : Prop where
  cons : len p.cons < 4611686018427387904
  codes : len p.codes < 4611686018427387904
  nodes : len p.nodes ≤ 4096
  globals : len p.globals < 4611686018427387904
  cl : ∀ n ∈ p.nodes.list, len n.clos ≤ 140737488355328
  ag : ∀ n ∈ p.nodes.list, len n.args < 4611686018427387904
  br : ∀ n ∈ p.nodes.list, len n.brs < 4611686018427387904
  cp : ∀ n ∈ p.nodes.list, ∀ x ∈ n.clos.list, len x.caps < 4611686018427387904

theorem chkMain_zero {e : Int} (h : chkMain p e = 0) : e = 0 := by
  refine Classical.byContradiction fun hne => ?_
  simp only [chkMain, need_ne hne] at h
  rw [if_pos hne] at h; exact hne h
theorem pb_of (hi : PIn p) (h : chkRoots p 0 = 0) : PB p := by
  have h1 := chkMain_zero h
  have h2 : chkCons p.cons.list 0 = 0 := Classical.byContradiction fun hne => by
    rw [chkGlobals_ne _ hne] at h1; exact hne h1
  exact ⟨chkCons_zero _ h2, hi.cl, hi.ag, hi.br, hi.cp⟩

theorem check_w (hi : PIn p) {h : Heap} {Q : AVal → Heap → Prop} (hq : ∀ h' (j : Int), Kept h h' → (chk p = 0 → j = 0) → Q (.tup [I (chk p), I j]) h') : Cal X n_code_Check [.agg p.enc] h Q := by
  refine Cal.go (u_code_Check _ _ rfl) ?_
  rw [b_code_Check]
  have hpe : p.enc = [p.cons.val PCon.enc, p.codes.val PCode.enc, p.nodes.val PNode.enc, p.globals.val PGlobal.enc, I p.main] := rfl
  have e0 : Blk.ofL p.enc = Blk.ofL [p.cons.val PCon.enc, p.codes.val PCode.enc, p.nodes.val PNode.enc, p.globals.val PGlobal.enc, I p.main] := rfl
  obtain ⟨h1, hh1⟩ : ∃ h1, h.new (Blk.ofL [p.cons.val PCon.enc, p.codes.val PCode.enc, p.nodes.val PNode.enc, p.globals.val PGlobal.enc, I p.main]) = h1 := ⟨_, rfl⟩
  have n1 : h1.next = h.next.succ := by rw [← hh1]; simp
  have k0 : CkAt false ((h1.new (.map [])).new (ckBlk false p h1.next 0 0)) h1.next.succ h1.next p { e := 0, sl := 0, seen := [] } :=
    ⟨by simp [pv], by simp [pv]; omega, by simp [pv], by simp, by rw [S.get_new_ne _ _ _ (by simp [pv])]; simp [seenL]⟩
  have kb : Kept h ((h1.new (.map [])).new (ckBlk false p h1.next 0 0)) := by rw [← hh1]; exact (((Kept.refl h).new _).new _).new _
  have hcl : h.next.val ≤ h1.next.succ.val := by rw [n1]; simp [pv]; omega
  have hml : h.next.val ≤ h1.next.val := by rw [n1]; simp [pv]
  have b1 : ((h1.new (.map [])).new (ckBlk false p h1.next 0 0)).get h.next = some (Blk.ofL [p.cons.val PCon.enc, p.codes.val PCode.enc, p.nodes.val PNode.enc, p.globals.val PGlobal.enc, I p.main]) := by
    rw [S.get_new_ne _ _ _ (by simp [n1, pv]; omega), S.get_new_ne _ _ _ (by simp [n1, pv]), ← hh1]; simp
  have o1 : Own ((h1.new (.map [])).new (ckBlk false p h1.next 0 0)) h.next (Blk.ofL [p.cons.val PCon.enc, p.codes.val PCode.enc, p.nodes.val PNode.enc, p.globals.val PGlobal.enc, I p.main]) h1.next.succ h1.next :=
    ⟨by simp [n1, pv]; omega, by simp [n1, pv]; omega, by simp [n1, pv], b1⟩
  have b0 : h1.get h.next = some (Blk.ofL [p.cons.val PCon.enc, p.codes.val PCode.enc, p.nodes.val PNode.enc, p.globals.val PGlobal.enc, I p.main]) := by rw [← hh1]; simp
  simp [hpe, lenSl_val, scalar_val, hh1, b0]
  refine roots_w hi.cons hi.globals k0 fun h2 k2 f2 => ?_
  have g2 := k2.gc
  have kb2 := kb.fr f2 hcl hml
  by_cases hz : chkRoots p 0 = 0
  · have hp := pb_of hi hz
    simp only [hz] at k2
    have og2 := (o1.fr f2).get
    simp [g2, hz, og2, lenSl_val]
    refine codes_w (b := h.next) hp hi.nodes hi.codes k2 (by simp) (by simp) (by simp) fun x e' h' k3 f3 hx => ?_
    have kb3 := kb2.fr f3 hcl hml
    have hck : chk p = (chkCodes p p.codes.list { e := 0, sl := 0, seen := [] }).e := by simp [chk, hz]
    rcases hx with ⟨rfl, hx⟩ | ⟨rfl, hx, e2, j, e3⟩
    · simp
      have := hq h' 0 kb3 fun _ => rfl
      rw [hck, hx rfl] at this
      exact this
    · simp [e2, e3]
      have := hq h' j kb3 fun hc => absurd (hck.symm.trans hc) hx
      rw [hck] at this
      exact this
  · simp [g2, hz]
    have hck : chk p = chkRoots p 0 := by simp [chk, hz]
    have := hq h2 (-1) kb2 fun hc => absurd (hck.symm.trans hc) hz
    rw [hck] at this
    exact this
end
end Go.Tw
end

section
open Go Go.Av Go.Ck
namespace Go.Tw
set_option linter.unusedSimpArgs false
set_option linter.unusedVariables false
section
variable {z : Bool} {h : Heap} {c mp : Pos} {p : PProg} {s : St}

abbrev nB (n : PNode) : Blk := Blk.ofL [I n.op, I n.n, .bool n.f.g, I n.f.n, n.args.val PAtom.enc, n.clos.val PClos.enc, I n.kid, n.brs.val PBranch.enc]

theorem count14_w {n : PNode} {Q : AVal → Heap → Prop} (k : CkAt true h c mp p s)
    (hq : ∀ h', CkAt true h' c mp p { s with e := chkCount n s.e } → Fr h h' c mp → Q (.tup []) h') : Cal X n_ref14_C_count [.ptr c 0, .agg n.enc] h Q := by
  refine Cal.go (u_ref14_C_count _ _ rfl) ?_
  rw [b_ref14_C_count]
  obtain ⟨op, nn, ff, ar, cl, kd, br⟩ := n
  have hne : PNode.enc ⟨op, nn, ff, ar, cl, kd, br⟩ = [I op, I nn, .bool ff.g, I ff.n, ar.val PAtom.enc, cl.val PClos.enc, I kd, br.val PBranch.enc] := rfl
  obtain ⟨k1, f1, o1⟩ := k.box (nB ⟨op, nn, ff, ar, cl, kd, br⟩)
  have og := o1.get
  by_cases o3 : op = 3
  · subst o3
    have fin : ∀ {d : Bool} {h2 : Heap} {w : Int}, d = decide (0 ≤ nn ∧ nn ≤ 14) → w = (if 13 ≤ nn then 1 else 2) → CkAt true h2 c mp p { s with e := need (need s.e d 1) (decide (len ar = w)) 11 } → CkAt true h2 c mp p { s with e := chkCount ⟨3, nn, ff, ar, cl, kd, br⟩ s.e } := by
      rintro d h2 w rfl rfl k2
      simpa [chkCount] using k2
    by_cases r1 : 0 ≤ nn
    · simp [hne, og, lenSl_val, r1]
      refine need_w k1 (by decide) fun h2 k2 f2 => ?_
      have og2 := (o1.fr f2).get
      by_cases r13 : 13 ≤ nn
      · simp [og2, lenSl_val, r13]
        refine need_w k2 (by decide) fun h3 k3 f3 => ?_
        simp
        exact hq h3 (fin (by simp [r1]) (by simp [r13]) k3) ((f1.trans f2).trans f3)
      · simp [og2, lenSl_val, r13]
        refine need_w k2 (by decide) fun h3 k3 f3 => ?_
        simp
        exact hq h3 (fin (by simp [r1]) (by simp [r13]) k3) ((f1.trans f2).trans f3)
    · simp [hne, og, lenSl_val, r1]
      refine need_w k1 (by decide) fun h2 k2 f2 => ?_
      have og2 := (o1.fr f2).get
      have r13 : ¬ 13 ≤ nn := by omega
      simp [og2, lenSl_val, r13]
      refine need_w k2 (by decide) fun h3 k3 f3 => ?_
      simp
      exact hq h3 (fin (by simp [r1]) (by simp [r13]) k3) ((f1.trans f2).trans f3)
  · by_cases o4 : op = 4
    · subst o4
      simp [hne, og, lenSl_val]
      refine need_w k1 (by decide) fun h2 k2 f2 => ?_
      simp
      exact hq h2 (by simpa [chkCount] using k2) (f1.trans f2)
    · by_cases o5 : op = 5
      · subst o5
        simp [hne, og, lenSl_val]
        refine need_w k1 (by decide) fun h2 k2 f2 => ?_
        simp
        exact hq h2 (by simpa [chkCount] using k2) (f1.trans f2)
      · simp [hne, og, lenSl_val, o3, o4, o5]
        refine need_w k1 (by decide) fun h2 k2 f2 => ?_
        simp
        exact hq h2 (by simpa [chkCount, o3, o4, o5] using k2) (f1.trans f2)

theorem caps14_w {slots more : Int} {n : PNode} {co : Int} {cs : Sl Int} (hlen : len cs < 4611686018427387904) (hmore : IntKind.i64.wrap (slots + len n.clos) = more) {e : Env} {b b7 : Pos} {Q : XExit → Env → Heap → Prop} (k : CkAt true h c mp p s)
    (o : Own h b (nB n) c mp) (o7 : Own h b7 (Blk.ofL [I co, cs.val fun n => [I n]]) c mp)
    (g0 : getE e (tt 0) = .ptr c 0) (g2 : getE e (tt 2) = I slots) (g4 : getE e (tt 4) = .ptr b 0) (g7 : getE e (tt 7) = .ptr b7 0) (g8 : getE e (tt 8) = I 0)
    (hq : ∀ e' h', CkAt true h' c mp p { s with e := chkCaps more cs.list s.e } → Fr h h' c mp → (∀ t : Nat, t < 8 → getE e' (tt t) = getE e (tt t)) → Q (.exit 2) e' h') :
    Run X (.loop b_ref14_C_clos_L0) e h Q := by
  obtain ⟨J, hJ⟩ : ∃ J : Nat → Env → Heap → Prop, ∀ k e1 h1, J k e1 h1 ↔ ∃ (i : Nat) (e2 : Int), k = cs.list.length - i ∧ i ≤ cs.list.length ∧ getE e1 (tt 8) = I i ∧ CkAt true h1 c mp p { s with e := e2 } ∧ chkCaps more (cs.list.drop i) e2 = chkCaps more cs.list s.e ∧ Fr h h1 c mp ∧ (∀ t : Nat, t < 8 → getE e1 (tt t) = getE e (tt t)) := ⟨_, fun _ _ _ => Iff.rfl⟩
  refine Run.loop J (fun k e1 h1 hk => ?_) cs.list.length ((hJ _ _ _).2 ⟨0, s.e, by omega, by omega, g8, k, rfl, Fr.refl _ _ _, fun _ _ => rfl⟩)
  obtain ⟨i, e2, rfl, hi, g8, k1, hr, f1, ge⟩ := (hJ _ _ _).1 hk
  have og := (o.fr f1).get
  have og7 := (o7.fr f1).get
  rw [b_ref14_C_clos_L0]
  by_cases hil : i < cs.list.length
  · obtain ⟨x, hx, hd⟩ := drop_at hil
    obtain ⟨q, a1⟩ := addr_val (fun n => [I n]) 1 (fun _ => rfl) cs i x hx
    have hi' : (i : Int) < len cs := by simp only [len]; omega
    have hw : IntKind.i64.wrap ((i : Int) + 1) = ((i + 1 : Nat) : Int) := by rw [wrap_small (by omega) (by omega)]; omega
    simp [g8, ge, g0, g2, g4, g7, og, og7, lenSl_val, hi', a1, hmore]
    refine below_w ?_
    simp
    refine need_w k1 (by decide) fun h2 k2 f2 => ?_
    simp [g8, hw]
    refine ⟨cs.list.length - (i + 1), by omega, (hJ _ _ _).2 ⟨i + 1, _, rfl, by omega, by simp, k2, ?_, f1.trans f2, fun t ht => ?_⟩⟩
    · rw [← hr, hd]; rfl
    · simp
      repeat rw [if_neg (by omega)]
      exact ge t ht
  · have hi' : ¬ (i : Int) < len cs := by simp only [len]; omega
    have hil : i = cs.list.length := by omega
    subst hil
    simp [g8, ge, g7, og7, lenSl_val, hi']
    refine hq _ _ ?_ f1 fun t ht => ?_
    · have : chkCaps more cs.list s.e = e2 := by rw [← hr]; simp [chkCaps]
      rw [this]; exact k1
    · simp
      repeat rw [if_neg (by omega)]
      exact ge t ht

theorem clos14_w {slots more : Int} {n : PNode} (hlen : len n.clos < 4611686018427387904) (hcaps : ∀ x ∈ n.clos.list, len x.caps < 4611686018427387904) (hmore : IntKind.i64.wrap (slots + len n.clos) = more) {Q : AVal → Heap → Prop} (k : CkAt true h c mp p s)
    (hq : ∀ h', CkAt true h' c mp p { s with e := chkClos p more n.clos.list s.e } → Fr h h' c mp → Q (.tup []) h') :
    Cal X n_ref14_C_clos [.ptr c 0, .agg n.enc, I slots] h Q := by
  refine Cal.go (u_ref14_C_clos _ _ rfl) ?_
  rw [b_ref14_C_clos]
  have hne : n.enc = [I n.op, I n.n, .bool n.f.g, I n.f.n, n.args.val PAtom.enc, n.clos.val PClos.enc, I n.kid, n.brs.val PBranch.enc] := rfl
  obtain ⟨k0, f0, o⟩ := k.box (nB n)
  simp [hne]
  generalize hE : (pe 6 (AVal.int IntKind.i64 0) _ : Env) = e
  have g0 : getE e (tt 0) = .ptr c 0 := by rw [← hE]; simp
  have g2 : getE e (tt 2) = I slots := by rw [← hE]; simp
  have g4 : getE e (tt 4) = .ptr h.next 0 := by rw [← hE]; simp
  have g6 : getE e (tt 6) = I 0 := by rw [← hE]; simp
  obtain ⟨J, hJ⟩ : ∃ J : Nat → Env → Heap → Prop, ∀ k e1 h1, J k e1 h1 ↔ ∃ (i : Nat) (e2 : Int), k = n.clos.list.length - i ∧ i ≤ n.clos.list.length ∧ getE e1 (tt 6) = I i ∧ CkAt true h1 c mp p { s with e := e2 } ∧ chkClos p more (n.clos.list.drop i) e2 = chkClos p more n.clos.list s.e ∧ Fr (h.new (nB n)) h1 c mp ∧ (∀ t : Nat, t < 6 → getE e1 (tt t) = getE e (tt t)) := ⟨_, fun _ _ _ => Iff.rfl⟩
  refine Run.loop J (fun k e1 h1 hk => ?_) n.clos.list.length ((hJ _ _ _).2 ⟨0, s.e, by omega, by omega, g6, k0, rfl, Fr.refl _ _ _, fun _ _ => rfl⟩)
  obtain ⟨i, e2, rfl, hi, g6, k1, hr, f1, ge⟩ := (hJ _ _ _).1 hk
  have o1 := o.fr f1
  have og := o1.get
  have gk := k1.gc
  rw [b_ref14_C_clos_L1]
  by_cases hil : i < n.clos.list.length
  · obtain ⟨x, hx, hd⟩ := drop_at hil
    obtain ⟨q, a1⟩ := addr_val PClos.enc 2 (fun _ => rfl) n.clos i x hx
    have hcx := hcaps x (List.mem_of_getElem? hx)
    obtain ⟨co, cs⟩ := x
    simp only [PClos.enc] at a1
    have hi' : (i : Int) < len n.clos := by simp only [len]; omega
    have hw : IntKind.i64.wrap ((i : Int) + 1) = ((i + 1 : Nat) : Int) := by rw [wrap_small (by omega) (by omega)]; omega
    by_cases he : e2 = 0
    · subst he
      rw [hd] at hr
      obtain ⟨kA, fA, oA⟩ := k1.fill (Blk.ofL [I 0, .nils]) (Blk.ofL [I co, cs.val fun n => [I n]])
      have og7 := oA.get
      have gA := kA.gc
      simp [g6, ge, g0, g2, g4, og, gk, lenSl_val, hi', a1, scalar_val, og7, gA]
      refine below_w ?_
      simp
      refine need_w kA (by decide) fun h2 k2 f2 => ?_
      have o7 := oA.fr f2
      have og7 := o7.get
      have gk2 := k2.gc
      simp only [chkClos, ne_eq, not_true_eq_false, if_false] at hr
      have tail : ∀ {e3 : Int} {h3 : Heap} {e4 : Env}, CkAt true h3 c mp p { s with e := e3 } → Fr h1 h3 c mp → Own h3 h1.next (Blk.ofL [I co, cs.val fun n => [I n]]) c mp → chkClos p more (n.clos.list.drop (i + 1)) (chkCaps more cs.list e3) = chkClos p more n.clos.list s.e → (∀ t : Nat, t < 6 → getE e4 (tt t) = getE e (tt t)) → getE e4 (tt 6) = I i → getE e4 (tt 7) = .ptr h1.next 0 → getE e4 (tt 8) = I 0 →
          Run X (.loop b_ref14_C_clos_L0) e4 h3 (blockK 2 (blockK 1 (seqC X (.reg [
    pO 21 (.mv (tt 6)),
    pO 22 (.int .add .i64 (tt 21) (ii 1)),
    pO 6 (.mv (tt 22))]) (seqK (fun e' h' => ∃ j, j < n.clos.list.length - i ∧ J j e' h') (blockK 0 (outK [] false Q)))))) := by
        intro e3 h3 e4 k3 f3 o3 hr3 ge4 g46 g47 g48
        refine caps14_w (slots := slots) (more := more) (n := n) (co := co) (cs := cs) hcx hmore k3 (o1.fr f3) o3 (by rw [ge4 0 (by omega), g0]) (by rw [ge4 2 (by omega), g2]) (by rw [ge4 4 (by omega), g4]) g47 g48 fun e5 h5 k5 f5 ge5 => ?_
        simp [ge5, g46, hw]
        refine ⟨n.clos.list.length - (i + 1), by omega, (hJ _ _ _).2 ⟨i + 1, _, rfl, by omega, by simp, k5, hr3, (f1.trans f3).trans f5, fun t ht => ?_⟩⟩
        simp
        repeat rw [if_neg (by omega)]
        rw [ge5 t (by omega), ge4 t ht]
      by_cases hz : need 0 (below co (len p.codes)) 1 = 0
      · obtain ⟨hs, hbl⟩ := (need_zero (by decide)).1 hz
        obtain ⟨j, y, hj, hy, ha⟩ := at_of hbl
        obtain ⟨w, a2⟩ := addr_val PCode.enc 4 (fun _ => rfl) p.codes j y hy
        simp only [PCode.enc] at a2
        simp only [hz] at k2
        simp only [hz, if_true, ha] at hr
        have hzj := hz
        rw [hj] at hzj
        simp [hz, hzj, ge, g0, g6, gk2, og7, lenSl_val, a2, hj]
        refine need_w k2 (by decide) fun h3 k3 f3 => ?_
        simp
        refine tail k3 ((fA.trans f2).trans f3) (o7.fr f3) hr (fun t ht => ?_) (by simp [g6]) (by simp) (by simp)
        simp
        repeat rw [if_neg (by omega)]
        exact ge t ht
      · simp only [if_neg hz] at hr
        simp [hz, ge, g0, g6, gk2]
        refine tail k2 (fA.trans f2) o7 hr (fun t ht => ?_) (by simp [g6]) (by simp) (by simp)
        simp
        repeat rw [if_neg (by omega)]
        exact ge t ht
    · simp [g6, ge, g0, g2, g4, og, gk, lenSl_val, hi', he]
      refine hq _ ?_ (f0.trans f1)
      have : chkClos p more n.clos.list s.e = e2 := by rw [← hr, chkClos_ne _ he]
      rw [this]; exact k1
  · have hi' : ¬ (i : Int) < len n.clos := by simp only [len]; omega
    have hil : i = n.clos.list.length := by omega
    subst hil
    simp [g6, ge, g4, og, lenSl_val, hi']
    refine hq _ ?_ (f0.trans f1)
    have : chkClos p more n.clos.list s.e = e2 := by rw [← hr]; simp [chkClos]
    rw [this]; exact k1
end
end Go.Tw
end

section
open Go Go.Av Go.Ck
namespace Go.Tw
set_option linter.unusedSimpArgs false
set_option linter.unusedVariables false
section
variable {z : Bool} {h : Heap} {c mp : Pos} {p : PProg} {s : St}

theorem kid14_w {f : Nat} (hN : NodeW true n_ref14_C_Node p c mp f) : NodeW true n_ref14_C_kid p c mp f := by
  constructor
  intro at_ above slots s h Q k hab hsl hq
  refine Cal.go (u_ref14_C_kid _ _ rfl) ?_
  rw [b_ref14_C_kid]
  have gk := k.gc
  by_cases hs : s.e = 0
  · simp [gk, hs]
    refine hN.ok k hab hsl fun h2 k2 f2 => ?_
    simpa using hq h2 k2 f2
  · simp [gk, hs]
    rw [chkNode_ne hs] at hq
    exact hq h k (Fr.refl _ _ _)

theorem brs14_w {f : Nat} (hp : PB p) (hN : NodeW true n_ref14_C_kid p c mp f) {at_ slots : Int} (hat : at_ ≤ f) (hs0 : 0 ≤ slots) (hs1 : slots ≤ Bd (f + 1)) {n : PNode} (hlen : len n.brs < 4611686018427387904) {Q : AVal → Heap → Prop} (k : CkAt true h c mp p s)
    (hq : ∀ h', CkAt true h' c mp p (chkBranches p slots (fun k m s => chkNode p (f + 1) k at_ m s) n.brs.list s) → Fr h h' c mp → Q (.tup []) h') :
    Cal X n_ref14_C_branches [.ptr c 0, .agg n.enc, I at_, I slots] h Q := by
  refine Cal.go (u_ref14_C_branches _ _ rfl) ?_
  rw [b_ref14_C_branches]
  have hne : n.enc = [I n.op, I n.n, .bool n.f.g, I n.f.n, n.args.val PAtom.enc, n.clos.val PClos.enc, I n.kid, n.brs.val PBranch.enc] := rfl
  obtain ⟨k0, f0, o⟩ := k.box (nB n)
  simp [hne]
  generalize hE : (pe 8 (AVal.int IntKind.i64 0) _ : Env) = e
  have g0 : getE e (tt 0) = .ptr c 0 := by rw [← hE]; simp
  have g2 : getE e (tt 2) = I at_ := by rw [← hE]; simp
  have g3 : getE e (tt 3) = I slots := by rw [← hE]; simp
  have g5 : getE e (tt 5) = .ptr h.next 0 := by rw [← hE]; simp
  have g8 : getE e (tt 8) = I 0 := by rw [← hE]; simp
  obtain ⟨J, hJ⟩ : ∃ J : Nat → Env → Heap → Prop, ∀ k e1 h1, J k e1 h1 ↔ ∃ (i : Nat) (s1 : St), k = n.brs.list.length - i ∧ i ≤ n.brs.list.length ∧ getE e1 (tt 8) = I i ∧ CkAt true h1 c mp p s1 ∧ chkBranches p slots (fun k m s => chkNode p (f + 1) k at_ m s) (n.brs.list.drop i) s1 = chkBranches p slots (fun k m s => chkNode p (f + 1) k at_ m s) n.brs.list s ∧ Fr (h.new (nB n)) h1 c mp ∧ (∀ t : Nat, t < 6 → getE e1 (tt t) = getE e (tt t)) := ⟨_, fun _ _ _ => Iff.rfl⟩
  refine Run.loop J (fun k e1 h1 hk => ?_) n.brs.list.length ((hJ _ _ _).2 ⟨0, s, by omega, by omega, g8, k0, rfl, Fr.refl _ _ _, fun _ _ => rfl⟩)
  obtain ⟨i, s1, rfl, hi, g8, k1, hr, f1, ge⟩ := (hJ _ _ _).1 hk
  have o1 := o.fr f1
  have og := o1.get
  have gk := k1.gc
  rw [b_ref14_C_branches_L0]
  by_cases hil : i < n.brs.list.length
  · obtain ⟨x, hx, hd⟩ := drop_at hil
    obtain ⟨q, a1⟩ := addr_val PBranch.enc 4 (fun _ => rfl) n.brs i x hx
    obtain ⟨kd, nn, ar, nd⟩ := x
    simp only [PBranch.enc] at a1
    have hi' : (i : Int) < len n.brs := by simp only [len]; omega
    have hw : IntKind.i64.wrap ((i : Int) + 1) = ((i + 1 : Nat) : Int) := by rw [wrap_small (by omega) (by omega)]; omega
    have B1 : Bd f = Bd (f + 1) + 281474976710656 := by simp only [Bd]; omega
    have B2 : Bd (f + 1) < 2305843009213693952 := by simp only [Bd]; omega
    have w1 : IntKind.i64.wrap (slots + 1) = slots + 1 := wrap_small (by omega) (by omega)
    by_cases he : s1.e = 0
    · rw [hd] at hr
      obtain ⟨kA, fA, oA⟩ := k1.fill (Blk.ofL [I 0, I 0, I 0, I 0]) (Blk.ofL [I kd, I nn, I ar, I nd])
      have oG := oA.get
      have kG := kA.gc
      by_cases k0 : kd = 0
      · subst k0
        simp [g8, ge, g0, g2, g3, g5, og, gk, he, lenSl_val, hi', a1, oG]
        refine con14_w kA fun h2 k2 f2 => ?_
        have og2 := (oA.fr f2).get
        simp [og2, ge, g0, g2, g3]
        refine hN.ok k2 hat (fun hc => ?_) fun h3 k3 f3 => ?_
        · obtain ⟨c1, c2⟩ := chkCon_zero hp hc
          have hwm : IntKind.i64.wrap (slots + ar) = slots + ar := wrap_small (by omega) (by omega)
          rw [hwm]; omega
        · simp [g8, hw]
          refine ⟨n.brs.list.length - (i + 1), by omega, (hJ _ _ _).2 ⟨i + 1, _, rfl, by omega, by simp, k3, ?_, ((f1.trans fA).trans f2).trans f3, fun t ht => ?_⟩⟩
          · rw [← hr]
            by_cases hc : chkCon p nn ar s1.e = 0
            · obtain ⟨c1, c2⟩ := chkCon_zero hp hc
              have hwm : IntKind.i64.wrap (slots + ar) = slots + ar := wrap_small (by omega) (by omega)
              rw [hwm]
              rw [he] at hc
              simp [chkBranches, he, hc]
            · rw [chkNode_ne (by exact hc)]
              rw [he] at hc
              simp only [chkBranches, he, ne_eq, not_true_eq_false, if_false, if_true, if_neg hc]
          · simp
            repeat rw [if_neg (by omega)]
            exact ge t ht
      · by_cases k1' : kd = 1
        · subst k1'
          simp [g8, ge, g0, g2, g3, g5, og, gk, he, lenSl_val, hi', a1, oG, kG]
          refine below_w ?_
          simp
          refine need_w kA (by decide) fun h2 k2 f2 => ?_
          have og2 := (oA.fr f2).get
          have gk2 := k2.gc
          by_cases hz : need s1.e (below nn (len p.globals)) 1 = 0
          · obtain ⟨_, hb⟩ := (need_zero (by decide)).1 hz
            obtain ⟨j, y, hj, hy, ha⟩ := at_of hb
            obtain ⟨w, a2⟩ := addr_val PGlobal.enc 3 (fun _ => rfl) p.globals j y hy
            simp only [PGlobal.enc] at a2
            subst hj
            simp only [hz] at k2
            simp [hz, og2, ge, g0, g2, g3, gk2, a2]
            refine need_w k2 (by decide) fun h3 k3 f3 => ?_
            have og3 := ((oA.fr f2).fr f3).get
            simp [og3, ge, g0, g2, g3]
            refine hN.ok k3 hat (fun hc => by omega) fun h4 k4 f4 => ?_
            simp [g8, hw]
            refine ⟨n.brs.list.length - (i + 1), by omega, (hJ _ _ _).2 ⟨i + 1, _, rfl, by omega, by simp, k4, ?_, (((f1.trans fA).trans f2).trans f3).trans f4, fun t ht => ?_⟩⟩
            · rw [← hr]
              rw [he] at hz
              by_cases hc : need 0 (decide (y.code < 0)) 1 = 0
              · simp [chkBranches, he, hz, ha, hc]
              · rw [chkNode_ne (by exact hc)]
                simp [chkBranches, he, hz, ha, hc]
            · simp
              repeat rw [if_neg (by omega)]
              exact ge t ht
          · simp [hz, og2, ge, g0, g2, g3, gk2]
            refine hN.ok k2 hat (fun hc => by omega) fun h4 k4 f4 => ?_
            simp [g8, hw]
            refine ⟨n.brs.list.length - (i + 1), by omega, (hJ _ _ _).2 ⟨i + 1, _, rfl, by omega, by simp, k4, ?_, ((f1.trans fA).trans f2).trans f4, fun t ht => ?_⟩⟩
            · rw [← hr, chkNode_ne (by exact hz)]
              rw [he] at hz
              simp [chkBranches, he, hz]
            · simp
              repeat rw [if_neg (by omega)]
              exact ge t ht
        · by_cases k2' : kd = 2
          · subst k2'
            simp [g8, ge, g0, g2, g3, g5, og, gk, he, lenSl_val, hi', a1, oG, w1]
            refine hN.ok kA hat (fun hc => by omega) fun h4 k4 f4 => ?_
            simp [g8, hw]
            refine ⟨n.brs.list.length - (i + 1), by omega, (hJ _ _ _).2 ⟨i + 1, _, rfl, by omega, by simp, k4, ?_, (f1.trans fA).trans f4, fun t ht => ?_⟩⟩
            · rw [← hr]
              have hs1' : ({ e := 0, sl := s1.sl, seen := s1.seen } : St) = s1 := by cases s1; simp only at he; subst he; rfl
              simp [chkBranches, he, hs1']
            · simp
              repeat rw [if_neg (by omega)]
              exact ge t ht
          · simp [g8, ge, g0, g2, g3, g5, og, gk, he, lenSl_val, hi', a1, oG, k0, k1', k2']
            refine need_w kA (by decide) fun h2 k2 f2 => ?_
            have og2 := (oA.fr f2).get
            simp [og2, ge, g0, g2, g3]
            refine hN.ok k2 hat (fun hc => by omega) fun h4 k4 f4 => ?_
            simp [g8, hw]
            refine ⟨n.brs.list.length - (i + 1), by omega, (hJ _ _ _).2 ⟨i + 1, _, rfl, by omega, by simp, k4, ?_, ((f1.trans fA).trans f2).trans f4, fun t ht => ?_⟩⟩
            · have hn0 : need s1.e false 6 = 6 := by rw [he]; rfl
              have hn1 : need 0 false 6 = 6 := rfl
              rw [← hr, hn0, chkNode_ne (by simp)]
              simp [chkBranches, he, k0, k1', k2', hn1]
            · simp
              repeat rw [if_neg (by omega)]
              exact ge t ht
    · simp [g8, ge, g0, g2, g3, g5, og, gk, lenSl_val, hi', he]
      refine hq _ ?_ (f0.trans f1)
      have : chkBranches p slots (fun k m s => chkNode p (f + 1) k at_ m s) n.brs.list s = s1 := by rw [← hr, chkBranches_ne _ he]
      rw [this]; exact k1
  · have hi' : ¬ (i : Int) < len n.brs := by simp only [len]; omega
    have hil : i = n.brs.list.length := by omega
    subst hil
    simp [g8, ge, g5, og, lenSl_val, hi']
    refine hq _ ?_ (f0.trans f1)
    have : chkBranches p slots (fun k m s => chkNode p (f + 1) k at_ m s) n.brs.list s = s1 := by rw [← hr]; simp [chkBranches]
    rw [this]; exact k1

theorem node14_tail {f : Nat} (hp : PB p) (hN : ∀ g, f = g + 1 → NodeW true n_ref14_C_kid p c mp g) {at_ slots e2 : Int} (h0 : 0 ≤ at_) (hat : at_ < f) (hs0 : 0 ≤ slots) (hs1 : slots ≤ Bd f) {n : PNode} (hn : n ∈ p.nodes.list) {b : Pos} {e : Env} {Q : XExit → Env → Heap → Prop} (k : CkAt true h c mp p { s with e := e2 }) (o : Own h b (nB n) c mp)
    (g0 : getE e (tt 0) = .ptr c 0) (g1 : getE e (tt 1) = I at_) (g3 : getE e (tt 3) = I slots) (g8 : getE e (tt 8) = .ptr b 0)
    (hq : ∀ x e' h', (x = .normal ∨ x = .ret) → CkAt true h' c mp p (chkRest p f at_ slots n s e2) → Fr h h' c mp → Q x e' h') : Run X b_ref14_C_Node_S8 e h Q := by
  obtain ⟨g, rfl⟩ : ∃ g, f = g + 1 := ⟨f - 1, by omega⟩
  have hN := hN g rfl
  have hat' : at_ ≤ g := by omega
  rw [b_ref14_C_Node_S8]
  simp only [chkRest] at hq
  have hne : n.enc = [I n.op, I n.n, .bool n.f.g, I n.f.n, n.args.val PAtom.enc, n.clos.val PClos.enc, I n.kid, n.brs.val PBranch.enc] := rfl
  have og := o.get
  simp
  refine args14_w (slots := slots) (n := n) (hp.ag n hn) k (by rw [hne]; exact o) (by simp [g0]) (by simp [g3]) (by simp [g8]) (by simp) fun e1 h1 k1 f1 ge' => ?_
  have ge : ∀ t : Nat, t < 9 → getE e1 (tt t) = getE e (tt t) := by
    intro t ht; rw [ge' t ht, g_put, if_neg (by omega)]
  have o1 := o.fr f1
  have og1 := o1.get
  simp [ge, g0, g8, og1]
  rw [← hne]
  refine count14_w k1 fun h2 k2 f2 => ?_
  have o2 := o1.fr f2
  have og2 := o2.get
  have gk2 := k2.gc
  have fr2 := f1.trans f2
  have B1 : Bd g = Bd (g + 1) + 281474976710656 := by simp only [Bd]; omega
  have B2 : Bd (g + 1) < 2305843009213693952 := by simp only [Bd]; omega
  by_cases he : chkCount n (chkArgs p slots n.args.list e2) ≠ 0
  · simp [ge, g0, gk2, he]
    exact hq _ _ _ (.inr rfl) (by simp only [if_pos he]; exact k2) fr2
  · have he : chkCount n (chkArgs p slots n.args.list e2) = 0 := by simpa using he
    simp only [he, ne_eq, not_true_eq_false, if_false] at hq
    simp only [he] at k2
    by_cases o2' : n.op = 2
    · simp [ge, g0, g1, g3, g8, gk2, he, og2, o2', lenSl_val]
      refine con14_w k2 fun h3 k3 f3 => ?_
      simp
      exact hq _ _ _ (.inl rfl) (by simp only [o2', if_true]; exact k3) (fr2.trans f3)
    · by_cases o6 : n.op = 6
      · have hne6 : ¬ (6 : Int) = 2 := by decide
        have hcl := hp.cl n hn
        have hc0 : 0 ≤ len n.clos := by simp only [len]; omega
        have hw : IntKind.i64.wrap (slots + len n.clos) = slots + len n.clos := wrap_small (by omega) (by omega)
        simp [ge, g0, g1, g3, g8, gk2, he, og2, o6, lenSl_val]
        rw [← o6, ← hne]
        refine clos14_w (by omega) (hp.cp n hn) hw k2 fun h3 k3 f3 => ?_
        have og3 := (o2.fr f3).get
        simp [ge, g0, g1, g3, g8, og3, lenSl_val, hw]
        refine hN.ok k3 hat' (fun _ => by omega) fun h4 k4 f4 => ?_
        simp
        refine hq _ _ _ (.inl rfl) ?_ ((fr2.trans f3).trans f4)
        simp only [o6, if_true, if_neg hne6]
        by_cases hz : chkClos p (slots + len n.clos) n.clos.list 0 = 0
        · rw [if_pos hz]; exact k4
        · rw [if_neg hz]; rw [chkNode_ne (by exact hz)] at k4; exact k4
      · by_cases o7 : n.op = 7
        · have hne7 : ¬ (7 : Int) = 2 := by decide
          have hne76 : ¬ (7 : Int) = 6 := by decide
          simp [ge, g0, g1, g3, g8, gk2, he, og2, o7, lenSl_val]
          refine hN.ok k2 hat' (fun _ => by omega) fun h3 k3 f3 => ?_
          have og3 := (o2.fr f3).get
          simp [ge, g0, g1, g3, g8, og3, lenSl_val]
          rw [← hne]
          refine brs14_w hp hN hat' hs0 hs1 (hp.br n hn) k3 fun h4 k4 f4 => ?_
          simp
          exact hq _ _ _ (.inl rfl) (by simp only [o7, if_true, if_neg hne7, if_neg hne76]; exact k4) ((fr2.trans f3).trans f4)
        · simp [ge, g0, g1, g3, g8, gk2, he, og2, o2', o6, o7, lenSl_val]
          exact hq _ _ _ (.inl rfl) (by simp only [if_neg o2', if_neg o6, if_neg o7]; exact k2) fr2
end
end Go.Tw
end

section
open Go Go.Av Go.Ck
namespace Go.Tw
set_option linter.unusedSimpArgs false
set_option linter.unusedVariables false
section
variable {z : Bool} {h : Heap} {c mp : Pos} {p : PProg} {s : St}

theorem node14_step {f : Nat} (hp : PB p) (hN : ∀ g, f = g + 1 → NodeW true n_ref14_C_kid p c mp g) : NodeW true n_ref14_C_Node p c mp f := by
  constructor
  intro at_ above slots s h Q k hab hsl hq
  refine Cal.go (u_ref14_C_Node _ _ rfl) ?_
  rw [b_ref14_C_Node]
  have gk := k.gc
  simp [gk, lenSl_val]
  refine below_w ?_
  -- wrong, or there is a fault already
  have bad : ∀ {d : Bool} {h2 : Heap}, (below at_ (len p.nodes) && decide (at_ < above)) = d → need s.e d 1 ≠ 0 → CkAt true h2 c mp p { s with e := need s.e d 1 } → Fr h h2 c mp → Q (.tup []) h2 := by
    rintro d h2 rfl hne k2 f2
    refine hq h2 ?_ f2
    have : chkNode p (f + 1) at_ above slots s = { s with e := need s.e (below at_ (len p.nodes) && decide (at_ < above)) 1 } := by
      simp only [chkNode]; rw [if_pos (.inl hne)]
    rw [this]; exact k2
  by_cases hbf : below at_ (len p.nodes) = false
  · simp [hbf]
    refine need_w k (by decide) fun h2 k2 f2 => ?_
    have hne : need s.e false 1 ≠ 0 := by intro h; have := (need_zero (by decide)).1 h; simp at this
    have g2 := k2.gc
    simp [g2, hne]
    exact bad (d := false) (by simp [hbf]) hne k2 f2
  have hb : below at_ (len p.nodes) = true := by simpa using hbf
  simp [hb]
  refine need_w k (by decide) fun h2 k2 f2 => ?_
  have g2 := k2.gc
  have m2 := k2.gm
  by_cases hne : need s.e (decide (at_ < above)) 1 ≠ 0
  · simp [g2, hne]
    exact bad (d := decide (at_ < above)) (by simp [hb]) hne k2 f2
  have hz : need s.e (decide (at_ < above)) 1 = 0 := by simpa using hne
  obtain ⟨hs, hlt⟩ := (need_zero (by decide)).1 hz
  have hlt : at_ < above := by simpa using hlt
  obtain ⟨hs0, hs1⟩ := hsl hs
  have k2' : CkAt true h2 c mp p s := by
    simp only [hz] at k2
    have : ({ e := 0, sl := s.sl, seen := s.seen } : St) = s := by cases s; simp only at hs; subst hs; rfl
    rw [this] at k2; exact k2
  simp only [] at m2
  obtain ⟨i, n, rfl, hn, hna⟩ := at_of hb
  have hnm := List.mem_of_getElem? hn
  by_cases hsn : ((i : Int), slots) ∈ s.seen
  · simp [hz, g2, m2, key_ok, find_seen, hsn]
    refine hq _ ?_ f2
    have : chkNode p (f + 1) i above slots s = s := by
      have h1 : need s.e (below (i : Int) (len p.nodes) && decide ((i : Int) < above)) 1 = 0 := by rw [hb, hs, decide_eq_true hlt]; rfl
      simp only [chkNode, h1, hsn, or_true, if_true]
      cases s; simp only at hs; subst hs; rfl
    rw [this]; exact k2'
  have hf0 : (0 : Int) ≤ i := by omega
  have hfl' : (i : Int) < f := by omega
  obtain ⟨q, a1⟩ := addr_val PNode.enc 8 (fun _ => rfl) p.nodes i n hn
  have hne : n.enc = [I n.op, I n.n, .bool n.f.g, I n.f.n, n.args.val PAtom.enc, n.clos.val PClos.enc, I n.kid, n.brs.val PBranch.enc] := rfl
  rw [hne] at a1
  have k3 := k2'.see (s.seen ++ [((i : Int), slots)])
  have f3 : Fr h2 (h2.put mp (.map (seenL (s.seen ++ [((i : Int), slots)])))) c mp := Fr.put (Fr.refl _ _ _) _ (.inr (.inr rfl))
  have g3 := k3.gc
  simp only [hs] at g3
  rw [chkNode_go hs hb hlt hsn hna] at hq
  -- behind the most slots
  have rest : ∀ {h4 : Heap} {e4 : Env}, CkAt true h4 c mp p { e := 0, sl := if s.sl < slots then slots else s.sl, seen := s.seen ++ [((i : Int), slots)] } → Fr h h4 c mp → getE e4 (tt 0) = .ptr c 0 → getE e4 (tt 1) = I i → getE e4 (tt 3) = I slots → Run X b_ref14_C_Node_S5 e4 h4 (outK [] false Q) := by
    intro h4 e4 k4 f4 e0 e1 e3
    rw [b_ref14_C_Node_S5]
    have g4 := k4.gc
    obtain ⟨k5, f5, o5⟩ := k4.fill (Blk.ofL [I 0, I 0, .bool false, I 0, .nils, .nils, I 0, .nils]) (nB n)
    have og5 := o5.get
    have fr5 := f4.trans f5
    have fin : ∀ {d : Bool} {h6 : Heap} {e6 : Env}, d = decide (1 ≤ n.op ∧ n.op ≤ 7) → CkAt true h6 c mp p { e := need 0 d 6, sl := if s.sl < slots then slots else s.sl, seen := s.seen ++ [((i : Int), slots)] } → Fr ((h4.new (Blk.ofL [I 0, I 0, .bool false, I 0, .nils, .nils, I 0, .nils])).put h4.next (nB n)) h6 c mp → getE e6 (tt 0) = .ptr c 0 → getE e6 (tt 1) = I i → getE e6 (tt 3) = I slots → getE e6 (tt 8) = .ptr h4.next 0 → Run X b_ref14_C_Node_S7 e6 h6 (outK [] false Q) := by
      intro d h6 e6 hd k6 f6 e60 e61 e63 e68
      rw [b_ref14_C_Node_S7]
      subst hd
      have o6 := o5.fr f6
      have og6 := o6.get
      by_cases o1 : n.op = 1
      · rw [if_pos o1] at hq
        simp [e60, e61, e63, e68, og6, o1]
        refine atom14_w (a := n.f) k6 fun h7 k7 f7 => ?_
        simp
        refine node14_tail (s := { e := 0, sl := if s.sl < slots then slots else s.sl, seen := s.seen ++ [((i : Int), slots)] }) (e2 := need (need 0 (decide (1 ≤ n.op ∧ n.op ≤ 7)) 6) (atomOk p slots n.f) 1) hp hN hf0 hfl' hs0 hs1 hnm k7 (o6.fr f7) (by simp [e60]) (by simp [e61]) (by simp [e63]) (by simp [e68]) fun x e' h' hx k8 f8 => ?_
        have := hq h' k8 (((fr5.trans f6).trans f7).trans f8)
        rcases hx with rfl | rfl <;> simpa using this
      · rw [if_neg o1] at hq
        simp [e60, e61, e63, e68, og6, o1]
        refine node14_tail (s := { e := 0, sl := if s.sl < slots then slots else s.sl, seen := s.seen ++ [((i : Int), slots)] }) (e2 := need 0 (decide (1 ≤ n.op ∧ n.op ≤ 7)) 6) hp hN hf0 hfl' hs0 hs1 hnm k6 o6 (by simp [e60]) (by simp [e61]) (by simp [e63]) (by simp [e68]) fun x e' h' hx k8 f8 => ?_
        have := hq h' k8 ((fr5.trans f6).trans f8)
        rcases hx with rfl | rfl <;> simpa using this
    by_cases r1 : 1 ≤ n.op
    · simp [e0, e1, e3, g4, a1, scalar_val, og5, r1]
      refine need_w k5 (by decide) fun h6 k6 f6 => ?_
      simp
      exact fin (d := decide (n.op ≤ 7)) (by simp [r1]) k6 f6 (by simp [e0]) (by simp [e1]) (by simp [e3]) (by simp)
    · simp [e0, e1, e3, g4, a1, scalar_val, og5, r1]
      refine need_w k5 (by decide) fun h6 k6 f6 => ?_
      simp
      exact fin (d := false) (by simp [r1]) k6 f6 (by simp [e0]) (by simp [e1]) (by simp [e3]) (by simp)
  by_cases hm : s.sl < slots
  · have k4 := k3.err s.e slots
    simp only [hs] at k4
    have f4 : Fr h2 ((h2.put mp (.map (seenL (s.seen ++ [((i : Int), slots)])))).put c (ckBlk true p mp 0 slots)) c mp := f3.put _ (.inr (.inl rfl))
    simp [hz, g2, m2, key_ok, find_seen, put_seen, hsn, g3, hm]
    refine rest (by rw [if_pos hm]; exact k4) (f2.trans f4) (by simp) (by simp) (by simp)
  · simp [hz, g2, m2, key_ok, find_seen, put_seen, hsn, g3, hm]
    have k3' := k3
    simp only [hs] at k3'
    refine rest (by rw [if_neg hm]; exact k3') (f2.trans f3) (by simp) (by simp) (by simp)
end
end Go.Tw
end

section
open Go Go.Av Go.Ck
namespace Go.Tw
set_option linter.unusedSimpArgs false
set_option linter.unusedVariables false
section
variable {z : Bool} {h : Heap} {c mp : Pos} {p : PProg} {s : St}

theorem node14_w (hp : PB p) : ∀ f, NodeW true n_ref14_C_Node p c mp f
  | 0 => node14_step hp fun g hg => by omega
  | f + 1 => node14_step hp fun g hg => by
    have : f = g := by omega
    subst this; exact kid14_w (node14_w hp f)

theorem cons14_w (hlen : len p.cons < 4611686018427387904) {e : Env} {Q : XExit → Env → Heap → Prop} (k : CkAt true h c mp p s)
    (g0 : getE e (tt 0) = .ptr c 0) (g2 : getE e (tt 2) = I 0)
    (hq : ∀ e' h', CkAt true h' c mp p { s with e := chkCons p.cons.list s.e } → Fr h h' c mp → getE e' (tt 0) = .ptr c 0 → Q (.exit 0) e' h') :
    Run X (.loop b_ref14_C_roots_L0) e h Q := by
  obtain ⟨J, hJ⟩ : ∃ J : Nat → Env → Heap → Prop, ∀ k e1 h1, J k e1 h1 ↔ ∃ (i : Nat) (e2 : Int), k = p.cons.list.length - i ∧ i ≤ p.cons.list.length ∧ getE e1 (tt 2) = I i ∧ CkAt true h1 c mp p { s with e := e2 } ∧ chkCons (p.cons.list.drop i) e2 = chkCons p.cons.list s.e ∧ Fr h h1 c mp ∧ getE e1 (tt 0) = .ptr c 0 := ⟨_, fun _ _ _ => Iff.rfl⟩
  refine Run.loop J (fun k e1 h1 hk => ?_) p.cons.list.length ((hJ _ _ _).2 ⟨0, s.e, by omega, by omega, g2, k, rfl, Fr.refl _ _ _, g0⟩)
  obtain ⟨i, e2, rfl, hi, g2, k1, hr, f1, g0⟩ := (hJ _ _ _).1 hk
  have gk := k1.gc
  rw [b_ref14_C_roots_L0]
  by_cases hil : i < p.cons.list.length
  · obtain ⟨x, hx, hd⟩ := drop_at hil
    obtain ⟨q, a1⟩ := addr_val PCon.enc 2 (fun _ => rfl) p.cons i x hx
    have hi' : (i : Int) < len p.cons := by simp only [len]; omega
    have hw : IntKind.i64.wrap ((i : Int) + 1) = ((i + 1 : Nat) : Int) := by rw [wrap_small (by omega) (by omega)]; omega
    rw [hd] at hr
    obtain ⟨nm, ar⟩ := x
    simp only [PCon.enc] at a1
    by_cases r0 : 0 ≤ ar
    · simp [g2, g0, gk, lenSl_val, hi', a1, r0]
      refine need_w k1 (by decide) fun h2 k2 f2 => ?_
      simp [g2, hw]
      exact ⟨p.cons.list.length - (i + 1), by omega, (hJ _ _ _).2 ⟨i + 1, _, rfl, by omega, by simp, k2, by rw [← hr]; simp [chkCons, r0], f1.trans f2, by simp [g0]⟩⟩
    · simp [g2, g0, gk, lenSl_val, hi', a1, r0]
      refine need_w k1 (by decide) fun h2 k2 f2 => ?_
      simp [g2, hw]
      exact ⟨p.cons.list.length - (i + 1), by omega, (hJ _ _ _).2 ⟨i + 1, _, rfl, by omega, by simp, k2, by rw [← hr]; simp [chkCons, r0], f1.trans f2, by simp [g0]⟩⟩
  · have hi' : ¬ (i : Int) < len p.cons := by simp only [len]; omega
    have hil : i = p.cons.list.length := by omega
    subst hil
    simp [g2, g0, gk, lenSl_val, hi']
    refine hq _ _ ?_ f1 (by simp [g0])
    have : chkCons p.cons.list s.e = e2 := by rw [← hr]; simp [chkCons]
    rw [this]; exact k1

theorem globs14_w (hlen : len p.globals < 4611686018427387904) {e : Env} {Q : XExit → Env → Heap → Prop} (k : CkAt true h c mp p s)
    (g0 : getE e (tt 0) = .ptr c 0) (g3 : getE e (tt 3) = I 0)
    (hq : ∀ e' h', CkAt true h' c mp p { s with e := chkGlobals p p.globals.list s.e } → Fr h h' c mp → getE e' (tt 0) = .ptr c 0 → Q (.exit 2) e' h') :
    Run X (.loop b_ref14_C_roots_L1) e h Q := by
  obtain ⟨J, hJ⟩ : ∃ J : Nat → Env → Heap → Prop, ∀ k e1 h1, J k e1 h1 ↔ ∃ (i : Nat) (e2 : Int), k = p.globals.list.length - i ∧ i ≤ p.globals.list.length ∧ getE e1 (tt 3) = I i ∧ CkAt true h1 c mp p { s with e := e2 } ∧ chkGlobals p (p.globals.list.drop i) e2 = chkGlobals p p.globals.list s.e ∧ Fr h h1 c mp ∧ getE e1 (tt 0) = .ptr c 0 := ⟨_, fun _ _ _ => Iff.rfl⟩
  refine Run.loop J (fun k e1 h1 hk => ?_) p.globals.list.length ((hJ _ _ _).2 ⟨0, s.e, by omega, by omega, g3, k, rfl, Fr.refl _ _ _, g0⟩)
  obtain ⟨i, e2, rfl, hi, g3, k1, hr, f1, g0⟩ := (hJ _ _ _).1 hk
  have gk := k1.gc
  rw [b_ref14_C_roots_L1]
  by_cases hil : i < p.globals.list.length
  · obtain ⟨x, hx, hd⟩ := drop_at hil
    obtain ⟨q, a1⟩ := addr_val PGlobal.enc 3 (fun _ => rfl) p.globals i x hx
    have hi' : (i : Int) < len p.globals := by simp only [len]; omega
    have hw : IntKind.i64.wrap ((i : Int) + 1) = ((i + 1 : Nat) : Int) := by rw [wrap_small (by omega) (by omega)]; omega
    rw [hd] at hr
    obtain ⟨co, fl, bt⟩ := x
    obtain ⟨kA, fA, oA⟩ := k1.fill (Blk.ofL [I 0, .bool false, .int .u64 0]) (Blk.ofL [I co, .bool fl, .int .u64 bt])
    simp only [PGlobal.enc] at a1
    have og := oA.get
    have gA := kA.gc
    have fin : ∀ {b : Bool} {h2 : Heap} {e2' : Env}, b = globalOk p ⟨co, fl, bt⟩ → CkAt true h2 c mp p { s with e := need e2 b 1 } → Fr h h2 c mp → getE e2' (tt 0) = .ptr c 0 → getE e2' (tt 3) = I ((i + 1 : Nat) : Int) → ∃ j, j < p.globals.list.length - i ∧ J j e2' h2 := by
      rintro b h2 e2' rfl k2 f2 ge2 e33
      exact ⟨p.globals.list.length - (i + 1), by omega, (hJ _ _ _).2 ⟨i + 1, _, rfl, by omega, e33, k2, by rw [← hr]; rfl, f2, ge2⟩⟩
    simp [g3, g0, gk, lenSl_val, hi', a1, og, gA]
    refine below_w ?_
    by_cases hb : below co (len p.codes) = true
    · obtain ⟨j, y, rfl, hy, ha⟩ := at_of hb
      obtain ⟨w, a2⟩ := addr_val PCode.enc 4 (fun _ => rfl) p.codes j y hy
      simp only [PCode.enc] at a2
      simp [hb, g0, gA, og, a2]
      refine need_w kA (by decide) fun h2 k2 f2 => ?_
      simp [g3, hw]
      have hne : ¬ (j : Int) = -1 := by omega
      exact fin (b := decide (y.free = 0)) (by simp [globalOk, hne, hb, ha]) k2 ((f1.trans fA).trans f2) (by simp [g0]) (by simp)
    · simp [hb, g0, gA, og]
      refine need_w kA (by decide) fun h2 k2 f2 => ?_
      simp [g3, hw]
      exact fin (b := decide (co = -1)) (by simp [globalOk, hb]) k2 ((f1.trans fA).trans f2) (by simp [g0]) (by simp)
  · have hi' : ¬ (i : Int) < len p.globals := by simp only [len]; omega
    have hil : i = p.globals.list.length := by omega
    subst hil
    simp [g3, g0, gk, lenSl_val, hi']
    refine hq _ _ ?_ f1 (by simp [g0])
    have : chkGlobals p p.globals.list s.e = e2 := by rw [← hr]; simp [chkGlobals]
    rw [this]; exact k1

theorem roots14_w (hc : len p.cons < 4611686018427387904) (hg : len p.globals < 4611686018427387904) {Q : AVal → Heap → Prop} (k : CkAt true h c mp p s)
    (hq : ∀ h', CkAt true h' c mp p { s with e := chkRoots p s.e } → Fr h h' c mp → Q (.tup []) h') : Cal X n_ref14_C_roots [.ptr c 0] h Q := by
  refine Cal.go (u_ref14_C_roots _ _ rfl) ?_
  rw [b_ref14_C_roots]
  simp
  refine cons14_w hc k (by simp) (by simp) fun e1 h1 k1 f1 g0 => ?_
  simp [g0]
  refine globs14_w hg k1 (by simp [g0]) (by simp) fun e2 h2 k2 f2 g0 => ?_
  have g2 := k2.gc
  simp [g0, g2, lenSl_val]
  refine below_w ?_
  generalize hE : chkGlobals p p.globals.list (chkCons p.cons.list s.e) = E at k2 g2
  simp only [hE] at g2 k2
  have hR : chkRoots p s.e = chkMain p E := by simp only [chkRoots, hE]
  rw [hR] at hq
  simp
  refine need_w k2 (by decide) fun h3 k3 f3 => ?_
  have g3 := k3.gc
  have fr3 := (f1.trans f2).trans f3
  by_cases hz : need E (below p.main (len p.globals)) 1 = 0
  · obtain ⟨hE0, hb⟩ := (need_zero (by decide)).1 hz
    obtain ⟨j, y, hj, hy, ha⟩ := at_of hb
    obtain ⟨w, a2⟩ := addr_val PGlobal.enc 3 (fun _ => rfl) p.globals j y hy
    obtain ⟨co, fl, bt⟩ := y
    simp only [PGlobal.enc] at a2
    have hbj := hb
    rw [hj] at hbj
    simp only [hz] at k3
    have hm : chkMain p E = if need 0 (decide (0 ≤ co)) 1 ≠ 0 then need 0 (decide (0 ≤ co)) 1 else (match at' p.codes co with | none => need 0 (decide (0 ≤ co)) 1 | some c => need (need 0 (decide (0 ≤ co)) 1) (decide (c.args = 0)) 1) := by
      simp only [chkMain, hz, ha]; rfl
    rw [hm] at hq
    obtain ⟨kA, fA, oA⟩ := k3.fill (Blk.ofL [I 0, .bool false, .int .u64 0]) (Blk.ofL [I co, .bool fl, .int .u64 bt])
    have og := oA.get
    have hzj := hz
    rw [hj] at hzj
    simp [hz, hzj, g0, g3, hj]
    have g3n := (k3.new (Blk.ofL [I 0, .bool false, .int .u64 0])).gc
    refine w_dreg (by simp only [tr_cons, tr_nil]; simp [op_p, op_r, op_f, op_fN, g0, g3, hj, a2]; rfl) (by simp [do_nil, do_skip, do_read, g0, g3, g3n, hj, a2, same_iff]) rfl ?_
    have gA := kA.gc
    have fr4 := fr3.trans fA
    simp [og, g0]
    refine need_w kA (by decide) fun h4 k4 f4 => ?_
    have og4 := (oA.fr f4).get
    have g4 := k4.gc
    by_cases hz2 : need 0 (decide (0 ≤ co)) 1 = 0
    · obtain ⟨_, hy0⟩ := (need_zero (by decide)).1 hz2
      have hy0 : 0 ≤ co := by simpa using hy0
      have hgo := chkGlobals_zero p.globals.list (hE.trans hE0) _ (List.mem_of_getElem? hy)
      obtain ⟨hb2, y2, ha2, _⟩ := global_at hgo hy0
      obtain ⟨j2, y3, hj2, hy3, ha3⟩ := at_of hb2
      rw [ha2] at ha3; injection ha3 with ha3; subst ha3
      obtain ⟨w2, a3⟩ := addr_val PCode.enc 4 (fun _ => rfl) p.codes j2 y2 hy3
      simp only [PCode.enc] at a3
      simp only at hj2
      subst hj2
      simp only [hz2] at k4
      simp [hz2, show need 0 true 1 = 0 from rfl, g0, g4, og4, a3]
      refine need_w k4 (by decide) fun h5 k5 f5 => ?_
      simp
      simp only [hz2, ne_eq, not_true_eq_false, if_false, ha2] at hq
      exact hq _ k5 ((fr4.trans f4).trans f5)
    · simp only [if_pos hz2] at hq
      simp [hz2, g0, g4]
      exact hq _ k4 (fr4.trans f4)
  · have hm : chkMain p E = need E (below p.main (len p.globals)) 1 := by
      simp only [chkMain]; rw [if_pos hz]
    rw [hm] at hq
    simp [hz, g0, g3]
    exact hq _ k3 fr3

theorem code14_w (hp : PB p) (hnl : len p.nodes ≤ 4096) {k : Nat} {x : PCode} (hx : p.codes.list[k]? = some x) {Q : AVal → Heap → Prop} (kk : CkAt true h c mp p s)
    (hq : ∀ h', CkAt true h' c mp p (chkCode p x s) → Fr h h' c mp → Q (.tup []) h') : Cal X n_ref14_C_code [.ptr c 0, I k] h Q := by
  refine Cal.go (u_ref14_C_code _ _ rfl) ?_
  rw [b_ref14_C_code]
  obtain ⟨nm, fr, ar, nd⟩ := x
  obtain ⟨w, a1⟩ := addr_val PCode.enc 4 (fun _ => rfl) p.codes k _ hx
  simp only [PCode.enc] at a1
  obtain ⟨kA, fA, oA⟩ := kk.fill (Blk.ofL [.str [], I 0, I 0, I 0]) (Blk.ofL [.str nm, I fr, I ar, I nd])
  have gk := kk.gc
  have og := oA.get
  have hl0 : 0 ≤ len p.nodes := by simp only [len]; omega
  -- behind the question
  have fin : ∀ {d : Bool} {h2 : Heap} {e2 : Env}, d = decide (0 ≤ fr ∧ fr ≤ 64 ∧ 0 ≤ ar ∧ ar ≤ 64) → CkAt true h2 c mp p { s with e := need s.e d 1 } → Fr ((h.new (Blk.ofL [.str [], I 0, I 0, I 0])).put h.next (Blk.ofL [.str nm, I fr, I ar, I nd])) h2 c mp →
      Cal X n_ref14_C_kid [.ptr c 0, I nd, I (len p.nodes), I (IntKind.i64.wrap (fr + ar))] h2 (OpsC X 47 [] e2 (outK [] false Q .normal)) := by
    rintro d h2 e2 rfl k2 f2
    refine (kid14_w (node14_w hp (len p.nodes).toNat)).ok k2 (by omega) (fun hc => ?_) fun h3 k3 f3 => ?_
    · obtain ⟨_, hd⟩ := (need_zero (by decide)).1 hc
      have hd : 0 ≤ fr ∧ fr ≤ 64 ∧ 0 ≤ ar ∧ ar ≤ 64 := by simpa using hd
      rw [wrap_small (by omega) (by omega)]
      exact ⟨by omega, by simp only [Bd]; omega⟩
    · simp
      refine hq h3 ?_ ((fA.trans f2).trans f3)
      by_cases hz : need s.e (decide (0 ≤ fr ∧ fr ≤ 64 ∧ 0 ≤ ar ∧ ar ≤ 64)) 1 = 0
      · obtain ⟨_, hd⟩ := (need_zero (by decide)).1 hz
        have hd : 0 ≤ fr ∧ fr ≤ 64 ∧ 0 ≤ ar ∧ ar ≤ 64 := by simpa using hd
        simp only [chkCode, if_pos hz]
        rw [wrap_small (by omega) (by omega)] at k3; exact k3
      · simp only [chkCode, if_neg hz]
        rw [chkNode_ne (by exact hz)] at k3; exact k3
  by_cases r1 : 0 ≤ fr
  · by_cases r2 : fr ≤ 64
    · by_cases r3 : 0 ≤ ar
      · simp [gk, a1, og, r1, r2, r3]
        refine need_w kA (by decide) fun h2 k2 f2 => ?_
        have og2 := (oA.fr f2).get
        have g2 := k2.gc
        simp [og2, g2, lenSl_val]
        exact fin (d := decide (ar ≤ 64)) (by simp [r1, r2, r3]) k2 f2
      · simp [gk, a1, og, r1, r2, r3]
        refine need_w kA (by decide) fun h2 k2 f2 => ?_
        have og2 := (oA.fr f2).get
        have g2 := k2.gc
        simp [og2, g2, lenSl_val]
        exact fin (d := false) (by simp [r1, r2, r3]) k2 f2
    · simp [gk, a1, og, r1, r2]
      refine need_w kA (by decide) fun h2 k2 f2 => ?_
      have og2 := (oA.fr f2).get
      have g2 := k2.gc
      simp [og2, g2, lenSl_val]
      exact fin (d := false) (by simp [r1, r2]) k2 f2
  · simp [gk, a1, og, r1]
    refine need_w kA (by decide) fun h2 k2 f2 => ?_
    have og2 := (oA.fr f2).get
    have g2 := k2.gc
    simp [og2, g2, lenSl_val]
    exact fin (d := false) (by simp [r1]) k2 f2

theorem codes14_w (hp : PB p) (hnl : len p.nodes ≤ 4096) (hcl : len p.codes < 4611686018427387904) {b : Pos} {e : Env} {Q : XExit → Env → Heap → Prop} (k : CkAt true h c mp p s)
    (o : Own h b (Blk.ofL [p.cons.val PCon.enc, p.codes.val PCode.enc, p.nodes.val PNode.enc, p.globals.val PGlobal.enc, I p.main]) c mp)
    (g1 : getE e (tt 1) = .ptr b 0) (g4 : getE e (tt 4) = .ptr c 0) (g5 : getE e (tt 5) = I 0)
    (hq : ∀ x e' h', CkAt true h' c mp p (chkCodes p p.codes.list s) → Fr h h' c mp → ((x = .exit 0 ∧ (s.e = 0 → (chkCodes p p.codes.list s).e = 0)) ∨ (x = .ret ∧ (chkCodes p p.codes.list s).e ≠ 0 ∧ getE e' (tt 2) = I (chkCodes p p.codes.list s).e ∧ ∃ j : Int, getE e' (tt 3) = I j)) → Q x e' h') :
    Run X (.loop b_ref14_Check_L0) e h Q := by
  obtain ⟨J, hJ⟩ : ∃ J : Nat → Env → Heap → Prop, ∀ k e1 h1, J k e1 h1 ↔ ∃ (i : Nat) (s1 : St), k = p.codes.list.length - i ∧ i ≤ p.codes.list.length ∧ getE e1 (tt 5) = I i ∧ CkAt true h1 c mp p s1 ∧ (s.e = 0 → s1.e = 0) ∧ chkCodes p (p.codes.list.drop i) s1 = chkCodes p p.codes.list s ∧ Fr h h1 c mp ∧ (∀ t : Nat, t = 4 ∨ t = 1 → getE e1 (tt t) = getE e (tt t)) := ⟨_, fun _ _ _ => Iff.rfl⟩
  refine Run.loop J (fun k e1 h1 hk => ?_) p.codes.list.length ((hJ _ _ _).2 ⟨0, s, by omega, by omega, g5, k, id, rfl, Fr.refl _ _ _, fun _ _ => rfl⟩)
  obtain ⟨i, s1, rfl, hi, g5, k1, hse, hr, f1, ge⟩ := (hJ _ _ _).1 hk
  have og := (o.fr f1).get
  rw [b_ref14_Check_L0]
  by_cases hil : i < p.codes.list.length
  · obtain ⟨x, hx, hd⟩ := drop_at hil
    have hi' : (i : Int) < len p.codes := by simp only [len]; omega
    have hw : IntKind.i64.wrap ((i : Int) + 1) = ((i + 1 : Nat) : Int) := by rw [wrap_small (by omega) (by omega)]; omega
    rw [hd] at hr
    simp [g5, ge, g4, g1, og, lenSl_val, hi']
    refine code14_w hp hnl hx k1 fun h2 k2 f2 => ?_
    have g2 := k2.gc
    by_cases hz : (chkCode p x s1).e = 0
    · simp [ge, g4, g2, hz, g5, hw]
      refine ⟨p.codes.list.length - (i + 1), by omega, (hJ _ _ _).2 ⟨i + 1, _, rfl, by omega, by simp, k2, fun _ => hz, ?_, f1.trans f2, fun t ht => ?_⟩⟩
      · rw [← hr]; simp [chkCodes, hz]
      · simp
        repeat rw [if_neg (by omega)]
        exact ge t ht
    · simp [ge, g4, g2, hz, g5, hw]
      have : chkCodes p p.codes.list s = chkCode p x s1 := by rw [← hr]; simp [chkCodes, hz]
      rw [this] at hq
      exact hq _ _ _ k2 (f1.trans f2) (.inr ⟨rfl, hz, by simp, i, by simp⟩)
  · have hi' : ¬ (i : Int) < len p.codes := by simp only [len]; omega
    have hil : i = p.codes.list.length := by omega
    subst hil
    simp [g5, ge, g1, og, lenSl_val, hi']
    have : chkCodes p p.codes.list s = s1 := by rw [← hr]; simp [chkCodes]
    rw [this] at hq
    exact hq _ _ _ k1 f1 (.inl ⟨rfl, hse⟩)

theorem check14_w (hi : PIn p) {h : Heap} {Q : AVal → Heap → Prop} (hq : ∀ h' (j : Int), Kept h h' → (chk p = 0 → j = 0) → Q (.tup [I (chk p), I j]) h') : Cal X n_ref14_Check [.agg p.enc] h Q := by
  refine Cal.go (u_ref14_Check _ _ rfl) ?_
  rw [b_ref14_Check]
  have hpe : p.enc = [p.cons.val PCon.enc, p.codes.val PCode.enc, p.nodes.val PNode.enc, p.globals.val PGlobal.enc, I p.main] := rfl
  obtain ⟨h1, hh1⟩ : ∃ h1, h.new (Blk.ofL [p.cons.val PCon.enc, p.codes.val PCode.enc, p.nodes.val PNode.enc, p.globals.val PGlobal.enc, I p.main]) = h1 := ⟨_, rfl⟩
  have n1 : h1.next = h.next.succ := by rw [← hh1]; simp
  have k0 : CkAt true ((h1.new (.map [])).new (ckBlk true p h1.next 0 0)) h1.next.succ h1.next p { e := 0, sl := 0, seen := [] } :=
    ⟨by simp [pv], by simp [pv]; omega, by simp [pv], by simp, by rw [S.get_new_ne _ _ _ (by simp [pv])]; simp [seenL]⟩
  have kb : Kept h ((h1.new (.map [])).new (ckBlk true p h1.next 0 0)) := by rw [← hh1]; exact (((Kept.refl h).new _).new _).new _
  have hcl : h.next.val ≤ h1.next.succ.val := by rw [n1]; simp [pv]; omega
  have hml : h.next.val ≤ h1.next.val := by rw [n1]; simp [pv]
  have b1 : ((h1.new (.map [])).new (ckBlk true p h1.next 0 0)).get h.next = some (Blk.ofL [p.cons.val PCon.enc, p.codes.val PCode.enc, p.nodes.val PNode.enc, p.globals.val PGlobal.enc, I p.main]) := by
    rw [S.get_new_ne _ _ _ (by simp [n1, pv]; omega), S.get_new_ne _ _ _ (by simp [n1, pv]), ← hh1]; simp
  have o1 : Own ((h1.new (.map [])).new (ckBlk true p h1.next 0 0)) h.next (Blk.ofL [p.cons.val PCon.enc, p.codes.val PCode.enc, p.nodes.val PNode.enc, p.globals.val PGlobal.enc, I p.main]) h1.next.succ h1.next :=
    ⟨by simp [n1, pv]; omega, by simp [n1, pv]; omega, by simp [n1, pv], b1⟩
  have b0 : h1.get h.next = some (Blk.ofL [p.cons.val PCon.enc, p.codes.val PCode.enc, p.nodes.val PNode.enc, p.globals.val PGlobal.enc, I p.main]) := by rw [← hh1]; simp
  simp [hpe, lenSl_val, scalar_val, hh1, b0]
  refine roots14_w hi.cons hi.globals k0 fun h2 k2 f2 => ?_
  have g2 := k2.gc
  have kb2 := kb.fr f2 hcl hml
  by_cases hz : chkRoots p 0 = 0
  · have hp := pb_of hi hz
    simp only [hz] at k2
    have og2 := o1.fr f2
    simp [g2, hz]
    refine codes14_w hp hi.nodes hi.codes k2 og2 (by simp) (by simp) (by simp) fun x e' h' k3 f3 hx => ?_
    have kb3 := kb2.fr f3 hcl hml
    have hck : chk p = (chkCodes p p.codes.list { e := 0, sl := 0, seen := [] }).e := by simp [chk, hz]
    rcases hx with ⟨rfl, hx⟩ | ⟨rfl, hx, e2, j, e3⟩
    · simp
      have := hq h' 0 kb3 fun _ => rfl
      rw [hck, hx rfl] at this
      exact this
    · simp [e2, e3]
      have := hq h' j kb3 fun hc => absurd (hck.symm.trans hc) hx
      rw [hck] at this
      exact this
  · simp [g2, hz]
    have hck : chk p = chkRoots p 0 := by simp [chk, hz]
    have := hq h2 (-1) kb2 fun hc => absurd (hck.symm.trans hc) hz
    rw [hck] at this
    exact this
end
end Go.Tw
end
