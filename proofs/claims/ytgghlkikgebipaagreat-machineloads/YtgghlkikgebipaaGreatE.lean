/- A world is loaded just if its program is right and there is room for its globals, else the checker's error or ErrFull is told (the law MachineLoads, whatever the input). Conditions: none. This file: part E. -/
import Derived.Test.YtgghlkikgebipaaGreatD
import Derived.Test.YtgghlkikgebipaaGreatC
set_option linter.all false

section
/- Literals in few signs, and the evaluator's equations for them. -/
namespace Go.Av
section
def tt (n : Nat) : XOpd := .t (Pos.nth n)
def ii (n : Int) : XOpd := .c (.int .i64 n)
def bb (b : Bool) : XOpd := .c (.bool b)
def st (l : List Nat) : XOpd := .c (.str l)
def fu (f : Nat) : XOpd := .c (.func f [] [])
def kc (v : AVal) : XOpd := .c v
def pO (d : Nat) (x : XPure) : XOper := ⟨some (Pos.nth d), none, .p x⟩
def rO (d : Nat) (x : XRead) : XOper := ⟨some (Pos.nth d), none, .r x⟩
def fO (d : Nat) (x : XEff) : XOper := ⟨some (Pos.nth d), none, .f x⟩
def fN (x : XEff) : XOper := ⟨none, none, .f x⟩
def cO (d : Nat) (f : XOpd) (a : List XOpd) : XOper := ⟨some (Pos.nth d), none, .call f a⟩
def cN (f : XOpd) (a : List XOpd) : XOper := ⟨none, none, .call f a⟩
def qN (f : XOpd) : XOper := ⟨none, none, .dfr f⟩
def gO (t : Nat) (b : Bool) (o : XOper) : XOper := { o with guard := some (Pos.nth t, b) }
def dl (l : List XOper) : List XDop := l.map fun o => ⟨o, []⟩
/-- a temporary is given a value -/
noncomputable def pe (d : Nat) (v : AVal) (e : Env) : Env := Tr.put (some v) (Pos.nth d) e
noncomputable def pa (l : List AVal) (k : Nat) (e : Env) : Env := params l (Pos.nth k) e
def rt (n : Nat) : XRes := .tmp (Pos.nth n)
def rc (n : Nat) (agg : Bool) (k : Nat) : XRes := .cell (Pos.nth n) agg k
variable {X : XProg} {c : CallFn} {n : Nat → Bool} {e : Env} {h : Heap} {l : List XOper}

theorem g_put (d k : Nat) (v : AVal) (e : Env) : getE (pe d v e) (tt k) = if d = k then v else getE e (tt k) := S.getT e v d k
theorem g_i (e : Env) (k : Int) : getE e (ii k) = .int .i64 k := rfl
theorem g_b (e : Env) (k : Bool) : getE e (bb k) = .bool k := rfl
theorem g_s (e : Env) (k : List Nat) : getE e (st k) = .str k := rfl
theorem g_f (e : Env) (f : Nat) : getE e (fu f) = .func f [] [] := rfl
theorem g_c (e : Env) (v : AVal) : getE e (kc v) = v := rfl

theorem x_nil : opersA c n [] e h = some (e, h) := rfl
theorem x_p (d : Nat) (x : XPure) : opersA c n (pO d x :: l) e h = match pureA (getE e) x with | some v => opersA c n l (pe d v e) h | none => none := by
  simp only [opersA, operA, pO, S.goN, cond_true, opA]
  cases pureA (getE e) x <;> rfl
theorem x_mv (d : Nat) (x : XOpd) : opersA c n (pO d (.mv x) :: l) e h = opersA c n l (pe d (getE e x) e) h := by
  rw [x_p]; rfl
theorem x_r (d : Nat) (x : XRead) : opersA c n (rO d x :: l) e h = match readA h (getE e) x with | some v => opersA c n l (pe d v e) h | none => none := by
  simp only [opersA, operA, rO, S.goN, cond_true, opA]
  cases readA h (getE e) x <;> rfl
theorem x_f (d : Nat) (x : XEff) : opersA c n (fO d x :: l) e h = match effA h (getE e) x with | some (v, h') => opersA c n l (pe d v e) h' | none => none := by
  simp only [opersA, operA, fO, S.goN, cond_true, opA]
  cases effA h (getE e) x <;> rfl
theorem x_fN (x : XEff) : opersA c n (fN x :: l) e h = match effA h (getE e) x with | some (_, h') => opersA c n l e h' | none => none := by
  simp only [opersA, operA, fN, S.goN, cond_true, opA]
  cases effA h (getE e) x <;> rfl
theorem x_c (d : Nat) (f : XOpd) (a : List XOpd) : opersA c n (cO d f a :: l) e h = match getE e f with
    | .func g b k => match c g (b ++ a.map (getE e) ++ k) h with | some (v, h') => opersA c n l (pe d v e) h' | none => none
    | _ => none := by
  simp only [opersA, operA, cO, S.goN, cond_true, opA]
  cases getE e f <;> try rfl
  rename_i g b k
  simp only []
  cases c g (b ++ a.map (getE e) ++ k) h <;> rfl
theorem x_cN (f : XOpd) (a : List XOpd) : opersA c n (cN f a :: l) e h = match getE e f with
    | .func g b k => match c g (b ++ a.map (getE e) ++ k) h with | some (_, h') => opersA c n l e h' | none => none
    | _ => none := by
  simp only [opersA, operA, cN, S.goN, cond_true, opA]
  cases getE e f <;> try rfl
  rename_i g b k
  simp only []
  cases c g (b ++ a.map (getE e) ++ k) h <;> rfl
theorem x_q (f : XOpd) : opersA c n (qN f :: l) e h = match getE e f with
    | .func g _ _ => bif n g then opersA c n l e h else none
    | _ => none := by
  simp only [opersA, operA, qN, S.goN, cond_true, opA]
  cases getE e f <;> try rfl
  rename_i g b k
  simp only []
  cases n g <;> rfl
/-- an operation that is only wanted if something holds -/
theorem x_g (t : Nat) (b : Bool) (o : XOper) (ho : o.guard = none) : opersA c n (gO t b o :: l) e h =
    bif (match getE e (tt t) with | .bool b' => b' == b | _ => false) then opersA c n (o :: l) e h else opersA c n l (setE e o.dst undefA) h := by
  have hg : goes e (gO t b o).guard = (match getE e (tt t) with | .bool b' => b' == b | _ => false) := S.goS e t b
  cases hb : (match getE e (tt t) with | .bool b' => b' == b | _ => false) with
  | true =>
    rw [hb] at hg
    simp only [opersA, operA, hg, ho, S.goN, cond_true]; rfl
  | false =>
    rw [hb] at hg
    simp only [opersA, operA, hg, cond_false]; rfl
theorem x_gp (t : Nat) (b : Bool) (d : Nat) (x : XPure) : opersA c n (gO t b (pO d x) :: l) e h =
    bif (match getE e (tt t) with | .bool b' => b' == b | _ => false) then opersA c n (pO d x :: l) e h else opersA c n l (pe d undefA e) h := x_g t b _ rfl
theorem x_gr (t : Nat) (b : Bool) (d : Nat) (x : XRead) : opersA c n (gO t b (rO d x) :: l) e h =
    bif (match getE e (tt t) with | .bool b' => b' == b | _ => false) then opersA c n (rO d x :: l) e h else opersA c n l (pe d undefA e) h := x_g t b _ rfl
theorem x_gf (t : Nat) (b : Bool) (d : Nat) (x : XEff) : opersA c n (gO t b (fO d x) :: l) e h =
    bif (match getE e (tt t) with | .bool b' => b' == b | _ => false) then opersA c n (fO d x :: l) e h else opersA c n l (pe d undefA e) h := x_g t b _ rfl
theorem x_gc (t : Nat) (b : Bool) (d : Nat) (f : XOpd) (a : List XOpd) : opersA c n (gO t b (cO d f a) :: l) e h =
    bif (match getE e (tt t) with | .bool b' => b' == b | _ => false) then opersA c n (cO d f a :: l) e h else opersA c n l (pe d undefA e) h := x_g t b _ rfl
theorem x_gfN (t : Nat) (b : Bool) (x : XEff) : opersA c n (gO t b (fN x) :: l) e h =
    bif (match getE e (tt t) with | .bool b' => b' == b | _ => false) then opersA c n (fN x :: l) e h else opersA c n l e h := x_g t b _ rfl
theorem x_gcN (t : Nat) (b : Bool) (f : XOpd) (a : List XOpd) : opersA c n (gO t b (cN f a) :: l) e h =
    bif (match getE e (tt t) with | .bool b' => b' == b | _ => false) then opersA c n (cN f a :: l) e h else opersA c n l e h := x_g t b _ rfl

theorem trace_dl : ∀ (l : List XOper) (e : Env) (h : Heap) (r : Env × Heap), opersA c n l e h = some r → ∃ tr, traceA c n (dl l) e h = some tr ∧ lastA tr = some r
  | [], e, h, r, ho => ⟨[(e, h)], rfl, by simpa [lastA, opersA] using ho⟩
  | o :: l, e, h, r, ho => by
    simp only [opersA] at ho
    cases h1 : operA c n o e h with
    | none => simp [h1] at ho
    | some p =>
      obtain ⟨e', h'⟩ := p
      simp only [h1] at ho
      obtain ⟨tr, h2, h3⟩ := trace_dl l e' h' r ho
      refine ⟨(e, h) :: tr, ?_, ?_⟩
      · simp only [dl, List.map_cons, traceA, h1]
        simp only [dl] at h2
        rw [h2]
      · cases tr with
        | nil => simp [lastA] at h3
        | cons a b => simpa [lastA] using h3
theorem trace_dl_none : ∀ (l : List XOper) (e : Env) (h : Heap), opersA c n l e h = none → traceA c n (dl l) e h = none
  | [], e, h, ho => by cases ho
  | o :: l, e, h, ho => by
    simp only [opersA] at ho
    simp only [dl, List.map_cons, traceA]
    cases h1 : operA c n o e h with
    | none => rfl
    | some p =>
      obtain ⟨e', h'⟩ := p
      simp only [h1] at ho
      have := trace_dl_none l e' h' ho
      simp only [dl] at this
      simp only [this]
theorem dopsOk_dl (full : List (Env × Heap)) : ∀ (l : List XOper) (tr : List (Env × Heap)), l.length < tr.length ∨ l.length = tr.length → dopsOk full (dl l) tr = true
  | [], tr, _ => by cases tr <;> rfl
  | o :: l, [], h => by simp at h
  | o :: l, s :: tr, h => by
    simp only [List.length_cons] at h
    simp only [dl, List.map_cons, dopsOk, dopOk, Bool.true_and]
    exact dopsOk_dl full l tr (by omega)
theorem trace_len : ∀ (l : List XDop) (e : Env) (h : Heap) (tr : List (Env × Heap)), traceA c n l e h = some tr → tr.length = l.length + 1
  | [], e, h, tr, ht => by simp only [traceA, Option.some.injEq] at ht; subst ht; rfl
  | o :: l, e, h, tr, ht => by
    simp only [traceA] at ht
    cases h1 : operA c n o.op e h with
    | none => simp [h1] at ht
    | some p =>
      obtain ⟨e', h'⟩ := p
      simp only [h1] at ht
      cases h2 : traceA c n l e' h' with
      | none => simp [h2] at ht
      | some t =>
        simp only [h2, Option.some.injEq] at ht
        subst ht
        simp [trace_len l e' h' t h2]

/-- a region whose order is drawn, and in which nothing is read -/
theorem c_dl (l : List XOper) (e : Env) (h : Heap) : codeF X (.dreg (dl l)) e h = match opersA (callF X) X.noop l e h with | some (e', h') => some (.normal, e', h') | none => none := by
  rw [codeF_dreg]
  cases ho : opersA (callF X) X.noop l e h with
  | none => rw [trace_dl_none l e h ho]
  | some r =>
    obtain ⟨tr, h1, h2⟩ := trace_dl l e h r ho
    have h3 := trace_len _ e h tr h1
    rw [h1]
    simp only [dopsOk_dl tr l tr (.inl (by simp [h3, dl])), cond_true, h2]

theorem r_t (h : Heap) (e : Env) (k : Nat) : resA h e (rt k) = some (getE e (tt k)) := rfl
theorem r_c (h : Heap) (e : Env) (k : Nat) (a : Bool) (m : Nat) : resA h e (rc k a m) = match cellsAt h (getE e (tt k)) m with | some cs => wrapA a cs | none => none := rfl
theorem p_nil (k : Nat) (e : Env) : pa [] k e = e := rfl
theorem p_cons (v : AVal) (l : List AVal) (k : Nat) (e : Env) : pa (v :: l) k e = pa l (k + 1) (pe k v e) := rfl
theorem x_call {f : Nat} {fn : XFunc} (hf : X.func f = some (.go fn)) {args : List AVal} (hl : Nat.ble args.length fn.nt = true) (h : Heap) : callF X f args h = outF (codeF X fn.body (pa args 0 .leaf) h) fn.results (X.frz f) := S.call hf (Nat.le_of_ble_eq_true hl) h
end
end Go.Av
end

section
/- The equations that simp takes for a run. -/
namespace Go.Av
theorem x_callz {X : XProg} {f : Nat} {fn : XFunc} {z : Bool} (hf : X.func f = some (.go fn)) (hz : X.frz f = z) {args : List AVal} (hl : Nat.ble args.length fn.nt = true) (h : Heap) : callF X f args h = outF (codeF X fn.body (pa args 0 .leaf) h) fn.results z := by
  rw [x_call hf hl h, hz]
theorem asNat_cast (k : IntKind) (n : Nat) : asNat (.int k (n : Int)) = some n := rfl
theorem asNat_0 (k : IntKind) : asNat (.int k 0) = some 0 := rfl
theorem asNat_1 (k : IntKind) : asNat (.int k 1) = some 1 := rfl
theorem asNat_2 (k : IntKind) : asNat (.int k 2) = some 2 := rfl
theorem asNat_3 (k : IntKind) : asNat (.int k 3) = some 3 := rfl
theorem asNat_4 (k : IntKind) : asNat (.int k 4) = some 4 := rfl
theorem asNat_5 (k : IntKind) : asNat (.int k 5) = some 5 := rfl
theorem asNat_6 (k : IntKind) : asNat (.int k 6) = some 6 := rfl
theorem asNat_7 (k : IntKind) : asNat (.int k 7) = some 7 := rfl
theorem asNat_8 (k : IntKind) : asNat (.int k 8) = some 8 := rfl
theorem asNat_9 (k : IntKind) : asNat (.int k 9) = some 9 := rfl
theorem asNat_10 (k : IntKind) : asNat (.int k 10) = some 10 := rfl
theorem asNat_11 (k : IntKind) : asNat (.int k 11) = some 11 := rfl
theorem asNat_12 (k : IntKind) : asNat (.int k 12) = some 12 := rfl
theorem asNat_13 (k : IntKind) : asNat (.int k 13) = some 13 := rfl
theorem asNat_14 (k : IntKind) : asNat (.int k 14) = some 14 := rfl
theorem asNat_15 (k : IntKind) : asNat (.int k 15) = some 15 := rfl
theorem asNat_16 (k : IntKind) : asNat (.int k 16) = some 16 := rfl
def orI (k : IntKind) (a b : Int) : Int := k.wrap (BitVec.ofInt k.bits a ||| BitVec.ofInt k.bits b).toNat
def andI (k : IntKind) (a b : Int) : Int := k.wrap (BitVec.ofInt k.bits a &&& BitVec.ofInt k.bits b).toNat
def xorI (k : IntKind) (a b : Int) : Int := k.wrap (BitVec.ofInt k.bits a ^^^ BitVec.ofInt k.bits b).toNat
section
variable (k : IntKind) (a b : Int)
theorem ia_add : intA .add k a b = some (.int k (k.wrap (a + b))) := rfl
theorem ia_sub : intA .sub k a b = some (.int k (k.wrap (a - b))) := rfl
theorem ia_mul : intA .mul k a b = some (.int k (k.wrap (a * b))) := rfl
theorem ia_quo : intA .quo k a b = bif b == 0 then none else some (.int k (k.wrap (a.tdiv b))) := rfl
theorem ia_rem : intA .rem k a b = bif b == 0 then none else some (.int k (a.tmod b)) := rfl
theorem ia_and : intA .and k a b = some (.int k (andI k a b)) := rfl
theorem ia_or : intA .or k a b = some (.int k (orI k a b)) := rfl
theorem ia_xor : intA .xor k a b = some (.int k (xorI k a b)) := rfl
theorem ia_eql : intA .eql k a b = some (.bool (a == b)) := rfl
theorem ia_neq : intA .neq k a b = some (.bool (a != b)) := rfl
theorem ia_lss : intA .lss k a b = some (.bool (decide (a < b))) := rfl
theorem ia_leq : intA .leq k a b = some (.bool (decide (a ≤ b))) := rfl
theorem ia_gtr : intA .gtr k a b = some (.bool (decide (a > b))) := rfl
theorem ia_geq : intA .geq k a b = some (.bool (decide (a ≥ b))) := rfl
end
theorem bits_i64 : IntKind.i64.bits = 64 := rfl
theorem pv (p : Pos) : p.succ.val = p.val + 1 := Pos.val_succ p
section
variable (b : Bool) (k : IntKind) (fk : FloatKind) (z : Int) (n m c es t f : Nat) (p : Pos) (l a : List AVal) (w : List Nat) (v : AVal) (x : Bool)
theorem sc_b : (AVal.bool b).scalar = true := id rfl
theorem sc_i : (AVal.int k z).scalar = true := id rfl
theorem sc_f : (AVal.float fk n).scalar = true := id rfl
theorem sc_s : (AVal.str w).scalar = true := id rfl
theorem sc_np : AVal.nilp.scalar = true := id rfl
theorem sc_p : (AVal.ptr p n).scalar = true := id rfl
theorem sc_cp : (AVal.cptr l).scalar = true := id rfl
theorem sc_ns : AVal.nils.scalar = true := id rfl
theorem sc_sl : (AVal.slice p n m x c es).scalar = true := id rfl
theorem sc_v : (AVal.vec n l).scalar = true := id rfl
theorem sc_nm : AVal.nilmap.scalar = true := id rfl
theorem sc_m : (AVal.map p).scalar = true := id rfl
theorem sc_fn : (AVal.func f l a).scalar = true := id rfl
theorem sc_nf : AVal.nilFunc.scalar = true := id rfl
theorem sc_if : (AVal.iface t v).scalar = true := id rfl
theorem sc_ni : AVal.nilIface.scalar = true := id rfl
theorem cl_of {v : AVal} (h : v.scalar = true) : v.cells = [v] := by cases v <;> first | rfl | cases h
theorem cl_b : (AVal.bool b).cells = [(AVal.bool b)] := rfl
theorem cl_i : (AVal.int k z).cells = [(AVal.int k z)] := rfl
theorem cl_f : (AVal.float fk n).cells = [(AVal.float fk n)] := rfl
theorem cl_s : (AVal.str w).cells = [(AVal.str w)] := rfl
theorem cl_np : AVal.nilp.cells = [AVal.nilp] := rfl
theorem cl_p : (AVal.ptr p n).cells = [(AVal.ptr p n)] := rfl
theorem cl_cp : (AVal.cptr l).cells = [(AVal.cptr l)] := rfl
theorem cl_ns : AVal.nils.cells = [AVal.nils] := rfl
theorem cl_sl : (AVal.slice p n m x c es).cells = [(AVal.slice p n m x c es)] := rfl
theorem cl_v : (AVal.vec n l).cells = [(AVal.vec n l)] := rfl
theorem cl_nm : AVal.nilmap.cells = [AVal.nilmap] := rfl
theorem cl_m : (AVal.map p).cells = [(AVal.map p)] := rfl
theorem cl_fn : (AVal.func f l a).cells = [(AVal.func f l a)] := rfl
theorem cl_nf : AVal.nilFunc.cells = [AVal.nilFunc] := rfl
theorem cl_if : (AVal.iface t v).cells = [(AVal.iface t v)] := rfl
theorem cl_ni : AVal.nilIface.cells = [AVal.nilIface] := rfl
theorem cl_agg : (AVal.agg l).cells = l := rfl
end
attribute [simp] sc_b sc_i sc_f sc_s sc_np sc_p sc_cp sc_ns sc_sl sc_v sc_nm sc_m sc_fn sc_nf sc_if sc_ni cl_b cl_i cl_f cl_s cl_np cl_p cl_cp cl_ns cl_sl cl_v cl_nm cl_m cl_fn cl_nf cl_if cl_ni cl_agg
attribute [simp] codeF_seq codeF_reg c_dl codeF_ret codeF_skip codeF_cond codeF_block codeF_exit x_nil x_p x_mv x_r x_f x_fN x_c x_cN x_q x_gp x_gr x_gf x_gc x_gfN x_gcN g_put g_i g_b g_s g_f g_c pureA readA effA p_nil p_cons outF ressA r_t r_c retA wrapA S.new_next S.put_next S.kill_next S.get_new_self S.get_put_self extA asNat_cast asNat_0 asNat_1 asNat_2 asNat_3 asNat_4 asNat_5 asNat_6 asNat_7 asNat_8 asNat_9 asNat_10 asNat_11 asNat_12 asNat_13 asNat_14 asNat_15 asNat_16 ia_add ia_sub ia_mul ia_quo ia_rem ia_and ia_or ia_xor ia_eql ia_neq ia_lss ia_leq ia_gtr ia_geq bits_i64 S.nbeq S.nble S.atC1
end Go.Av
end

section
/- What a run must come to: runs as propositions with a continuation. -/
namespace Go.Av
section
variable {X : XProg}

def Cal (X : XProg) (f : Nat) (args : List AVal) (h : Heap) (Q : AVal → Heap → Prop) : Prop := ∃ v h', callF X f args h = some (v, h') ∧ Q v h'
def Run (X : XProg) (c : XCode) (e : Env) (h : Heap) (Q : XExit → Env → Heap → Prop) : Prop := ∃ x e' h', codeF X c e h = some (x, e', h') ∧ Q x e' h'
def Ops (X : XProg) (l : List XOper) (e : Env) (h : Heap) (Q : Env → Heap → Prop) : Prop := ∃ e' h', opersA (callF X) X.noop l e h = some (e', h') ∧ Q e' h'

theorem Cal.mono {f : Nat} {args : List AVal} {h : Heap} {Q Q' : AVal → Heap → Prop} (c : Cal X f args h Q) (hq : ∀ v h', Q v h' → Q' v h') : Cal X f args h Q' := by
  obtain ⟨v, h', h1, h2⟩ := c; exact ⟨v, h', h1, hq v h' h2⟩
theorem Run.mono {c : XCode} {e : Env} {h : Heap} {Q Q' : XExit → Env → Heap → Prop} (r : Run X c e h Q) (hq : ∀ x e' h', Q x e' h' → Q' x e' h') : Run X c e h Q' := by
  obtain ⟨x, e', h', h1, h2⟩ := r; exact ⟨x, e', h', h1, hq x e' h' h2⟩
theorem Cal.eq {f : Nat} {args : List AVal} {h : Heap} {v : AVal} {h' : Heap} (hc : callF X f args h = some (v, h')) {Q : AVal → Heap → Prop} (hq : Q v h') : Cal X f args h Q := ⟨v, h', hc, hq⟩

/-- what is behind a part -/
def seqC (X : XProg) (b : XCode) (Q : XExit → Env → Heap → Prop) : XExit → Env → Heap → Prop
  | .normal, e, h => Run X b e h Q
  | x, e, h => Q x e h
theorem seqC_n {b : XCode} {Q : XExit → Env → Heap → Prop} {e : Env} {h : Heap} : seqC X b Q .normal e h ↔ Run X b e h Q := Iff.rfl
theorem seqC_r {b : XCode} {Q : XExit → Env → Heap → Prop} {e : Env} {h : Heap} : seqC X b Q .ret e h ↔ Q .ret e h := Iff.rfl
theorem seqC_e {b : XCode} {Q : XExit → Env → Heap → Prop} {e : Env} {h : Heap} {i : Nat} : seqC X b Q (.exit i) e h ↔ Q (.exit i) e h := Iff.rfl
def seqK (R : Env → Heap → Prop) (Q : XExit → Env → Heap → Prop) : XExit → Env → Heap → Prop
  | .normal, e, h => R e h
  | x, e, h => Q x e h
theorem seqK_n {R : Env → Heap → Prop} {Q : XExit → Env → Heap → Prop} {e : Env} {h : Heap} : seqK R Q .normal e h ↔ R e h := Iff.rfl
theorem seqK_r {R : Env → Heap → Prop} {Q : XExit → Env → Heap → Prop} {e : Env} {h : Heap} : seqK R Q .ret e h ↔ Q .ret e h := Iff.rfl
theorem seqK_e {R : Env → Heap → Prop} {Q : XExit → Env → Heap → Prop} {e : Env} {h : Heap} {i : Nat} : seqK R Q (.exit i) e h ↔ Q (.exit i) e h := Iff.rfl
def blockK (id : Nat) (Q : XExit → Env → Heap → Prop) : XExit → Env → Heap → Prop
  | .exit i, e, h => Q (bif Nat.beq i id then .normal else .exit i) e h
  | x, e, h => Q x e h
theorem blockK_n {id : Nat} {Q : XExit → Env → Heap → Prop} {e : Env} {h : Heap} : blockK id Q .normal e h ↔ Q .normal e h := Iff.rfl
theorem blockK_r {id : Nat} {Q : XExit → Env → Heap → Prop} {e : Env} {h : Heap} : blockK id Q .ret e h ↔ Q .ret e h := Iff.rfl
theorem blockK_e {id i : Nat} {Q : XExit → Env → Heap → Prop} {e : Env} {h : Heap} : blockK id Q (.exit i) e h ↔ Q (if i = id then .normal else .exit i) e h := by
  show Q (bif Nat.beq i id then .normal else .exit i) e h ↔ _
  by_cases hi : i = id
  · subst hi; simp
  · rw [beq_no hi, if_neg hi]; rfl
/-- a fork -/
def CondC (X : XProg) (v : AVal) (a b : XCode) (e : Env) (h : Heap) (Q : XExit → Env → Heap → Prop) : Prop := match v with | .bool true => Run X a e h Q | .bool false => Run X b e h Q | _ => False
section
variable {a b : XCode} {e : Env} {h : Heap} {Q : XExit → Env → Heap → Prop}
theorem CondC_t : CondC X (.bool true) a b e h Q ↔ Run X a e h Q := Iff.rfl
theorem CondC_f : CondC X (.bool false) a b e h Q ↔ Run X b e h Q := Iff.rfl
theorem CondC_b {v : Bool} : CondC X (.bool v) a b e h Q ↔ (v = true → Run X a e h Q) ∧ (v = false → Run X b e h Q) := by cases v <;> simp [CondC]
end
/-- a value, and the operations behind it -/
def OpsP (X : XProg) (x : Option AVal) (d : Nat) (l : List XOper) (e : Env) (h : Heap) (Q : Env → Heap → Prop) : Prop := match x with | some v => Ops X l (pe d v e) h Q | none => False
def OpsF (X : XProg) (x : Option (AVal × Heap)) (d : Nat) (l : List XOper) (e : Env) (Q : Env → Heap → Prop) : Prop := match x with | some r => Ops X l (pe d r.1 e) r.2 Q | none => False
def OpsN (X : XProg) (x : Option (AVal × Heap)) (l : List XOper) (e : Env) (Q : Env → Heap → Prop) : Prop := match x with | some r => Ops X l e r.2 Q | none => False
def OpsC (X : XProg) (d : Nat) (l : List XOper) (e : Env) (Q : Env → Heap → Prop) (v : AVal) (h : Heap) : Prop := Ops X l (pe d v e) h Q
def OpsD (X : XProg) (l : List XOper) (e : Env) (Q : Env → Heap → Prop) (_ : AVal) (h : Heap) : Prop := Ops X l e h Q
/-- a guard -/
def OpsG (X : XProg) (v : AVal) (w : Bool) (o : XOper) (l : List XOper) (e : Env) (h : Heap) (Q : Env → Heap → Prop) : Prop := match v with | .bool b => if b = w then Ops X (o :: l) e h Q else Ops X l (setE e o.dst undefA) h Q | _ => Ops X l (setE e o.dst undefA) h Q
section
variable {o : XOper} {d : Nat} {l : List XOper} {e : Env} {h : Heap} {Q : Env → Heap → Prop}
theorem OpsP_s {v : AVal} : OpsP X (some v) d l e h Q ↔ Ops X l (pe d v e) h Q := Iff.rfl
theorem OpsF_s {v : AVal} : OpsF X (some (v, h)) d l e Q ↔ Ops X l (pe d v e) h Q := Iff.rfl
theorem OpsN_s {v : AVal} : OpsN X (some (v, h)) l e Q ↔ Ops X l e h Q := Iff.rfl
theorem OpsC_s {v : AVal} : OpsC X d l e Q v h ↔ Ops X l (pe d v e) h Q := Iff.rfl
theorem OpsD_s {v : AVal} : OpsD X l e Q v h ↔ Ops X l e h Q := Iff.rfl
theorem OpsG_tt : OpsG X (.bool true) true o l e h Q ↔ Ops X (o :: l) e h Q := Iff.rfl
theorem OpsG_ff : OpsG X (.bool false) false o l e h Q ↔ Ops X (o :: l) e h Q := Iff.rfl
theorem OpsG_tf : OpsG X (.bool true) false o l e h Q ↔ Ops X l (setE e o.dst undefA) h Q := Iff.rfl
theorem OpsG_ft : OpsG X (.bool false) true o l e h Q ↔ Ops X l (setE e o.dst undefA) h Q := Iff.rfl
theorem OpsG_u {w : Bool} : OpsG X undefA w o l e h Q ↔ Ops X l (setE e o.dst undefA) h Q := Iff.rfl
theorem OpsG_b {v w : Bool} : OpsG X (.bool v) w o l e h Q ↔ (v = w → Ops X (o :: l) e h Q) ∧ (v = !w → Ops X l (setE e o.dst undefA) h Q) := by cases v <;> cases w <;> simp [OpsG]
end
theorem dst_p {d : Nat} {x : XPure} {e : Env} {v : AVal} : setE e (pO d x).dst v = pe d v e := rfl
theorem dst_r {d : Nat} {x : XRead} {e : Env} {v : AVal} : setE e (rO d x).dst v = pe d v e := rfl
theorem dst_f {d : Nat} {x : XEff} {e : Env} {v : AVal} : setE e (fO d x).dst v = pe d v e := rfl
theorem dst_fN {x : XEff} {e : Env} {v : AVal} : setE e (fN x).dst v = e := rfl
theorem dst_c {d : Nat} {f : XOpd} {a : List XOpd} {e : Env} {v : AVal} : setE e (cO d f a).dst v = pe d v e := rfl
theorem dst_cN {f : XOpd} {a : List XOpd} {e : Env} {v : AVal} : setE e (cN f a).dst v = e := rfl

def resK (rs : Option (List AVal)) (z : Bool) (h : Heap) (Q : AVal → Heap → Prop) : Prop := match rs with
  | some vs => bif z then Q (freezeA (retA vs) h).1 (freezeA (retA vs) h).2 else Q (retA vs) h
  | none => False
theorem resK_s {vs : List AVal} {h : Heap} {Q : AVal → Heap → Prop} : resK (some vs) false h Q ↔ Q (retA vs) h := Iff.rfl
theorem resK_z {vs : List AVal} {h : Heap} {Q : AVal → Heap → Prop} : resK (some vs) true h Q ↔ Q (freezeA (retA vs) h).1 (freezeA (retA vs) h).2 := Iff.rfl
def outK (rs : List XRes) (z : Bool) (Q : AVal → Heap → Prop) : XExit → Env → Heap → Prop
  | .exit _, _, _ => False
  | _, e, h => resK (ressA h e rs) z h Q
theorem outK_n {rs : List XRes} {z : Bool} {Q : AVal → Heap → Prop} {e : Env} {h : Heap} : outK rs z Q .normal e h ↔ resK (ressA h e rs) z h Q := Iff.rfl
theorem outK_r {rs : List XRes} {z : Bool} {Q : AVal → Heap → Prop} {e : Env} {h : Heap} : outK rs z Q .ret e h ↔ resK (ressA h e rs) z h Q := Iff.rfl

theorem w_skip {e : Env} {h : Heap} {Q : XExit → Env → Heap → Prop} : Run X .skip e h Q ↔ Q .normal e h := by
  unfold Run; rw [codeF_skip]
  exact ⟨fun ⟨x, e', h', h1, h2⟩ => by injection h1 with h1; injection h1 with h1 h3; injection h3 with h3 h4; subst h1; subst h3; subst h4; exact h2, fun hq => ⟨_, _, _, rfl, hq⟩⟩
theorem w_ret {e : Env} {h : Heap} {Q : XExit → Env → Heap → Prop} : Run X .ret e h Q ↔ Q .ret e h := by
  unfold Run; rw [codeF_ret]
  exact ⟨fun ⟨x, e', h', h1, h2⟩ => by injection h1 with h1; injection h1 with h1 h3; injection h3 with h3 h4; subst h1; subst h3; subst h4; exact h2, fun hq => ⟨_, _, _, rfl, hq⟩⟩
theorem w_exit {i : Nat} {e : Env} {h : Heap} {Q : XExit → Env → Heap → Prop} : Run X (.exit i) e h Q ↔ Q (.exit i) e h := by
  unfold Run; rw [codeF_exit]
  exact ⟨fun ⟨x, e', h', h1, h2⟩ => by injection h1 with h1; injection h1 with h1 h3; injection h3 with h3 h4; subst h1; subst h3; subst h4; exact h2, fun hq => ⟨_, _, _, rfl, hq⟩⟩
theorem w_seq {a b : XCode} {e : Env} {h : Heap} {Q : XExit → Env → Heap → Prop} : Run X (.seq a b) e h Q ↔ Run X a e h (seqC X b Q) := by
  unfold Run; rw [codeF_seq]
  constructor
  · rintro ⟨x, e', h', h1, h2⟩
    cases ha : codeF X a e h with
    | none => rw [ha] at h1; cases h1
    | some r =>
      obtain ⟨x1, e1, hh1⟩ := r
      rw [ha] at h1
      refine ⟨x1, e1, hh1, rfl, ?_⟩
      cases x1 with
      | normal => exact ⟨x, e', h', h1, h2⟩
      | ret => injection h1 with h1; injection h1 with h1 h3; injection h3 with h3 h4; subst h1; subst h3; subst h4; exact h2
      | exit i => injection h1 with h1; injection h1 with h1 h3; injection h3 with h3 h4; subst h1; subst h3; subst h4; exact h2
  · rintro ⟨x1, e1, hh1, h1, h2⟩
    rw [h1]
    cases x1 with
    | normal => exact h2
    | ret => exact ⟨_, _, _, rfl, h2⟩
    | exit i => exact ⟨_, _, _, rfl, h2⟩
theorem w_cond {y : XOpd} {a b : XCode} {e : Env} {h : Heap} {Q : XExit → Env → Heap → Prop} : Run X (.cond y a b) e h Q ↔ CondC X (getE e y) a b e h Q := by
  unfold CondC Run; rw [codeF_cond]
  cases getE e y with
  | bool v => cases v <;> exact Iff.rfl
  | _ => exact ⟨fun ⟨_, _, _, h1, _⟩ => (by cases h1), fun h => h.elim⟩
theorem w_block {id : Nat} {b : XCode} {e : Env} {h : Heap} {Q : XExit → Env → Heap → Prop} : Run X (.block id b) e h Q ↔ Run X b e h (blockK id Q) := by
  unfold Run; rw [codeF_block]
  constructor
  · rintro ⟨x, e', h', h1, h2⟩
    cases hb : codeF X b e h with
    | none => rw [hb] at h1; cases h1
    | some r =>
      obtain ⟨x1, e1, hh1⟩ := r
      rw [hb] at h1
      refine ⟨x1, e1, hh1, rfl, ?_⟩
      cases x1 <;> (simp only [Option.some.injEq, Prod.mk.injEq] at h1; obtain ⟨rfl, rfl, rfl⟩ := h1; exact h2)
  · rintro ⟨x1, e1, hh1, h1, h2⟩
    rw [h1]
    cases x1 with
    | normal => exact ⟨_, _, _, rfl, h2⟩
    | ret => exact ⟨_, _, _, rfl, h2⟩
    | exit i => exact ⟨_, _, _, rfl, h2⟩
theorem w_of_ops {e : Env} {h : Heap} {Q : XExit → Env → Heap → Prop} {c : XCode} {l : List XOper} (hc : codeF X c e h = match opersA (callF X) X.noop l e h with | some (e', h') => some (.normal, e', h') | none => none) : Run X c e h Q ↔ Ops X l e h (Q .normal) := by
  unfold Run Ops; rw [hc]
  constructor
  · rintro ⟨x, e', h', h1, h2⟩
    cases ho : opersA (callF X) X.noop l e h with
    | none => rw [ho] at h1; cases h1
    | some r =>
      obtain ⟨e1, hh1⟩ := r
      rw [ho] at h1
      simp only [Option.some.injEq, Prod.mk.injEq] at h1; obtain ⟨rfl, rfl, rfl⟩ := h1
      exact ⟨_, _, rfl, h2⟩
  · rintro ⟨e', h', h1, h2⟩
    rw [h1]; exact ⟨_, _, _, rfl, h2⟩
theorem w_reg {l : List XOper} {e : Env} {h : Heap} {Q : XExit → Env → Heap → Prop} : Run X (.reg l) e h Q ↔ Ops X l e h (Q .normal) := w_of_ops (codeF_reg l e h)
theorem w_dl {l : List XOper} {e : Env} {h : Heap} {Q : XExit → Env → Heap → Prop} : Run X (.dreg (dl l)) e h Q ↔ Ops X l e h (Q .normal) := w_of_ops (c_dl l e h)

section
variable {e : Env} {h : Heap} {l : List XOper} {Q : Env → Heap → Prop}
theorem o_nil : Ops X [] e h Q ↔ Q e h := by
  unfold Ops; rw [x_nil]
  exact ⟨fun ⟨e', h', h1, h2⟩ => by injection h1 with h1; injection h1 with h1 h3; subst h1; subst h3; exact h2, fun hq => ⟨_, _, rfl, hq⟩⟩
theorem o_mv {d : Nat} {x : XOpd} : Ops X (pO d (.mv x) :: l) e h Q ↔ Ops X l (pe d (getE e x) e) h Q := by unfold Ops; rw [x_mv]
theorem o_p {d : Nat} {x : XPure} : Ops X (pO d x :: l) e h Q ↔ OpsP X (pureA (getE e) x) d l e h Q := by
  unfold OpsP Ops; rw [x_p]
  cases pureA (getE e) x with
  | none => exact ⟨fun ⟨_, _, h1, _⟩ => (by cases h1), fun h => h.elim⟩
  | some v => exact Iff.rfl
theorem o_r {d : Nat} {x : XRead} : Ops X (rO d x :: l) e h Q ↔ OpsP X (readA h (getE e) x) d l e h Q := by
  unfold OpsP Ops; rw [x_r]
  cases readA h (getE e) x with
  | none => exact ⟨fun ⟨_, _, h1, _⟩ => (by cases h1), fun h => h.elim⟩
  | some v => exact Iff.rfl
theorem o_f {d : Nat} {x : XEff} : Ops X (fO d x :: l) e h Q ↔ OpsF X (effA h (getE e) x) d l e Q := by
  unfold OpsF Ops; rw [x_f]
  cases effA h (getE e) x with
  | none => exact ⟨fun ⟨_, _, h1, _⟩ => (by cases h1), fun h => h.elim⟩
  | some v => exact Iff.rfl
theorem o_fN {x : XEff} : Ops X (fN x :: l) e h Q ↔ OpsN X (effA h (getE e) x) l e Q := by
  unfold OpsN Ops; rw [x_fN]
  cases effA h (getE e) x with
  | none => exact ⟨fun ⟨_, _, h1, _⟩ => (by cases h1), fun h => h.elim⟩
  | some v => exact Iff.rfl
/-- a call of what a value says -/
def CalV (X : XProg) (v : AVal) (args : List AVal) (h : Heap) (Q : AVal → Heap → Prop) : Prop := match v with
  | .func g b k => Cal X g (b ++ args ++ k) h Q
  | _ => False
theorem CalV_f {g : Nat} {b k args : List AVal} {h : Heap} {Q : AVal → Heap → Prop} : CalV X (.func g b k) args h Q ↔ Cal X g (b ++ args ++ k) h Q := Iff.rfl
-- theorem CalV_congr {v v' : AVal} {args args' : List AVal} {h h' : Heap} {Q : AVal → Heap → Prop} (h1 : v = v') (h2 : args = args') (h3 : h = h') : CalV X v args h Q = CalV X v' args' h' Q := by rw [h1, h2, h3]
-- theorem Cal_congr {f : Nat} {args args' : List AVal} {h h' : Heap} {Q : AVal → Heap → Prop} (h2 : args = args') (h3 : h = h') : Cal X f args h Q = Cal X f args' h' Q := by rw [h2, h3]
theorem o_c {d : Nat} {f : XOpd} {a : List XOpd} : Ops X (cO d f a :: l) e h Q ↔ CalV X (getE e f) (a.map (getE e)) h (OpsC X d l e Q) := by
  unfold OpsC Ops; rw [x_c]
  cases getE e f with
  | func g b k =>
    simp only [CalV, Cal]
    cases callF X g (b ++ a.map (getE e) ++ k) h with
    | none => exact ⟨fun ⟨_, _, h1, _⟩ => (by cases h1), fun ⟨_, _, h1, _⟩ => (by cases h1)⟩
    | some r => exact ⟨fun hh => ⟨r.1, r.2, rfl, hh⟩, fun ⟨v, h', h1, h2⟩ => by injection h1 with h1; subst h1; exact h2⟩
  | _ => exact ⟨fun ⟨_, _, h1, _⟩ => (by cases h1), fun h => h.elim⟩
theorem o_cN {f : XOpd} {a : List XOpd} : Ops X (cN f a :: l) e h Q ↔ CalV X (getE e f) (a.map (getE e)) h (OpsD X l e Q) := by
  unfold OpsD Ops; rw [x_cN]
  cases getE e f with
  | func g b k =>
    simp only [CalV, Cal]
    cases callF X g (b ++ a.map (getE e) ++ k) h with
    | none => exact ⟨fun ⟨_, _, h1, _⟩ => (by cases h1), fun ⟨_, _, h1, _⟩ => (by cases h1)⟩
    | some r => exact ⟨fun hh => ⟨r.1, r.2, rfl, hh⟩, fun ⟨v, h', h1, h2⟩ => by injection h1 with h1; subst h1; exact h2⟩
  | _ => exact ⟨fun ⟨_, _, h1, _⟩ => (by cases h1), fun h => h.elim⟩
theorem o_q {f : XOpd} : Ops X (qN f :: l) e h Q ↔ (match getE e f with | .func g _ _ => X.noop g = true ∧ Ops X l e h Q | _ => False) := by
  unfold Ops; rw [x_q]
  cases getE e f with
  | func g b k =>
    simp only []
    cases X.noop g with
    | false => simp
    | true => simp
  | _ => exact ⟨fun ⟨_, _, h1, _⟩ => (by cases h1), fun h => h.elim⟩
theorem o_g {t : Nat} {b : Bool} {o : XOper} (ho : o.guard = none) : Ops X (gO t b o :: l) e h Q ↔ OpsG X (getE e (tt t)) b o l e h Q := by
  unfold OpsG Ops; rw [x_g t b o ho]
  cases getE e (tt t) with
  | bool v =>
    by_cases hv : v = b
    · subst hv; simp
    · have : (v == b) = false := by simpa using hv
      simp [hv, this]
  | _ => exact Iff.rfl
theorem o_gp {t : Nat} {b : Bool} {d : Nat} {x : XPure} : Ops X (gO t b (pO d x) :: l) e h Q ↔ OpsG X (getE e (tt t)) b (pO d x) l e h Q := o_g rfl
theorem o_gr {t : Nat} {b : Bool} {d : Nat} {x : XRead} : Ops X (gO t b (rO d x) :: l) e h Q ↔ OpsG X (getE e (tt t)) b (rO d x) l e h Q := o_g rfl
theorem o_gf {t : Nat} {b : Bool} {d : Nat} {x : XEff} : Ops X (gO t b (fO d x) :: l) e h Q ↔ OpsG X (getE e (tt t)) b (fO d x) l e h Q := o_g rfl
theorem o_gc {t : Nat} {b : Bool} {d : Nat} {f : XOpd} {a : List XOpd} : Ops X (gO t b (cO d f a) :: l) e h Q ↔ OpsG X (getE e (tt t)) b (cO d f a) l e h Q := o_g rfl
theorem o_gfN {t : Nat} {b : Bool} {x : XEff} : Ops X (gO t b (fN x) :: l) e h Q ↔ OpsG X (getE e (tt t)) b (fN x) l e h Q := o_g rfl
theorem o_gcN {t : Nat} {b : Bool} {f : XOpd} {a : List XOpd} : Ops X (gO t b (cN f a) :: l) e h Q ↔ OpsG X (getE e (tt t)) b (cN f a) l e h Q := o_g rfl
end

theorem Run.loop {b : XCode} {Q : XExit → Env → Heap → Prop} (I : Nat → Env → Heap → Prop) (hs : ∀ k e h, I k e h → Run X b e h (seqK (fun e' h' => ∃ j, j < k ∧ I j e' h') Q)) : ∀ (k : Nat) {e : Env} {h : Heap}, I k e h → Run X (.loop b) e h Q := by
  intro k
  induction k using Nat.strongRecOn with
  | ind k ih =>
    intro e h hi
    obtain ⟨x, e', h', h1, h2⟩ := hs k e h hi
    cases x with
    | normal =>
      obtain ⟨j, hj, hi'⟩ := h2
      obtain ⟨x, e2, h2, h3, h4⟩ := ih j hj hi'
      exact ⟨x, e2, h2, by rw [codeF_loop, h1]; exact h3, h4⟩
    | ret => exact ⟨.ret, e', h', by rw [codeF_loop, h1], h2⟩
    | exit i => exact ⟨.exit i, e', h', by rw [codeF_loop, h1], h2⟩

theorem Cal.go {f : Nat} {b : XCode} {args : List AVal} {h : Heap} {rs : List XRes} {z : Bool} {Q : AVal → Heap → Prop} (u : callF X f args h = outF (codeF X b (pa args 0 .leaf) h) rs z) (r : Run X b (pa args 0 .leaf) h (outK rs z Q)) : Cal X f args h Q := by
  obtain ⟨x, e', h', h1, h2⟩ := r
  unfold Cal
  rw [u, h1]
  have key : ∀ y, (y = XExit.normal ∨ y = XExit.ret) → outK rs z Q y e' h' → ∃ v h'', outF (some (y, e', h')) rs z = some (v, h'') ∧ Q v h'' := by
    intro y hy h2
    have h2' : resK (ressA h' e' rs) z h' Q := by rcases hy with rfl | rfl <;> exact h2
    have : outF (some (y, e', h')) rs z = match ressA h' e' rs with | some vs => some (bif z then freezeA (retA vs) h' else (retA vs, h')) | none => none := by rcases hy with rfl | rfl <;> rfl
    rw [this]
    cases hr : ressA h' e' rs with
    | none => rw [hr] at h2'; exact h2'.elim
    | some vs =>
      rw [hr] at h2'
      cases z with
      | true => exact ⟨_, _, rfl, h2'⟩
      | false => exact ⟨_, _, rfl, h2'⟩
  cases x with
  | normal => exact key _ (.inl rfl) h2
  | ret => exact key _ (.inr rfl) h2
  | exit i => exact h2.elim

/-! reading and writing blocks -/
noncomputable def rdB (x : Option Blk) (o n : Nat) : Option (List AVal) := match x with | some (.cells _ t) => t.slice o n | _ => none
theorem rd_ptr (h : Heap) (b : Pos) (o n : Nat) : cellsAt h (.ptr b o) n = rdB (h.get b) o n := rfl
theorem rd_cptr (h : Heap) (cs : List AVal) (n : Nat) : cellsAt h (.cptr cs) n = if n ≤ cs.length then some (cs.take n) else none := by
  simp only [cellsAt, S.nble]; by_cases hn : n ≤ cs.length <;> simp [hn]
theorem rdB_ofL (l : List AVal) (o n : Nat) : rdB (some (Blk.ofL l)) o n = if o + n ≤ l.length then some ((l.drop o).take n) else rdB (some (Blk.ofL l)) o n := by
  by_cases hn : o + n ≤ l.length
  · rw [if_pos hn]; exact Bt.slice_ofL l.length l (Nat.le_refl _) n o hn
  · rw [if_neg hn]
theorem rdB_ofL' {l : List AVal} {o n : Nat} (hn : o + n ≤ l.length) : rdB (some (Blk.ofL l)) o n = some ((l.drop o).take n) := by rw [rdB_ofL, if_pos hn]
noncomputable def wrB (h : Heap) (b : Pos) (x : Option Blk) (o : Nat) (vs : List AVal) : Option Heap := match x with
  | some (.cells n t) => bif vs.all AVal.scalar then match t.sets o vs with | some t' => some (h.put b (.cells n t')) | none => none else none
  | _ => none
theorem wr_ptr (h : Heap) (b : Pos) (o : Nat) (vs : List AVal) : storeAt h b o vs = wrB h b (h.get b) o vs := by
  unfold storeAt wrB
  cases h.get b with
  | none => rfl
  | some x => cases x <;> rfl
theorem wrB_ofL {h : Heap} {b : Pos} {l : List AVal} {o : Nat} {vs : List AVal} (hv : vs.all AVal.scalar = true) (hn : o + vs.length ≤ l.length) : wrB h b (some (Blk.ofL l)) o vs = some (h.put b (Blk.ofL (l.take o ++ vs ++ l.drop (o + vs.length)))) := by
  simp only [wrB, Blk.ofL, hv, cond_true, Bt.sets_ofL l.length vs l o (Nat.le_refl _) hn]
  congr 3
  · simp; omega
  · congr 1; simp; omega
theorem cells_agg (l : List AVal) : (AVal.agg l).cells = l := rfl
end
end Go.Av
end

section
/- The equations of runs that simp takes. -/
namespace Go.Av
attribute [simp] seqC_n seqC_r seqC_e seqK_n seqK_r seqK_e blockK_n blockK_r blockK_e CondC_t CondC_f OpsP_s OpsF_s OpsN_s OpsC_s OpsD_s OpsG_tt OpsG_ff OpsG_tf OpsG_ft OpsG_u dst_p dst_r dst_f dst_fN dst_c dst_cN resK_s resK_z outK_n outK_r w_skip w_ret w_exit w_seq w_cond w_block w_reg w_dl o_nil o_mv o_p o_r o_f o_fN o_c o_cN o_q o_gp o_gr o_gf o_gc o_gfN o_gcN CalV_f rd_ptr rd_cptr rdB_ofL' wr_ptr wrB_ofL
theorem wrap_small {z : Int} (h0 : 0 ≤ z) (h1 : z < 9223372036854775808) : IntKind.i64.wrap z = z := by
  simp only [IntKind.wrap, IntKind.bits, IntKind.signed]
  have : z % (2 ^ 64) = z := by omega
  simp only [this]; simp; omega
end Go.Av
namespace Go.Av
theorem beqI (a b : Int) : (a == b) = decide (a = b) := rfl
theorem bneI (a b : Int) : (a != b) = !decide (a = b) := rfl
attribute [simp] beqI bneI
end Go.Av
namespace Go.Av
theorem get_new_eq {h : Heap} {x : Blk} {b : Pos} (hb : b = h.next) : (h.new x).get b = some x := by subst hb; exact S.get_new_self h x
attribute [simp] get_new_eq Bool.cond_decide
end Go.Av
namespace Go.Av
attribute [simp] fills
end Go.Av
namespace Go.Av
section
variable {X : XProg} {c : CallFn} {n : Nat → Bool} {e : Env} {h : Heap}
theorem op_p (d : Nat) (x : XPure) : operA c n (pO d x) e h = match pureA (getE e) x with | some v => some (pe d v e, h) | none => none := by
  simp only [operA, pO, S.goN, cond_true, opA]
  cases pureA (getE e) x <;> rfl
theorem op_r (d : Nat) (x : XRead) : operA c n (rO d x) e h = match readA h (getE e) x with | some v => some (pe d v e, h) | none => none := by
  simp only [operA, rO, S.goN, cond_true, opA]
  cases readA h (getE e) x <;> rfl
theorem op_f (d : Nat) (x : XEff) : operA c n (fO d x) e h = match effA h (getE e) x with | some (v, h') => some (pe d v e, h') | none => none := by
  simp only [operA, fO, S.goN, cond_true, opA]
  cases effA h (getE e) x <;> rfl
theorem op_fN (x : XEff) : operA c n (fN x) e h = match effA h (getE e) x with | some (_, h') => some (e, h') | none => none := by
  simp only [operA, fN, S.goN, cond_true, opA]
  cases effA h (getE e) x <;> rfl
theorem op_c (d : Nat) (f : XOpd) (a : List XOpd) : operA c n (cO d f a) e h = match getE e f with
    | .func g b k => match c g (b ++ a.map (getE e) ++ k) h with | some (v, h') => some (pe d v e, h') | none => none
    | _ => none := by
  simp only [operA, cO, S.goN, cond_true, opA]
  cases getE e f <;> rfl
theorem op_cN (f : XOpd) (a : List XOpd) : operA c n (cN f a) e h = match getE e f with
    | .func g b k => match c g (b ++ a.map (getE e) ++ k) h with | some (_, h') => some (e, h') | none => none
    | _ => none := by
  simp only [operA, cN, S.goN, cond_true, opA]
  cases getE e f <;> rfl
theorem goes_p (d : Nat) (x : XPure) : goes e (pO d x).guard = true := rfl
theorem goes_r (d : Nat) (x : XRead) : goes e (rO d x).guard = true := rfl
theorem oop_r (d : Nat) (x : XRead) : (rO d x).op = .r x := rfl
theorem w_dreg {ops : List XDop} {Q : XExit → Env → Heap → Prop} {tr : List (Env × Heap)} {e' : Env} {h' : Heap} (ht : traceA (callF X) X.noop ops e h = some tr) (hd : dopsOk tr ops tr = true) (hl : lastA tr = some (e', h')) (hq : Q .normal e' h') : Run X (.dreg ops) e h Q := by
  refine ⟨.normal, e', h', ?_, hq⟩
  rw [codeF_dreg, ht]; simp only [hd, cond_true, hl]
theorem tr_nil : traceA c n [] e h = some [(e, h)] := rfl
theorem tr_cons (o : XDop) (l : List XDop) : traceA c n (o :: l) e h = match operA c n o.op e h with
    | some (e', h') => match traceA c n l e' h' with | some tr => some ((e, h) :: tr) | none => none
    | none => none := rfl
theorem do_nil (full tr : List (Env × Heap)) : dopsOk full [] tr = true := by cases tr <;> rfl
theorem do_skip (full : List (Env × Heap)) (o : XOper) (l : List XDop) (s : Env × Heap) (tr : List (Env × Heap)) : dopsOk full (⟨o, []⟩ :: l) (s :: tr) = dopsOk full l tr := rfl
theorem do_read (full : List (Env × Heap)) (d : Nat) (x : XRead) (k : Nat) (ks : List Nat) (l : List XDop) (e : Env) (h : Heap) (tr : List (Env × Heap)) : dopsOk full (⟨rO d x, k :: ks⟩ :: l) ((e, h) :: tr) = ((match readA h (getE e) x with
        | some v => (k :: ks).all fun k => match full[k]? with
          | some s' => sameRead s'.2 (getE e) x v
          | none => false
        | none => false) && dopsOk full l tr) := rfl
end
end Go.Av
namespace Go.Av
theorem same_iff {h : Heap} {ρ : XOpd → AVal} {x : XRead} {v : AVal} : sameRead h ρ x v = true ↔ readA h ρ x = some v := ⟨sameRead_eq, sameRead_of⟩
end Go.Av
namespace Go.Av
theorem S.nblt (a b : Nat) : Nat.blt a b = decide (a < b) := S.nble (a + 1) b
attribute [simp] S.nblt
end Go.Av
namespace Go.Av
theorem w_loop {X : XProg} {b : XCode} {e : Env} {h : Heap} {Q : XExit → Env → Heap → Prop} (hr : Run X b e h (seqC X (.loop b) Q)) : Run X (.loop b) e h Q := by
  obtain ⟨x, e', h', h1, h2⟩ := hr
  cases x with
  | normal =>
    obtain ⟨x, e2, h2, h3, h4⟩ := h2
    exact ⟨x, e2, h2, by rw [codeF_loop, h1]; exact h3, h4⟩
  | ret => exact ⟨.ret, e', h', by rw [codeF_loop, h1], h2⟩
  | exit i => exact ⟨.exit i, e', h', by rw [codeF_loop, h1], h2⟩
end Go.Av
end
