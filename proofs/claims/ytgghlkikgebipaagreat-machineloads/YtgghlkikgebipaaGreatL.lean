/- A world is loaded just if its program is right and there is room for its globals, else the checker's error or ErrFull is told (the law MachineLoads, whatever the input). Conditions: none. This file: part L. -/
import Derived.Test.YtgghlkikgebipaaGreatK
set_option linter.all false

section
open Go Go.Av Go.Ck
namespace Go.Tw
set_option linter.unusedSimpArgs false
set_option linter.unusedVariables false
/-! a world's globals, in a heap of one class -/
structure GObj where
  kind : Int
  aux : Int
  size : Int
  word : Int
def madeP (c : PCode) : Int := if c.args = 0 then max c.free 1 else c.free
def objCode (k : Int) (y : PCode) : GObj := ⟨if y.args = 0 then 2 else 3, k, if y.args = 0 then 1 else 0, 0⟩
def objNum (float : Bool) (bits : Int) : GObj := ⟨if float then 8 else 7, 0, 1, IntKind.i64.wrap bits⟩
def objOf (p : PProg) (g : PGlobal) : GObj :=
  if 0 ≤ g.code then (match at' p.codes g.code with | some y => objCode g.code y | none => objNum false 0) else objNum g.float g.bits
/-- the words that an object is made of -/
def GObj.row (o : GObj) : List Int := if o.size = 1 then [o.word] else []
structure GObj.Ok (o : GObj) : Prop where
  c : CellOk o.kind o.size o.aux 0
  s : o.size = 0 ∨ o.size = 1

structure LInv (W : Nat) (os : List GObj) (k : Nat) (Z : HS) (r : RS) : Prop where
  cls : Z.classes = [1]
  edge : Z.edge = W
  top : Z.top = 1 + 4 * k
  n : Z.a.n = W
  par : Z.parity = 0
  rings : Z.rings = [r]
  r0 : r.n0 = 0 ∧ r.n1 = 0 ∧ r.n2 = 0 ∧ r.n3 = k
  first : 0 < k → r.first = 1 ∧ Z.a.ws 3 = 1 + 4 * ((k : Int) - 1)
  kl : k ≤ os.length
  room : 1 + 4 * k ≤ W
  objs : ∀ j o, os[j]? = some o → j < k → ObjAt Z.a (1 + 4 * j) o.kind o.size o.aux 0 ∧ (o.size = 1 → Z.a.ws (1 + 4 * j + 3) = o.word)
/-- the heap behind one more object -/
def HS.more (Z : HS) (r : RS) (o : GObj) : HS :=
  { Z.made 0 r 1 (cellW o.kind o.row.length o.aux Z.parity) o.row.length with a := (Z.made 0 r 1 (cellW o.kind o.row.length o.aux Z.parity) o.row.length).a.sets (Z.top + 3) o.row 0 }
def HS.moreR (Z : HS) (r : RS) : RS := { r.grow Z.top with first := (Z.a.grow r Z.top).ws (Z.top + 1).toNat, n0 := 0, n3 := r.n3 + 1 }
theorem GObj.Ok.len {o : GObj} (ok : o.Ok) : (o.row.length : Int) = o.size := by
  rcases ok.s with h | h <;> simp [GObj.row, h]
/-- what the arena's words are behind one more object -/
theorem more_ws {W : Nat} {os : List GObj} {k : Nat} {Z : HS} {r : RS} (l : LInv W os k Z r) {o : GObj} (ok : o.Ok) (q : Nat) (hq : q % 4 = 1 ∨ q % 4 = 0 ∨ q = 3 ∨ q = 1 + 4 * k + 1) :
    (Z.more r o).a.ws q = if q = 1 + 4 * k then cellW o.kind o.size o.aux 0 else if q = 1 + 4 * k + 3 ∧ o.size = 1 then o.word else if q = 3 then 1 + 4 * (k : Int) else if q = 1 + 4 * k + 1 then 1 else Z.a.ws q := by
  have ht := l.top
  have hg : ∀ q : Nat, (q % 4 = 1 ∨ q % 4 = 0 ∨ q = 3 ∨ q = 1 + 4 * k + 1) → (Z.a.grow r Z.top).ws q = if q = 3 then 1 + 4 * (k : Int) else if q = 1 + 4 * k + 1 then 1 else Z.a.ws q := by
    intro q hq
    obtain ⟨b0, b1, b2, b3⟩ := l.r0
    by_cases hk : k = 0
    · subst hk
      have ha : r.all = 0 := by simp [RS.all, b0, b1, b2, b3]
      simp only [AS.grow, if_pos ha, AS.link, AS.st_ws, ht]
      by_cases h3 : q = 3
      · subst h3; simp
      · by_cases h2 : q = 2
        · subst h2; simp
        · have e1 : ¬ (1 + 4 * ((0 : Nat) : Int) + 2).toNat = q := by omega
          have e2 : ¬ (1 + 4 * ((0 : Nat) : Int) + 1).toNat = q := by omega
          have e3 : ¬ q = 1 + 4 * 0 + 1 := by omega
          rw [if_neg e1, if_neg e2, if_neg h3, if_neg e3]
    · obtain ⟨f1, f2⟩ := l.first (by omega)
      have ha : ¬ r.all = 0 := by simp [RS.all, b0, b1, b2, b3]; omega
      have e3 : ((1 : Int) + 2).toNat = 3 := rfl
      simp only [AS.grow, if_neg ha, AS.link, AS.st_ws, AS.tick_ws, AS.tick_n, ht, f1, e3, f2]
      by_cases h3 : q = 3
      · subst h3
        simp
      · rw [if_neg (show ¬ 3 = q by omega), if_neg h3]
        by_cases h2 : q = 1 + 4 * k + 1
        · subst h2
          rw [if_pos (by omega), if_pos rfl]
        · rw [if_neg (by omega), if_neg (by omega), if_neg (by omega), if_neg h2]
  have hl := ok.len
  have hp : (0 : Int) ≤ Z.top + 3 := by omega
  have hbase : ∀ q : Nat, (q % 4 = 1 ∨ q % 4 = 0 ∨ q = 3 ∨ q = 1 + 4 * k + 1) → (Z.made 0 r 1 (cellW o.kind o.row.length o.aux Z.parity) o.row.length).a.ws q = if q = 1 + 4 * k + 3 ∧ o.size = 1 then 0 else if q = 1 + 4 * k then cellW o.kind o.size o.aux 0 else if q = 3 then 1 + 4 * (k : Int) else if q = 1 + 4 * k + 1 then 1 else Z.a.ws q := by
    intro q hq
    simp only [HS.made]
    rw [AS.zeros_ws _ hp, AS.st_ws, AS.tick_ws, hg q hq, hl, l.par]
    by_cases h1 : q = 1 + 4 * k + 3 ∧ o.size = 1
    · rw [if_pos h1, if_pos (by omega)]
    · rw [if_neg h1, if_neg (by rcases ok.s with h | h <;> omega)]
      by_cases h2 : q = 1 + 4 * k
      · rw [if_pos h2, if_pos (by omega)]
      · rw [if_neg h2, if_neg (by omega)]
  simp only [HS.more]
  rcases ok.s with hs | hs
  · have hrow : o.row = [] := by simp [GObj.row, hs]
    have := hbase q hq
    rw [hrow] at this ⊢
    simp only [AS.sets]
    rw [this, if_neg (by omega)]
    by_cases h2 : q = 1 + 4 * k
    · rw [if_pos h2, if_pos h2]
    · rw [if_neg h2, if_neg h2, if_neg (show ¬ (q = 1 + 4 * k + 3 ∧ o.size = 1) by omega)]
  · have hrow : o.row = [o.word] := by simp [GObj.row, hs]
    have := hbase q hq
    rw [hrow] at this ⊢
    simp only [AS.sets, AS.st_ws, AS.tick_ws]
    rw [this]
    by_cases h3 : q = 1 + 4 * k + 3
    · rw [if_pos (by omega), if_neg (by omega), if_pos ⟨h3, hs⟩]
    · rw [if_neg (by omega), if_neg (by omega)]
      by_cases h2 : q = 1 + 4 * k
      · rw [if_pos h2, if_pos h2]
      · rw [if_neg h2, if_neg h2, if_neg (show ¬ (q = 1 + 4 * k + 3 ∧ o.size = 1) by omega)]
theorem more_n {Z : HS} {r : RS} {o : GObj} : (Z.more r o).a.n = Z.a.n := by
  have ean : (Z.a.grow r Z.top).n = Z.a.n := by simp only [AS.grow]; split <;> rfl
  simp only [HS.more, HS.made, AS.sets_n, AS.zeros_n, AS.st_n, AS.tick_n, ean]

theorem LInv.step {W : Nat} {os : List GObj} {k : Nat} {Z : HS} {r : RS} (l : LInv W os k Z r) {o : GObj} (ho : os[k]? = some o) (ok : o.Ok) (hroom : 1 + 4 * (k + 1) ≤ W) : LInv W os (k + 1) (Z.more r o) (Z.moreR r) := by
  obtain ⟨b0, b1, b2, b3⟩ := l.r0
  have ht := l.top
  have e1 : (r.grow Z.top).n1 = r.n1 := by simp only [RS.grow]; split <;> rfl
  have e2 : (r.grow Z.top).n2 = r.n2 := by simp only [RS.grow]; split <;> rfl
  have hf : (Z.a.grow r Z.top).ws (Z.top + 1).toNat = 1 := by
    by_cases hk : k = 0
    · subst hk
      have ha : r.all = 0 := by simp [RS.all, b0, b1, b2, b3]
      simp only [AS.grow, if_pos ha, AS.link, AS.st_ws, ht]; simp
    · obtain ⟨f1, f2⟩ := l.first (by omega)
      have ha : ¬ r.all = 0 := by simp [RS.all, b0, b1, b2, b3]; omega
      simp only [AS.grow, if_neg ha, AS.link, AS.st_ws, AS.tick_ws, ht, f1]
      rw [if_neg (by omega), if_pos trivial]
  refine ⟨l.cls, l.edge, ?_, by rw [more_n]; exact l.n, l.par, ?_, ⟨rfl, by simp only [HS.moreR, e1, b1], by simp only [HS.moreR, e2, b2], by simp only [HS.moreR, b3]; push_cast; rfl⟩, fun _ => ⟨hf, ?_⟩, ?_, hroom, ?_⟩
  · show Z.top + (1 + 3) = _; rw [ht]; push_cast; omega
  · simp only [HS.more, HS.made, l.rings]; rfl
  · rw [more_ws l ok 3 (by omega), if_neg (by omega), if_neg (by omega), if_pos rfl]; push_cast; omega
  · have := (List.getElem?_eq_some_iff.1 ho).1; omega
  · intro j o' ho' hj
    by_cases hjk : j = k
    · subst hjk
      rw [ho] at ho'; injection ho' with ho'; subst ho'
      refine ⟨⟨ok.c, by omega, by rw [more_n, l.n]; rcases ok.s with h | h <;> omega, ?_⟩, fun h1 => ?_⟩
      · have e : (1 + 4 * (j : Int)).toNat = 1 + 4 * j := by omega
        rw [e, more_ws l ok _ (by omega), if_pos rfl]
      · rw [more_ws l ok _ (by omega), if_neg (by omega), if_pos ⟨rfl, h1⟩]
    · obtain ⟨h1, h2⟩ := l.objs j o' ho' (by omega)
      refine ⟨⟨h1.ok, h1.lo, by rw [more_n]; exact h1.hi, ?_⟩, fun h => ?_⟩
      · have e : (1 + 4 * (j : Int)).toNat = 1 + 4 * j := by omega
        have hh := h1.hd
        rw [e] at hh ⊢
        rw [more_ws l ok _ (by omega), if_neg (by omega), if_neg (by omega), if_neg (by omega), if_neg (by omega)]
        exact hh
      · rw [more_ws l ok _ (by omega), if_neg (by omega), if_neg (by omega), if_neg (by omega), if_neg (by omega)]
        exact h2 h
end Go.Tw
end

section
open Go Go.Av Go.Ck
namespace Go.Tw
set_option linter.unusedSimpArgs false
set_option linter.unusedVariables false
section
variable {h : Heap} {Y : HLay} {Z : HS} {V : Pos} {p : PProg} {gl c : AVal} {W : Nat} {os : List GObj} {k : Nat} {r : RS} {o : GObj}

theorem LInv.rb (l : LInv W os k Z r) (hp : HeapAt h Y Z) : ∃ R, Y.rb = [R] := by
  have := hp.l2
  rw [l.rings] at this
  match hb : Y.rb, this with
  | [R], _ => exact ⟨R, rfl⟩
theorem GObj.Ok.cls (ok : o.Ok) (l : LInv W os k Z r) : clsFrom (o.row.length : Int) Z.classes 0 = (0 : Nat) := by
  rw [l.cls, ok.len]
  rcases ok.s with h | h <;> simp [clsFrom, h]

theorem lmake_w (w : WorldAt h V Y Z p gl c (4 * k) 0) (l : LInv W os k Z r) (hW : W ≤ 3000) (ok : o.Ok) {wv : AVal} (rw_ : RowAt (MW Y V) h wv o.row) {Q : AVal → Heap → Prop}
    (hq1 : 1 + 4 * (k + 1) ≤ W → ∀ h', WorldAt h' V Y (Z.more r o) p gl c (4 * ((k + 1 : Nat) : Int)) 0 → Fm (MW Y V) h h' → Q (.tup [I (1 + 4 * k), .bool true]) h')
    (hq2 : ¬ 1 + 4 * (k + 1) ≤ W → ∀ h', Kept h h' → Q (.tup [I 0, .bool false]) h') : Cal X n_machine_World_make [.ptr V 0, I o.kind, I o.aux, wv] h Q := by
  obtain ⟨R, hR⟩ := l.rb w.hp
  have hR0 : Y.rb[0]? = some R := by rw [hR]; rfl
  have hr0 : Z.rings[0]? = some r := by rw [l.rings]; rfl
  have hc0 : Z.classes[0]? = some 1 := by rw [l.cls]; rfl
  have hcls := ok.cls l
  have okc : CellOk o.kind o.row.length o.aux Z.parity := by rw [l.par, ok.len]; exact ok.c
  have hl : Z.classes.length < 1000 := by rw [l.cls]; decide
  have hlen := ok.len
  have ht := l.top
  have he := l.edge
  have hn := l.n
  have hrm := l.room
  by_cases hroom : 1 + 4 * (k + 1) ≤ W
  · refine make_w w rw_ (by omega) okc hl hcls hR0 hr0 hc0 ⟨by rcases ok.s with h | h <;> omega, by decide⟩ (by omega) (by omega) l.r0.1 (by omega) (by have := l.r0.2.2.2; omega) (fun ha => ?_) fun h' k' f' => ?_
    · have hk : 0 < k := by
        refine Nat.pos_of_ne_zero fun e => ha ?_
        obtain ⟨b0, b1, b2, b3⟩ := l.r0
        simp [RS.all, b0, b1, b2, b3, e]
      obtain ⟨f1, f2⟩ := l.first hk
      have e3 : ((1 : Int) + 2).toNat = 3 := rfl
      rw [f1, e3, f2]
      exact ⟨⟨by decide, by omega⟩, by omega, by omega⟩
    · rw [ht]
      refine hq1 hroom h' ?_ f'
      have e : (4 * ((k + 1 : Nat) : Int)) = 4 * (k : Int) + (1 + 3) := by push_cast; omega
      rw [e]; exact k'
  · exact make_full w (rw_.mono fun q hq => .inl hq) okc hl hcls hR0 hr0 hc0 (by decide) (by omega) (by omega) (by omega) (by omega) l.r0.1 (by omega) fun h' k' => hq2 hroom h' k'

theorem made_w {y : PCode} (hf : 0 ≤ y.free) {Q : AVal → Heap → Prop} (hq : ∀ h', Kept h h' → Q (I (madeP y)) h') : Cal X n_machine_made [.agg y.enc] h Q := by
  refine Cal.go (u_machine_made _ _ rfl) ?_
  rw [b_machine_made]
  obtain ⟨nm, fr, ar, nd⟩ := y
  have hye : PCode.enc ⟨nm, fr, ar, nd⟩ = [.str nm, I fr, I ar, I nd] := rfl
  by_cases ha : ar = 0
  · subst ha
    have hm : (if fr < 1 then 1 else fr) = madeP ⟨nm, fr, 0, nd⟩ := by simp only [madeP, if_true]; omega
    simp [hye]
    rw [hm]
    exact hq _ ((Kept.refl h).new _)
  · have hm : fr = madeP ⟨nm, fr, ar, nd⟩ := by simp only [madeP, if_neg ha]
    simp [hye, ha]
    rw [hm]
    exact hq _ ((Kept.refl h).new _)

theorem row_zeros {M : Pos → Prop} {n : Nat} (hn : n < 1000) (hm : ¬ M h.next) : RowAt M (h.new (mkRow [I 0] n)) (.slice h.next 0 n true n 1) (List.replicate n 0) := by
  refine ⟨by simp [lenSlA], fun i x hx => ?_⟩
  obtain ⟨hi, hx⟩ := List.getElem?_eq_some_iff.1 hx
  have hi' : i < n := by simpa using hi
  have hx' : x = 0 := by simpa using hx.symm
  subst hx'
  refine ⟨h.next, i, by simp [addrSlA, hi'], by simp [pv], hm, ?_⟩
  rw [S.get_new_self]
  show rdB (some (.cells n (Bt.rep (I 0) 31 n))) i 1 = _
  exact rd_c1 (by rw [Bt.get_rep _ _ _ _ (by omega), if_pos hi'])
theorem row_one {M : Pos → Prop} {x : Int} (hm : ¬ M h.next) : RowAt M (h.new (Blk.ofL [I x])) (.slice h.next 0 1 true 1 1) [x] := by
  refine ⟨by simp [lenSlA], fun i y hx => ?_⟩
  obtain ⟨hi, hx⟩ := List.getElem?_eq_some_iff.1 hx
  have hi' : i = 0 := by simpa using hi
  subst hi'
  have hx' : y = x := by simpa using hx.symm
  subst hx'
  exact ⟨h.next, 0, by simp [addrSlA], by simp [pv], hm, by simp⟩

theorem WorldAt.fresh {words weaks : Int} (w : WorldAt h V Y Z p gl c words weaks) {q : Pos} (hq : h.next.val ≤ q.val) : ¬ MW Y V q := by
  rintro ((h1 | h1 | h1 | ⟨R, hR, h1⟩) | h1)
  · have := w.hp.ar.la; omega
  · have := w.hp.ar.lw; omega
  · have := w.hp.lH; omega
  · obtain ⟨i, hi⟩ := List.getElem?_of_mem hR
    have hl := (List.getElem?_eq_some_iff.1 hi).1
    have hl2 : i < Z.rings.length := by rw [w.hp.l2]; exact hl
    have := (w.hp.rg i R _ hi (List.getElem?_eq_getElem hl2)).lr
    omega
  · have := w.lV; omega

theorem closure_w {j : Nat} {y : PCode} (w : WorldAt h V Y Z p gl c (4 * k) 0) (l : LInv W os k Z r) (hW : W ≤ 3000) (hj : p.codes.list[j]? = some y) (hf : y.free = 0) (ok : (objCode j y).Ok) {Q : AVal → Heap → Prop}
    (hq1 : 1 + 4 * (k + 1) ≤ W → ∀ h', WorldAt h' V Y (Z.more r (objCode j y)) p gl c (4 * ((k + 1 : Nat) : Int)) 0 → Fm (MW Y V) h h' → Q (.tup [I (1 + 4 * k), .bool true]) h')
    (hq2 : ¬ 1 + 4 * (k + 1) ≤ W → ∀ h', Kept h h' → Q (.tup [I 0, .bool false]) h') : Cal X n_machine_World_closure [.ptr V 0, I j] h Q := by
  refine Cal.go (u_machine_World_closure _ _ rfl) ?_
  rw [b_machine_World_closure]
  have gV := w.gV
  obtain ⟨q, a1⟩ := addr_val PCode.enc 4 (fun _ => rfl) p.codes j y hj
  obtain ⟨nm, fr, ar, nd⟩ := y
  simp only at hf
  subst hf
  simp only [PCode.enc] at a1
  have k1 : Kept h ((h.new (Blk.ofL [.str [], I 0, I 0, I 0])).put h.next (Blk.ofL [.str nm, I 0, I ar, I nd])) := ((Kept.refl h).new _).put _ (Nat.le_refl _)
  have o1 : ((h.new (Blk.ofL [.str [], I 0, I 0, I 0])).put h.next (Blk.ofL [.str nm, I 0, I ar, I nd])).get h.next = some (Blk.ofL [.str nm, I 0, I ar, I nd]) := by simp
  have hye : PCode.enc ⟨nm, 0, ar, nd⟩ = [.str nm, I 0, I ar, I nd] := rfl
  by_cases ha : ar = 0
  · subst ha
    simp [gV, wB, a1, o1]
    rw [← hye]
    refine made_w (by simp) fun h2 k2 => ?_
    have kk := k1.trans k2
    have w2 := w.kept kk
    have hm : madeP ⟨nm, 0, 0, nd⟩ = 1 := rfl
    rw [hm]
    simp
    have rz := row_zeros (h := h2) (M := MW Y V) (n := 1) (by decide) (w2.fresh (Nat.le_refl _))
    refine lmake_w (o := objCode j ⟨nm, 0, 0, nd⟩) (w2.kept ((Kept.refl h2).new _)) l hW ok rz (fun hr h3 w3 f3 => ?_) (fun hr h3 k3 => ?_)
    · simp
      exact hq1 hr h3 w3 (Fm.trans ((kk.trans ((Kept.refl h2).new _)).fm _) f3)
    · simp
      exact hq2 hr h3 ((kk.trans ((Kept.refl h2).new _)).trans k3)
  · simp [gV, wB, a1, o1, ha]
    rw [← hye]
    refine made_w (by simp) fun h2 k2 => ?_
    have kk := k1.trans k2
    have w2 := w.kept kk
    have hm : madeP ⟨nm, 0, ar, nd⟩ = 0 := by simp [madeP, ha]
    rw [hm]
    simp
    have rz := row_zeros (h := h2) (M := MW Y V) (n := 0) (by decide) (w2.fresh (Nat.le_refl _))
    have hrow : (objCode j ⟨nm, 0, ar, nd⟩).row = [] := by simp [GObj.row, objCode, ha]
    have hkind : (objCode j ⟨nm, 0, ar, nd⟩).kind = 3 := by simp [objCode, ha]
    rw [← hkind]
    refine lmake_w (o := objCode j ⟨nm, 0, ar, nd⟩) (w2.kept ((Kept.refl h2).new _)) l hW ok (by rw [hrow]; exact rz) (fun hr h3 w3 f3 => ?_) (fun hr h3 k3 => ?_)
    · simp
      exact hq1 hr h3 w3 (Fm.trans ((kk.trans ((Kept.refl h2).new _)).fm _) f3)
    · simp
      exact hq2 hr h3 ((kk.trans ((Kept.refl h2).new _)).trans k3)

theorem number_w {fl : Bool} {bits : Int} (w : WorldAt h V Y Z p gl c (4 * k) 0) (l : LInv W os k Z r) (hW : W ≤ 3000) (ok : (objNum fl bits).Ok) {Q : AVal → Heap → Prop}
    (hq1 : 1 + 4 * (k + 1) ≤ W → ∀ h', WorldAt h' V Y (Z.more r (objNum fl bits)) p gl c (4 * ((k + 1 : Nat) : Int)) 0 → Fm (MW Y V) h h' → Q (.tup [I (1 + 4 * k), .bool true]) h')
    (hq2 : ¬ 1 + 4 * (k + 1) ≤ W → ∀ h', Kept h h' → Q (.tup [I 0, .bool false]) h') : Cal X n_machine_World_number [.ptr V 0, .agg [.bool fl, .int .u64 bits]] h Q := by
  refine Cal.go (u_machine_World_number _ _ rfl) ?_
  rw [b_machine_World_number]
  have kk : Kept h ((h.new (Blk.ofL [.bool fl, .int .u64 bits])).new (Blk.ofL [I (IntKind.i64.wrap bits)])) := ((Kept.refl h).new _).new _
  have w2 := w.kept ((Kept.refl h).new (Blk.ofL [.bool fl, .int .u64 bits]))
  have rz := row_one (h := h.new (Blk.ofL [.bool fl, .int .u64 bits])) (M := MW Y V) (x := IntKind.i64.wrap bits) (w2.fresh (Nat.le_refl _))
  have hrow : (objNum fl bits).row = [IntKind.i64.wrap bits] := by simp [GObj.row, objNum]
  cases fl with
  | true =>
    simp [repl]
    refine lmake_w (o := objNum true bits) (w2.kept ((Kept.refl _).new _)) l hW ok (by rw [hrow]; exact rz) (fun hr h3 w3 f3 => ?_) (fun hr h3 k3 => ?_)
    · simp
      exact hq1 hr h3 w3 (Fm.trans (kk.fm _) f3)
    · simp
      exact hq2 hr h3 (kk.trans k3)
  | false =>
    simp [repl]
    refine lmake_w (o := objNum false bits) (w2.kept ((Kept.refl _).new _)) l hW ok (by rw [hrow]; exact rz) (fun hr h3 w3 f3 => ?_) (fun hr h3 k3 => ?_)
    · simp
      exact hq1 hr h3 w3 (Fm.trans (kk.fm _) f3)
    · simp
      exact hq2 hr h3 (kk.trans k3)
end
end Go.Tw
end

section
open Go Go.Av Go.Ck
namespace Go.Tw
set_option linter.unusedSimpArgs false
set_option linter.unusedVariables false
/-! rows that grow -/
theorem get_kill_ne (h : Heap) (c b : Pos) (hb : c.val ≠ b.val) : (h.kill c).get b = h.get b := by
  have : ¬ c = b := by rintro rfl; exact hb rfl
  simp [Heap.get, Heap.kill, Tr.get_put, this]
theorem Fm.kill {M : Pos → Prop} {h h' : Heap} (f : Fm M h h') {b : Pos} (hb : h.next.val ≤ b.val ∨ M b) : Fm M h (h'.kill b) :=
  ⟨f.next, fun q hq hm => by
    rw [get_kill_ne _ _ _ (fun e => ?_)]; exact f.get q hq hm
    rcases hb with hb | hb
    · omega
    · exact hm (Pos.val_inj _ _ e ▸ hb)⟩
theorem slice_all (l : List AVal) : rdB (some (Blk.ofL l)) 0 l.length = some l := by
  rw [rdB_ofL' (by omega)]; simp
theorem append_nil {h : Heap} {b : Pos} {x : AVal} (hb : h.get b = some (Blk.ofL [x])) : appendA h 1 8 .nils (.slice b 0 1 true 1 1) = some (.slice h.next 0 1 false 1 1, h.new (Blk.ofL [x])) := by
  have : (Bt.ofL 1 [x]).slice 0 1 = some [x] := by rw [Bt.slice_ofL 1 [x] (by simp) 1 0 (by simp)]; rfl
  simp [appendA, lenOf, elemsOf, hb, Blk.ofL, this]
theorem append_one {h : Heap} {b b2 : Pos} {l : List AVal} {x : AVal} (hb : h.get b = some (Blk.ofL l)) (hb2 : h.get b2 = some (Blk.ofL [x])) (hx : x.scalar = true) (h0 : 0 < l.length) (h1 : l.length < 1000000) :
    appendA h 1 8 (.slice b 0 l.length false l.length 1) (.slice b2 0 1 true 1 1) = some (.slice h.next 0 (l.length + 1) false (l.length + 1) 1, (h.kill b).new (Blk.ofL (l ++ [x]))) := by
  have e1 : (Bt.ofL 1 [x]).slice 0 1 = some [x] := by rw [Bt.slice_ofL 1 [x] (by simp) 1 0 (by simp)]; rfl
  have e2 : (Bt.ofL l.length l).slice 0 l.length = some l := by rw [Bt.slice_ofL l.length l (Nat.le_refl _) l.length 0 (by omega)]; simp
  have hle : ¬ l.length + 1 ≤ l.length := by omega
  have hle2 : (2 * (l.length + 1) + 1000) * 8 ≤ 281474976710656 := by omega
  simp [appendA, lenOf, elemsOf, hb, hb2, Blk.ofL, e1, e2, hx, hle, hle2]

def gaddr (k : Nat) : List AVal := (List.range k).map fun (j : Nat) => I (1 + 4 * (j : Int))
theorem gaddr_succ (k : Nat) : gaddr (k + 1) = gaddr k ++ [I (1 + 4 * (k : Int))] := by simp [gaddr, List.range_succ]
theorem gaddr_len (k : Nat) : (gaddr k).length = k := by simp [gaddr]
/-- the addresses of the globals so far -/
def GlAt (M : Pos → Prop) (lo : Nat) (h : Heap) (gl : AVal) (k : Nat) : Prop :=
  (k = 0 ∧ gl = .nils) ∨ (0 < k ∧ ∃ b, gl = .slice b 0 k false k 1 ∧ lo ≤ b.val ∧ b.val < h.next.val ∧ ¬ M b ∧ h.get b = some (Blk.ofL (gaddr k)))
theorem GlAt.fm {M : Pos → Prop} {lo : Nat} {h h' : Heap} {gl : AVal} {k : Nat} (g : GlAt M lo h gl k) (f : Fm M h h') : GlAt M lo h' gl k := by
  rcases g with g | ⟨h0, b, h1, h2, h3, h4, h5⟩
  · exact .inl g
  · exact .inr ⟨h0, b, h1, h2, Nat.lt_of_lt_of_le h3 f.next, h4, by rw [f.get b h3 h4]; exact h5⟩
theorem glob_obj {p : PProg} (hg : ∀ g ∈ p.globals.list, globalOk p g = true) (hc : len p.codes ≤ 200) {i : Nat} {g : PGlobal} (hi : p.globals.list[i]? = some g) : (objOf p g).Ok ∧ (0 ≤ g.code → ∃ (j : Nat) (y : PCode), g.code = j ∧ p.codes.list[j]? = some y ∧ y.free = 0 ∧ objOf p g = objCode j y) := by
  have hok := hg g (List.mem_of_getElem? hi)
  by_cases h0 : 0 ≤ g.code
  · obtain ⟨hb, y, ha, hf⟩ := global_at hok h0
    obtain ⟨j, y', hj, hy, ha'⟩ := at_of hb
    rw [ha] at ha'; injection ha' with ha'; subst ha'
    have ho : objOf p g = objCode j y := by simp only [objOf, if_pos h0, ha]; rw [hj]
    have hjl : j < 200 := by
      have := (List.getElem?_eq_some_iff.1 hy).1
      simp only [len] at hc; omega
    refine ⟨?_, fun _ => ⟨j, y, hj, hy, hf, ho⟩⟩
    rw [ho]
    by_cases hy0 : y.args = 0
    · exact ⟨by simp only [objCode, hy0, if_true]; exact ⟨by decide, by decide, by decide, by omega, by omega⟩, by simp [objCode, hy0]⟩
    · exact ⟨by simp only [objCode, hy0, if_false]; exact ⟨by decide, by decide, by decide, by omega, by omega⟩, by simp [objCode, hy0]⟩
  · have ho : objOf p g = objNum g.float g.bits := by simp only [objOf, if_neg h0]
    refine ⟨?_, fun h => absurd h h0⟩
    rw [ho]
    refine ⟨?_, .inr rfl⟩
    cases g.float <;> exact ⟨by simp [objNum], by simp [objNum], by simp [objNum], by simp [objNum]⟩

section
variable {h : Heap} {Y : HLay} {Z : HS} {V : Pos} {p : PProg} {W : Nat} {r : RS}
theorem WorldAt.killO {gl c : AVal} {words weaks : Int} (k : WorldAt h V Y Z p gl c words weaks) {b : Pos} (hb : ¬ MW Y V b) (h1 : b.val ≠ Y.C.val) (h2 : b.val ≠ Y.G.val) : WorldAt (h.kill b) V Y Z p gl c words weaks := by
  have f : Fm (fun q => q.val = b.val) h (h.kill b) := (Fm.refl _ h).kill (.inr rfl)
  refine ⟨k.hp.fm f (fun q hq e => hb (.inl (by have : q = b := Pos.val_inj _ _ e
                                                rw [← this]; exact hq))) (fun e => h1 e.symm) (fun e => h2 e.symm), k.lV, k.nV, k.nC, k.nG, ?_⟩
  rw [get_kill_ne _ _ _ (fun e => hb (.inr e))]; exact k.gV

/-- all globals are made, or there is no room -/
theorem loadloop_w (hg : ∀ g ∈ p.globals.list, globalOk p g = true) (hc : len p.codes ≤ 200) (hgl : len p.globals ≤ 200) (hW : W ≤ 3000) {e : Env} {Q : XExit → Env → Heap → Prop} (w : WorldAt h V Y Z p .nils .nilp 0 0) (l : LInv W (p.globals.list.map (objOf p)) 0 Z r)
    (nC : ∀ q : Pos, h.next.val ≤ q.val → q.val ≠ Y.C.val ∧ q.val ≠ Y.G.val)
    (g12 : getE e (tt 12) = .ptr V 0) (g30 : getE e (tt 30) = p.globals.val PGlobal.enc) (g31 : getE e (tt 31) = I (len p.globals)) (g32 : getE e (tt 32) = I 0)
    (hq1 : 1 + 4 * p.globals.list.length ≤ W → ∀ e' h' Z' r' gl, WorldAt h' V Y Z' p gl .nilp (4 * len p.globals) 0 → LInv W (p.globals.list.map (objOf p)) p.globals.list.length Z' r' → GlAt (MW Y V) h.next.val h' gl p.globals.list.length → Fm (MW Y V) h h' → getE e' (tt 12) = .ptr V 0 → (∀ t : Nat, t < 4 → getE e' (tt t) = getE e (tt t)) → Q (.exit 0) e' h')
    (hq2 : ¬ 1 + 4 * p.globals.list.length ≤ W → ∀ e' h', Fm (MW Y V) h h' → getE e' (tt 8) = .nilp → getE e' (tt 9) = I 2 → Q .ret e' h') :
    Run X (.loop b_machine_Load_L0) e h Q := by
  obtain ⟨J, hJ⟩ : ∃ J : Nat → Env → Heap → Prop, ∀ k e1 h1, J k e1 h1 ↔ ∃ (i : Nat) (Z1 : HS) (r1 : RS) (gl : AVal), k = p.globals.list.length - i ∧ i ≤ p.globals.list.length ∧ getE e1 (tt 32) = I i ∧ WorldAt h1 V Y Z1 p gl .nilp (4 * i) 0 ∧ LInv W (p.globals.list.map (objOf p)) i Z1 r1 ∧ GlAt (MW Y V) h.next.val h1 gl i ∧ Fm (MW Y V) h h1 ∧ (∀ t : Nat, t < 4 ∨ t = 12 ∨ t = 30 ∨ t = 31 → getE e1 (tt t) = getE e (tt t)) := ⟨_, fun _ _ _ => Iff.rfl⟩
  refine Run.loop J (fun k e1 h1 hk => ?_) p.globals.list.length ((hJ _ _ _).2 ⟨0, Z, r, .nils, by omega, by omega, g32, w, l, .inl ⟨rfl, rfl⟩, Fm.refl _ _, fun _ _ => rfl⟩)
  obtain ⟨i, Z1, r1, gl, rfl, hi, g32, w1, l1, gla, f1, ge⟩ := (hJ _ _ _).1 hk
  rw [b_machine_Load_L0]
  by_cases hil : i < p.globals.list.length
  · obtain ⟨x, hx, hd⟩ := drop_at hil
    obtain ⟨q, a1⟩ := addr_val PGlobal.enc 3 (fun _ => rfl) p.globals i x hx
    obtain ⟨okx, hcode⟩ := glob_obj hg hc hx
    obtain ⟨co, fl, bt⟩ := x
    simp only [PGlobal.enc] at a1
    have hi' : (i : Int) < len p.globals := by simp only [len]; omega
    have hi2 : i < 1000 := by simp only [len] at hgl; omega
    have hw : IntKind.i64.wrap ((i : Int) + 1) = ((i + 1 : Nat) : Int) := by rw [wrap_small (by omega) (by omega)]; omega
    have kA : Kept h1 ((h1.new (Blk.ofL [I 0, .bool false, .int .u64 0])).put h1.next (Blk.ofL [I co, .bool fl, .int .u64 bt])) := ((Kept.refl h1).new _).put _ (Nat.le_refl _)
    have oA : Ow (MW Y V) ((h1.new (Blk.ofL [I 0, .bool false, .int .u64 0])).put h1.next (Blk.ofL [I co, .bool fl, .int .u64 bt])) h1.next (Blk.ofL [I co, .bool fl, .int .u64 bt]) := ⟨by simp [pv], w1.fresh (Nat.le_refl _), by simp⟩
    have wA := w1.kept kA
    have og := oA.get
    have hos : (p.globals.list.map (objOf p))[i]? = some (objOf p ⟨co, fl, bt⟩) := by rw [List.getElem?_map, hx]; rfl
    have hnr : ¬ 1 + 4 * (i + 1) ≤ W → ¬ 1 + 4 * p.globals.list.length ≤ W := by omega
    -- behind an object that is made
    have tail : ∀ {h2 : Heap} {e2 : Env}, 1 + 4 * (i + 1) ≤ W → WorldAt h2 V Y (Z1.more r1 (objOf p ⟨co, fl, bt⟩)) p gl .nilp (4 * ((i + 1 : Nat) : Int)) 0 → Fm (MW Y V) h1 h2 → getE e2 (tt 15) = I (1 + 4 * i) → getE e2 (tt 16) = .bool true → getE e2 (tt 32) = I i → (∀ t : Nat, t < 4 ∨ t = 12 ∨ t = 30 ∨ t = 31 → getE e2 (tt t) = getE e (tt t)) →
        Run X b_machine_Load_L0_S6 e2 h2 (blockK 1 (seqC X (.reg [
    pO 65 (.int .add .i64 (tt 32) (ii 1)),
    pO 32 (.mv (tt 65))]) (seqK (fun e' h' => ∃ j, j < p.globals.list.length - i ∧ J j e' h') Q))) := by
      intro h2 e2 hr w2 f2 e15 e16 e32 ge2
      have gV2 := w2.gV
      have hV2 : h.next.val ≤ h2.next.val := Nat.le_trans f1.next f2.next
      have f12 := f1.trans f2
      have gla2 := gla.fm f2
      obtain ⟨ad, had⟩ : ∃ ad, 1 + 4 * (i : Int) = ad := ⟨_, rfl⟩
      rw [had] at e15
      have hga : gaddr (i + 1) = gaddr i ++ [I ad] := by rw [gaddr_succ, had]
      -- the new row of addresses
      have nb : Kept h2 (h2.new (Blk.ofL [I ad])) := (Kept.refl h2).new _
      have w3 := w2.kept nb
      have gV3 := w3.gV
      have fb : (h2.new (Blk.ofL [I ad])).get h2.next = some (Blk.ofL [I ad]) := by simp
      -- what is left to do, whatever the append made
      have fin : ∀ {g : Heap} {e3 : Env} {n : Nat} {R : List AVal}, n = i + 1 → R = gaddr (i + 1) → WorldAt g V Y (Z1.more r1 (objOf p ⟨co, fl, bt⟩)) p gl .nilp (4 * ((i + 1 : Nat) : Int)) 0 → Fm (MW Y V) h g → g.next = h2.next.succ → getE e3 (tt 32) = I ((i + 1 : Nat) : Int) → (∀ t : Nat, t < 4 ∨ t = 12 ∨ t = 30 ∨ t = 31 → getE e3 (tt t) = getE e (tt t)) →
          ∃ j, j < p.globals.list.length - i ∧ J j e3 ((g.new (Blk.ofL R)).put V (wB p Y (.slice h2.next.succ 0 n false n 1) .nilp (4 * ((i + 1 : Nat) : Int)) 0)) := by
        rintro g e3 _ _ rfl rfl wg fg hgn e332 ge3
        rw [← hgn]
        have wg2 := (wg.kept ((Kept.refl g).new (Blk.ofL (gaddr (i + 1))))).set (.slice g.next 0 (i + 1) false (i + 1) 1) .nilp (4 * ((i + 1 : Nat) : Int)) 0
        refine ⟨p.globals.list.length - (i + 1), by omega, (hJ _ _ _).2 ⟨i + 1, _, _, _, rfl, by omega, e332, wg2, l1.step hos okx hr, ?_, (fg.new _).put _ (.inr (.inr rfl)), ge3⟩⟩
        refine .inr ⟨by omega, g.next, rfl, by rw [hgn]; simp [pv]; omega, by simp [pv], wg.fresh (Nat.le_refl _), ?_⟩
        have hne : V.val ≠ g.next.val := by have := wg.lV; omega
        rw [S.get_put_ne _ _ _ _ hne]; simp
      rw [b_machine_Load_L0_S6]
      have g0' : getE e2 (tt 12) = .ptr V 0 := by rw [ge2 12 (by omega), g12]
      have gfr : ∀ {e3 : Env}, (∀ t : Nat, t < 4 ∨ t = 12 ∨ t = 30 ∨ t = 31 → getE e3 (tt t) = getE e2 (tt t)) → (∀ t : Nat, t < 4 ∨ t = 12 ∨ t = 30 ∨ t = 31 → getE e3 (tt t) = getE e (tt t)) := fun hh t ht => (hh t ht).trans (ge2 t ht)
      rcases gla2 with ⟨hi0, rfl⟩ | ⟨hi0, b, rfl, hb1, hb2, hb3, hb4⟩
      · have ha := append_nil (h := h2.new (Blk.ofL [I ad])) fb
        have hg1 : [I ad] = gaddr (i + 1) := by rw [hga, hi0]; rfl
        have gV4 := (w3.kept ((Kept.refl _).new (Blk.ofL [I ad]))).gV
        simp only [wB] at gV2 gV3 gV4
        simp only [S.new_next] at ha gV4
        simp [e16, e15, g0', gV2, gV3, gV4, repl, ha, e32, hw]
        refine fin (n := 1) (by omega) hg1 w3 (f12.new _) (by simp) (by simp) (gfr fun t ht => ?_)
        simp
        repeat rw [if_neg (by omega)]
      · have hlen := gaddr_len i
        have hbne : b.val ≠ h2.next.val := by omega
        have hb5 : (h2.new (Blk.ofL [I ad])).get b = some (Blk.ofL (gaddr i)) := by rw [S.get_new_ne _ _ _ hb2]; exact hb4
        have ha := append_one (h := h2.new (Blk.ofL [I ad])) hb5 fb rfl (by omega) (by omega)
        rw [hlen] at ha
        have w4 := w3.killO hb3 (nC b hb1).1 (nC b hb1).2
        have gV4 := (w4.kept ((Kept.refl _).new (Blk.ofL (gaddr i ++ [I ad])))).gV
        simp only [wB] at gV2 gV3 gV4
        simp only [S.new_next] at ha gV4
        simp [e16, e15, g0', gV2, gV3, gV4, repl, ha, e32, hw]
        refine fin (n := i + 1) rfl hga.symm w4 ((f12.new _).kill (.inl hb1)) (by simp) (by simp) (gfr fun t ht => ?_)
        simp
        repeat rw [if_neg (by omega)]
    have gfe : ∀ {e3 : Env}, (∀ t : Nat, t < 4 ∨ t = 12 ∨ t = 30 ∨ t = 31 → getE e3 (tt t) = getE e1 (tt t)) → (∀ t : Nat, t < 4 ∨ t = 12 ∨ t = 30 ∨ t = 31 → getE e3 (tt t) = getE e (tt t)) := fun hh t ht => (hh t ht).trans (ge t ht)
    by_cases h0 : 0 ≤ co
    · obtain ⟨j, y, hj, hy, hf, ho⟩ := hcode h0
      simp only at hj
      subst hj
      simp [g32, ge, g12, g30, g31, hi', a1, og]
      rw [ho] at tail okx
      refine closure_w wA l1 hW hy hf okx (fun hr h2 w2 f2 => ?_) (fun hr h2 k2 => ?_)
      · simp
        refine tail hr w2 ((kA.fm _).trans f2) (by simp) (by simp) (by simp [g32]) (gfe fun t ht => ?_)
        simp
        repeat rw [if_neg (by omega)]
      · simp
        rw [b_machine_Load_L0_S6]
        simp
        exact hq2 (hnr hr) _ _ (f1.trans ((kA.trans k2).fm _)) (by simp) (by simp)
    · have ho : objOf p ⟨co, fl, bt⟩ = objNum fl bt := by simp only [objOf, if_neg h0]
      simp [g32, ge, g12, g30, g31, hi', a1, og, h0]
      rw [ho] at tail okx
      refine number_w wA l1 hW okx (fun hr h2 w2 f2 => ?_) (fun hr h2 k2 => ?_)
      · simp
        refine tail hr w2 ((kA.fm _).trans f2) (by simp) (by simp) (by simp [g32]) (gfe fun t ht => ?_)
        simp
        repeat rw [if_neg (by omega)]
      · simp
        rw [b_machine_Load_L0_S6]
        simp
        exact hq2 (hnr hr) _ _ (f1.trans ((kA.trans k2).fm _)) (by simp) (by simp)
  · have hi' : ¬ (i : Int) < len p.globals := by simp only [len]; omega
    have hil' : i = p.globals.list.length := by omega
    subst hil'
    simp [g32, ge, g31, hi']
    exact hq1 l1.room _ _ _ _ _ w1 l1 gla f1 (by simp [ge, g12]) fun t ht => by
      rw [g_put, if_neg (by omega)]; exact ge t (by omega)
end
end Go.Tw
end

section
open Go Go.Av Go.Ck
namespace Go.Tw
set_option linter.unusedSimpArgs false
set_option linter.unusedVariables false
theorem Fm.lift {M N : Pos → Prop} {h h1 h2 : Heap} (k : Kept h h1) (f : Fm M h1 h2) (hm : ∀ q : Pos, q.val < h.next.val → M q → N q) : Fm N h h2 :=
  ⟨Nat.le_trans k.next f.next, fun q hq hn => by rw [f.get q (Nat.lt_of_lt_of_le hq k.next) (fun h => hn (hm q hq h))]; exact k.get q hq⟩
theorem append_empty {h : Heap} {b : Pos} (hb : h.get b = some (Blk.ofL [])) : appendA h 1 8 (.slice b 0 0 true 0 1) .nils = some (.slice b 0 0 true 0 1, h.put b (Blk.ofL [])) := by
  simp [appendA, lenOf, elemsOf, hb, storeAt, Blk.ofL, Bt.sets]
theorem append_row {h : Heap} {b b2 : Pos} {l : List AVal} (hb : h.get b = some (Blk.ofL [])) (hb2 : h.get b2 = some (Blk.ofL l)) (hx : l.all AVal.scalar = true) (h0 : 0 < l.length) (h1 : l.length < 1000000) :
    appendA h 1 8 (.slice b 0 0 true 0 1) (.slice b2 0 l.length false l.length 1) = some (.slice h.next 0 l.length false l.length 1, h.new (Blk.ofL l)) := by
  have e2 : (Bt.ofL l.length l).slice 0 l.length = some l := by rw [Bt.slice_ofL l.length l (Nat.le_refl _) l.length 0 (by omega)]; simp
  have e3 : (Bt.ofL 0 ([] : List AVal)).slice 0 0 = some [] := rfl
  have hle : ¬ l.length ≤ 0 := by omega
  have hle2 : (2 * l.length + 1000) * 8 ≤ 281474976710656 := by omega
  have hle3 : l ≠ [] := by intro e; rw [e] at h0; exact absurd h0 (by decide)
  simp only [appendA, lenOf, elemsOf, hb, hb2, Blk.ofL, Nat.zero_add, Nat.zero_mul, Nat.mul_one, S.nble, S.nbeq, Nat.le_refl, decide_true, Bool.and_self, cond_true, e2, List.length_nil, e3, hx, hle, decide_false, cond_false, hle2, List.nil_append]
theorem gaddr_scalar (k : Nat) : (gaddr k).all AVal.scalar = true := by simp [gaddr]

section
variable {h : Heap} {Y : HLay} {Z : HS} {V : Pos} {p : PProg} {W : Nat} {r : RS}
/-- a copy of the globals' row -/
theorem clone_w {M : Pos → Prop} {lo k : Nat} {gl : AVal} (g : GlAt M lo h gl k) (hk : k ≤ 200) {Q : AVal → Heap → Prop} (hq : ∀ h' v, Kept h h' → v.cells = [v] → Q v h') : Cal X n_slices_Clone_int64_int64 [gl] h Q := by
  refine Cal.go (u_slices_Clone_int64_int64 _ _ rfl) ?_
  rw [b_slices_Clone_int64_int64]
  rcases g with ⟨rfl, rfl⟩ | ⟨h0, b, rfl, h2, h3, h4, h5⟩
  · simp [nilEq]
    exact hq _ _ (Kept.refl h) rfl
  · have hl := gaddr_len k
    have h6 : (h.new (Blk.ofL [])).get b = some (Blk.ofL (gaddr k)) := by rw [S.get_new_ne _ _ _ h3]; exact h5
    have ha := append_row (h := h.new (Blk.ofL [])) (b := h.next) (by simp) h6 (gaddr_scalar k) (by omega) (by omega)
    rw [hl] at ha
    simp [nilEq, repl, ha]
    exact hq _ _ (((Kept.refl h).new _).new _) rfl
theorem clonest_w {Q : AVal → Heap → Prop} (hq : Q .nils h) : Cal X n_slices_Clone_stack_Stack_stack_Stack [.nils] h Q := by
  refine Cal.go (u_slices_Clone_stack_Stack_stack_Stack _ _ rfl) ?_
  rw [b_slices_Clone_stack_Stack_stack_Stack]
  simpa [nilEq] using hq
theorem mark_New_w {v : AVal} (hv : v.cells = [v]) {Q : AVal → Heap → Prop} (hq : ∀ h' b, Kept h h' → Q (.ptr b 0) h') : Cal X n_mark_New [v] h Q := by
  refine Cal.go (u_mark_New _ _ rfl) ?_
  rw [b_mark_New]
  simp [hv]
  exact hq _ _ ((Kept.refl h).new _)
theorem weak_New_w {v f : AVal} (hv : v.cells = [v]) (hf : f.cells = [f]) {Q : AVal → Heap → Prop} (hq : ∀ h' b, Kept h h' → Q (.ptr b 0) h') : Cal X n_weak_New [v, f] h Q := by
  refine Cal.go (u_weak_New _ _ rfl) ?_
  rw [b_weak_New]
  simp [hv, hf]
  exact hq _ _ ((Kept.refl h).new _)
theorem cycle_New_w {M : Pos → Prop} {lo k : Nat} {gl : AVal} {H : Pos} {f : Nat} {fa fc : List AVal} (g : GlAt M lo h gl k) (hk : k ≤ 200) {Q : AVal → Heap → Prop} (hq : ∀ h' b, Kept h h' → Q (.ptr b 0) h') : Cal X n_cycle_New [.ptr H 0, gl, .nils, .func f fa fc] h Q := by
  refine Cal.go (u_cycle_New _ _ rfl) ?_
  rw [b_cycle_New]
  simp
  refine mark_New_w rfl fun h1 b1 k1 => ?_
  simp
  refine clone_w (g.fm (k1.fm _)) hk fun h2 v k2 hv => ?_
  simp
  refine clonest_w ?_
  simp [hv]
  refine weak_New_w rfl rfl fun h3 b3 k3 => ?_
  have g3 : h3.get h2.next = some (Blk.ofL [.ptr H 0, .ptr b1 0, .nilp, v, .nils, .func f fa fc, I 0, I 0, .nils, I 0, .nils]) := by
    rw [k3.get _ (by simp [pv])]; simp
  simp [g3]
  have k13 := (k1.trans k2)
  exact hq _ _ ((((k13.new _).trans k3)).put _ k13.next)

/-- a world is loaded, or told why not -/
theorem load_world (hi : PIn p) (hc : len p.codes ≤ 200) (hgl : len p.globals ≤ 200) (hW : W ≤ 3000) (hp : HeapAt h Y Z) (l : LInv W (p.globals.list.map (objOf p)) 0 Z r) {f : Nat} {fa fc : List AVal} {Q : AVal → Heap → Prop}
    (hq1 : chk p ≠ 0 → ∀ h', Kept h h' → Q (.tup [.nilp, I (chk p)]) h')
    (hq2 : chk p = 0 → ¬ 1 + 4 * p.globals.list.length ≤ W → ∀ h', Fm (MH Y) h h' → Q (.tup [.nilp, I 2]) h')
    (hq3 : chk p = 0 → 1 + 4 * p.globals.list.length ≤ W → ∀ h' V Z' r' gl cv, h.next.val ≤ V.val → WorldAt h' V Y Z' p gl cv (4 * len p.globals) 0 → LInv W (p.globals.list.map (objOf p)) p.globals.list.length Z' r' → GlAt (MW Y V) h.next.val h' gl p.globals.list.length → Fm (MH Y) h h' → Q (.tup [.ptr V 0, I 0]) h') :
    Cal X n_machine_Load [.agg p.enc, .ptr Y.H 0, .nils, .func f fa fc] h Q := by
  refine Cal.go (u_machine_Load _ _ rfl) ?_
  rw [b_machine_Load]
  have hpe : p.enc = [p.cons.val PCon.enc, p.codes.val PCode.enc, p.nodes.val PNode.enc, p.globals.val PGlobal.enc, I p.main] := rfl
  have kb : Kept h (h.new (Blk.ofL p.enc)) := (Kept.refl h).new _
  have gb : (h.new (Blk.ofL p.enc)).get h.next = some (Blk.ofL p.enc) := by simp
  have hlt : h.next.val < (h.new (Blk.ofL p.enc)).next.val := by simp [pv]
  simp [hpe]
  rw [← hpe]
  refine check_w hi fun h1 j k1 hj => ?_
  have gb1 : h1.get h.next = some (Blk.ofL p.enc) := by rw [k1.get _ hlt]; exact gb
  have kb1 := kb.trans k1
  rw [hpe] at gb1
  by_cases hz : chk p = 0
  · have hp1 := hp.kept kb1
    have hlen : len p.globals = p.globals.list.length := rfl
    have gb2 : (h1.new (Blk.ofL [p.cons.val PCon.enc, p.codes.val PCode.enc, p.nodes.val PNode.enc, p.globals.val PGlobal.enc, I p.main, .ptr Y.H 0, .nils, .nilp, I 0, I 0])).get h.next = some (Blk.ofL [p.cons.val PCon.enc, p.codes.val PCode.enc, p.nodes.val PNode.enc, p.globals.val PGlobal.enc, I p.main]) := by
      rw [S.get_new_ne _ _ _ (Nat.lt_of_lt_of_le hlt k1.next)]; exact gb1
    simp [hz, gb1, gb2, lenSl_val]
    have hV : ¬ MH Y h1.next := by
      rintro (h | h | h | ⟨R, hR, h⟩)
      · have := hp1.ar.la; omega
      · have := hp1.ar.lw; omega
      · have := hp1.lH; omega
      · obtain ⟨i, hi⟩ := List.getElem?_of_mem hR
        have hl := (List.getElem?_eq_some_iff.1 hi).1
        have hl2 : i < Z.rings.length := by rw [hp.l2]; exact hl
        have := (hp1.rg i R _ hi (List.getElem?_eq_getElem hl2)).lr
        omega
    have nV : ∀ q : Pos, h1.next.val ≤ q.val → q.val ≠ Y.C.val ∧ q.val ≠ Y.G.val := fun q hq => by
      have := hp1.lC; have := hp1.lG; omega
    have w0 : WorldAt (h1.new (wB p Y .nils .nilp 0 0)) h1.next Y Z p .nils .nilp 0 0 := ⟨hp1.kept ((Kept.refl h1).new _), by simp [pv], hV, (nV _ (Nat.le_refl _)).1, (nV _ (Nat.le_refl _)).2, by simp⟩
    have hgo : ∀ g ∈ p.globals.list, globalOk p g = true := by
      have h0 : chkRoots p 0 = 0 := Classical.byContradiction fun hne => by simp [chk, hne] at hz
      have := chkMain_zero h0
      exact chkGlobals_zero _ this
    refine loadloop_w hgo hc hgl hW w0 l (fun q hq => nV q (by simp [pv] at hq; omega)) (by simp) (by simp) (by simp) (by simp) (fun hr e2 h2 Z2 r2 gl w2 l2 g2 f2 e12 ge => ?_) (fun hr e2 h2 f2 e8 e9 => ?_)
    · have gV := w2.gV
      simp only [wB] at gV
      simp [e12, ge, gV]
      refine cycle_New_w g2 (by simp only [len] at hgl; omega) fun h3 b3 k3 => ?_
      have w3 := w2.kept k3
      have gV3 := w3.gV
      simp only [wB] at gV3
      simp [gV3, e12]
      have w4 := w3.set gl (.ptr b3 0) (4 * len p.globals) 0
      have hge : h.next.val ≤ h1.next.val := kb1.next
      have hin : ∀ q : Pos, q.val < h.next.val → MW Y h1.next q → MH Y q := fun q hq hm => hm.resolve_right (by omega)
      have fW : Fm (MW Y h1.next) (h1.new (wB p Y .nils .nilp 0 0)) (h3.put h1.next (wB p Y gl (.ptr b3 0) (4 * len p.globals) 0)) := (f2.trans (k3.fm _)).put _ (.inr (.inr rfl))
      refine hq3 hz hr _ h1.next Z2 r2 gl (.ptr b3 0) hge w4 l2 ?_ (Fm.lift (kb1.new _) fW hin)
      have g5 : GlAt (MW Y h1.next) (h1.new (wB p Y .nils .nilp 0 0)).next.val (h3.put h1.next (wB p Y gl (.ptr b3 0) (4 * len p.globals) 0)) gl p.globals.list.length := (g2.fm (k3.fm _)).fm (Fm.put (Fm.refl _ _) _ (.inr (.inr rfl)))
      rcases g5 with g5 | ⟨g6, b, g7, g8, g9⟩
      · exact .inl g5
      · exact .inr ⟨g6, b, g7, by simp [pv] at g8; omega, g9⟩
    · simp [e8, e9]
      have hin : ∀ q : Pos, q.val < h.next.val → MW Y h1.next q → MH Y q := fun q hq hm => hm.resolve_right (by have := kb1.next; omega)
      exact hq2 hz hr _ (Fm.lift (kb1.new _) f2 hin)
  · simp [hz]
    exact hq1 hz _ kb1
end
end Go.Tw
end

section
open Go Go.Av Go.Ck
namespace Go.Tw
set_option linter.unusedSimpArgs false
set_option linter.unusedVariables false
theorem append_row' {h : Heap} {b b2 : Pos} {l : List AVal} {ex : Bool} {c : Nat} (hb : h.get b = some (Blk.ofL [])) (hb2 : h.get b2 = some (Blk.ofL l)) (hx : l.all AVal.scalar = true) (h0 : 0 < l.length) (h1 : l.length < 1000000) :
    appendA h 1 8 (.slice b 0 0 true 0 1) (.slice b2 0 l.length ex c 1) = some (.slice h.next 0 l.length false l.length 1, h.new (Blk.ofL l)) := by
  have e2 : (Bt.ofL l.length l).slice 0 l.length = some l := by rw [Bt.slice_ofL l.length l (Nat.le_refl _) l.length 0 (by omega)]; simp
  have e3 : (Bt.ofL 0 ([] : List AVal)).slice 0 0 = some [] := rfl
  have hle : ¬ l.length ≤ 0 := by omega
  have hle2 : (2 * l.length + 1000) * 8 ≤ 281474976710656 := by omega
  simp only [appendA, lenOf, elemsOf, hb, hb2, Blk.ofL, Nat.zero_add, Nat.zero_mul, Nat.mul_one, S.nble, S.nbeq, Nat.le_refl, decide_true, Bool.and_self, cond_true, e2, List.length_nil, e3, hx, hle, decide_false, cond_false, hle2, List.nil_append]
section
variable {h : Heap}
def cfg1 (words : Int) (b : Pos) : List AVal := [I words, I 0, I 0, I 0, I 0, I 0, .slice b 0 1 true 1 1]
theorem right_w {words : Int} {b : Pos} (h1 : 1 ≤ words) (h2 : words ≤ 3000) (hb : h.get b = some (Blk.ofL [I 1])) (lb : b.val < h.next.val) {Q : AVal → Heap → Prop} (hq : ∀ h', Kept h h' → Q (.bool true) h') : Cal X n_heap_right [.agg [I words, I 0, I 0, I 0, I 0, I 0, .slice b 0 1 true 1 1]] h Q := by
  refine Cal.go (u_heap_right _ _ rfl) ?_
  rw [b_heap_right]
  have n1 : ¬ words < 1 := by omega
  have n2 : ¬ 65536 < words := by omega
  have n3 : ¬ words ≤ 0 := by omega
  have gb : (h.new (Blk.ofL [I words, I 0, I 0, I 0, I 0, I 0, .slice b 0 1 true 1 1])).get b = some (Blk.ofL [I 1]) := by rw [S.get_new_ne _ _ _ lb]; exact hb
  simp [n1, n2, n3, lenSlA]
  generalize hL : XCode.loop b_heap_right_L0 = L
  have hW : ∀ {e : Env} {h : Heap} {Q : XExit → Env → Heap → Prop}, Run X b_heap_right_L0 e h (seqC X L Q) → Run X L e h Q := by
    rw [← hL]; exact w_loop
  refine hW ?_
  rw [b_heap_right_L0]
  simp [addrSlA, gb, wrap_small]
  refine hW ?_
  rw [b_heap_right_L0]
  simp
  exact hq _ ((Kept.refl h).new _)
theorem arena_New_w {words : Nat} (h1 : 1 ≤ words) (h2 : words ≤ 60000) {Q : AVal → Heap → Prop}
    (hq : ∀ h', Kept h h' → h'.next.val = h.next.val + 2 → ArenaAt h' h.next.succ h.next ⟨words, fun _ => 0, 0⟩ → Q (.tup [.ptr h.next.succ 0, I 0]) h') : Cal X n_arena_New [I words] h Q := by
  refine Cal.go (u_arena_New _ _ rfl) ?_
  rw [b_arena_New]
  have n1 : ¬ (words : Int) < 1 := by omega
  have n2 : ¬ (65536 : Int) < words := by omega
  have n3 : ¬ 65536 < words := by omega
  have n4 : ¬ words < 1 := by omega
  have n5 : words * 8 ≤ 140737488355328 := by omega
  have n6 : words ≤ 1073741824 := by omega
  have n7 : ¬ words = 0 := by omega
  simp [n1, n2, n3, n4, n5, n6, n7]
  refine hq _ (((Kept.refl h).new _).new _) (by simp [pv]) ⟨by simp [pv], by simp [pv]; omega, by simp [pv], by simp only; omega, by simp, Bt.rep (I 0) 31 words, ?_, fun i hi => ?_⟩
  · rw [S.get_new_ne _ _ _ (by simp [pv]), S.get_new_self]; rfl
  · rw [Bt.get_rep _ _ _ _ (by simp only at hi; omega), if_pos hi]
theorem ring_New_w {A : Pos} {Q : AVal → Heap → Prop} (hq : Q (.ptr h.next 0) (h.new (ringB A ⟨0, 0, 0, 0, 0, 0⟩))) : Cal X n_ring_New [.ptr A 0] h Q := by
  refine Cal.go (u_ring_New _ _ rfl) ?_
  rw [b_ring_New]
  simp
  exact hq
theorem extent_New_w {words : Int} (h1 : 1 ≤ words) (h2 : words ≤ 3000) {Q : AVal → Heap → Prop} (hq : ∀ h', Kept h h' → Q (.tup [.ptr h.next 0, I 0]) h') : Cal X n_extent_New [I words, I 0] h Q := by
  refine Cal.go (u_extent_New _ _ rfl) ?_
  rw [b_extent_New]
  have n1 : ¬ words < 0 := by omega
  have n2 : ¬ 65536 < words := by omega
  simp [n1, n2]
  exact hq _ ((Kept.refl h).new _)
theorem cloneint_w {b : Pos} (hb : h.get b = some (Blk.ofL [I 1])) (lb : b.val < h.next.val) {Q : AVal → Heap → Prop} (hq : Q (.slice h.next.succ 0 1 false 1 1) ((h.new (Blk.ofL [])).new (Blk.ofL [I 1]))) : Cal X n_slices_Clone_int_int [.slice b 0 1 true 1 1] h Q := by
  refine Cal.go (u_slices_Clone_int_int _ _ rfl) ?_
  rw [b_slices_Clone_int_int]
  have h6 : (h.new (Blk.ofL [])).get b = some (Blk.ofL [I 1]) := by rw [S.get_new_ne _ _ _ lb]; exact hb
  have ha := append_row' (h := h.new (Blk.ofL [])) (b := h.next) (ex := true) (c := 1) (by simp) h6 rfl (by decide) (by decide)
  simp only [List.length_cons, List.length_nil] at ha
  simp [nilEq, repl] at ha ⊢
  simp [ha]
  exact hq
end
end Go.Tw
end

section
open Go Go.Av Go.Ck
namespace Go.Tw
set_option linter.unusedSimpArgs false
set_option linter.unusedVariables false
section
variable {h : Heap}
theorem heap_New_w {words : Nat} {os : List GObj} (h1 : 1 ≤ words) (h2 : words ≤ 3000) {b : Pos} (hb : h.get b = some (Blk.ofL [I 1])) (lb : b.val < h.next.val) {Q : AVal → Heap → Prop}
    (hq : ∀ h' Y Z r, Kept h h' → HeapAt h' Y Z → LInv words os 0 Z r → (∀ q, MH Y q ∨ q.val = Y.C.val ∨ q.val = Y.G.val → h.next.val ≤ q.val) → Q (.tup [.ptr Y.H 0, I 0]) h') :
    Cal X n_heap_New [.agg [I words, I 0, I 0, I 0, I 0, I 0, .slice b 0 1 true 1 1]] h Q := by
  refine Cal.go (u_heap_New _ _ rfl) ?_
  rw [b_heap_New]
  simp
  have lb0 : b.val < (h.new (Blk.ofL [I words, I 0, I 0, I 0, I 0, I 0, .slice b 0 1 true 1 1])).next.val := by simp [pv]; omega
  have hb0 : (h.new (Blk.ofL [I words, I 0, I 0, I 0, I 0, I 0, .slice b 0 1 true 1 1])).get b = some (Blk.ofL [I 1]) := by rw [S.get_new_ne _ _ _ lb]; exact hb
  have lc0 : h.next.val < (h.new (Blk.ofL [I words, I 0, I 0, I 0, I 0, I 0, .slice b 0 1 true 1 1])).next.val := by simp [pv]
  have hc0 : (h.new (Blk.ofL [I words, I 0, I 0, I 0, I 0, I 0, .slice b 0 1 true 1 1])).get h.next = some (Blk.ofL [I words, I 0, I 0, I 0, I 0, I 0, .slice b 0 1 true 1 1]) := by simp
  have k0 : Kept h (h.new (Blk.ofL [I words, I 0, I 0, I 0, I 0, I 0, .slice b 0 1 true 1 1])) := (Kept.refl h).new _
  generalize h.new (Blk.ofL [I words, I 0, I 0, I 0, I 0, I 0, .slice b 0 1 true 1 1]) = g0 at *
  refine right_w (by omega) (by omega) hb0 lb0 fun g1 k1 => ?_
  have hc1 := k1.get _ lc0
  rw [hc0] at hc1
  have hb1 := k1.get _ lb0
  rw [hb0] at hb1
  simp [hc1]
  refine arena_New_w h1 (by omega) fun g2 k2 n2 a2 => ?_
  have hc2 := k2.get _ (Nat.lt_of_lt_of_le lc0 k1.next)
  rw [hc1] at hc2
  have hb2 := k2.get _ (Nat.lt_of_lt_of_le lb0 k1.next)
  rw [hb1] at hb2
  have lb2 := Nat.lt_of_lt_of_le lb0 (k1.trans k2).next
  have lc2 := Nat.lt_of_lt_of_le lc0 (k1.trans k2).next
  have k02 := k0.trans (k1.trans k2)
  have lA2 : g1.next.succ.val < g2.next.val := a2.la
  have lW2 : g1.next.val < g2.next.val := a2.lw
  have hge1 : h.next.val ≤ g1.next.val := (k0.trans k1).next
  simp
  obtain ⟨C, hC⟩ : ∃ C, g2.next.succ = C := ⟨_, rfl⟩
  have hCv : C.val = g2.next.val + 1 := by rw [← hC]; simp [pv]
  obtain ⟨A, hA⟩ : ∃ A, g1.next.succ = A := ⟨_, rfl⟩
  have hAv : A.val = g1.next.val + 1 := by rw [← hA]; simp [pv]
  rw [hA] at a2 lA2 ⊢
  obtain ⟨v3, g3, c3, hv3, k3, n3, gC3⟩ := cloneint_w (h := g2) hb2 lb2 (Q := fun v h' => v = .slice C 0 1 false 1 1 ∧ Kept g2 h' ∧ h'.next.val = g2.next.val + 2 ∧ h'.get C = some (Blk.ofL [I 1])) ⟨by rw [hC], ((Kept.refl _).new _).new _, by simp [pv], by rw [← hC, show g2.next.succ = (g2.new (Blk.ofL [])).next from by simp, S.get_new_self]⟩
  subst hv3
  obtain ⟨R, hR⟩ : ∃ R, g3.next = R := ⟨_, rfl⟩
  obtain ⟨v4, g4, c4, hv4, k4, n4, gR4⟩ := ring_New_w (h := g3) (A := A) (Q := fun v h' => v = .ptr R 0 ∧ Kept g3 h' ∧ h'.next.val = g3.next.val + 1 ∧ h'.get R = some (ringB A ⟨0, 0, 0, 0, 0, 0⟩)) ⟨by rw [hR], (Kept.refl _).new _, by simp [pv], by rw [← hR]; simp⟩
  subst hv4
  have hc3 := k3.get _ lc2
  rw [hc2] at hc3
  have hc4 := k4.get _ (Nat.lt_of_lt_of_le lc2 k3.next)
  rw [hc3] at hc4
  have w1 : IntKind.i64.wrap (words : Int) = words := wrap_small (by omega) (by omega)
  refine w_dreg (by simp only [tr_cons, tr_nil]; simp [op_p, op_r, op_c, op_f, op_fN, hc2, c3, c4, hc4, w1]; rfl) (by simp [do_nil, do_skip, do_read, hc2, hc3, hc4, same_iff]) rfl ?_
  obtain ⟨H, hH⟩ : ∃ H, g4.next = H := ⟨_, rfl⟩
  simp only [hH]
  have hHv : g4.next.val = H.val := by rw [hH]
  have hge4 : h.next.val ≤ H.val := by rw [← hH]; have := (k02.trans (k3.trans k4)).next; omega
  obtain ⟨g5, h5⟩ : ∃ g5, g4.new (Blk.ofL [.ptr A 0, .slice C 0 1 false 1 1, .nils, .ptr R 0, .nilp, I 1, I words, I 0]) = g5 := ⟨_, rfl⟩
  have k5 : Kept g4 g5 := by rw [← h5]; exact (Kept.refl _).new _
  have n5 : g5.next.val = g4.next.val + 1 := by rw [← h5]; simp [pv]
  have gH5 : g5.get H = some (Blk.ofL [.ptr A 0, .slice C 0 1 false 1 1, .nils, .ptr R 0, .nilp, I 1, I words, I 0]) := by rw [← h5, ← hH]; simp
  have hc5 := k5.get _ (Nat.lt_of_lt_of_le lc2 (k3.trans k4).next)
  rw [hc4] at hc5
  simp [h5, gH5, hc5]
  refine extent_New_w (by omega) (by omega) fun g6 k6 => ?_
  have gH6 := k6.get H (by omega)
  rw [gH5] at gH6
  have lH6 : H.val < g6.next.val := by have := k6.next; omega
  simp [gH6]
  obtain ⟨E, hE⟩ : ∃ E, g5.next = E := ⟨_, rfl⟩
  simp only [hE]
  obtain ⟨g7, h7⟩ : ∃ g7, g6.put H (Blk.ofL [.ptr A 0, .slice C 0 1 false 1 1, .nils, .ptr R 0, .ptr E 0, I 1, I words, I 0]) = g7 := ⟨_, rfl⟩
  have gH7 : g7.get H = some (Blk.ofL [.ptr A 0, .slice C 0 1 false 1 1, .nils, .ptr R 0, .ptr E 0, I 1, I words, I 0]) := by rw [← h7]; simp
  have n7 : g7.next = g6.next := by rw [← h7]; simp
  have o7 : ∀ q : Pos, q.val < g4.next.val → g7.get q = g4.get q := fun q hq => by
    rw [← h7, S.get_put_ne _ _ _ _ (by omega), k6.get _ (by omega), k5.get _ hq]
  have hc7 := o7 _ (Nat.lt_of_lt_of_le lc2 (k3.trans k4).next)
  rw [hc4] at hc7
  simp [h7, hc7, lenSlA]
  generalize hL : XCode.loop b_heap_New_L0 = L
  have hW : ∀ {e : Env} {h : Heap} {Q : XExit → Env → Heap → Prop}, Run X b_heap_New_L0 e h (seqC X L Q) → Run X L e h Q := by
    rw [← hL]; exact w_loop
  refine hW ?_
  rw [b_heap_New_L0]
  simp
  have lA7 : A.val < g7.next.val := by rw [n7]; have := k6.next; have := k3.next; have := k4.next; omega
  obtain ⟨R2, hR2⟩ : ∃ R2, g7.next = R2 := ⟨_, rfl⟩
  have hR2v : g7.next.val = R2.val := by rw [hR2]
  have gH7' : (g7.new (ringB A ⟨0, 0, 0, 0, 0, 0⟩)).get H = some (Blk.ofL [.ptr A 0, .slice C 0 1 false 1 1, .nils, .ptr R 0, .ptr E 0, I 1, I words, I 0]) := by
    rw [S.get_new_ne _ _ _ (by rw [n7]; omega)]; exact gH7
  obtain ⟨v8, g8, c8, hv8, k8, n8, gR8⟩ := ring_New_w (h := g7) (A := A) (Q := fun v h' => v = .ptr R2 0 ∧ Kept g7 h' ∧ h'.next.val = g7.next.val + 1 ∧ h'.get R2 = some (ringB A ⟨0, 0, 0, 0, 0, 0⟩)) ⟨by rw [hR2], (Kept.refl _).new _, by simp [pv], by rw [← hR2]; simp⟩
  subst hv8
  have gH8 := k8.get H (by rw [n7]; omega)
  rw [gH7] at gH8
  have gH9 : (g8.new (Blk.ofL [.ptr R2 0])).get H = some (Blk.ofL [.ptr A 0, .slice C 0 1 false 1 1, .nils, .ptr R 0, .ptr E 0, I 1, I words, I 0]) := by
    rw [S.get_new_ne _ _ _ (by rw [n8, n7]; omega)]; exact gH8
  have fb : (g8.new (Blk.ofL [.ptr R2 0])).get g8.next = some (Blk.ofL [.ptr R2 0]) := by simp
  have hap := append_nil fb
  obtain ⟨G, hG⟩ : ∃ G, (g8.new (Blk.ofL [.ptr R2 0])).next = G := ⟨_, rfl⟩
  have hGv : G.val = g8.next.val + 1 := by rw [← hG]; simp [pv]
  obtain ⟨g10, h10⟩ : ∃ g10, (g8.new (Blk.ofL [.ptr R2 0])).new (Blk.ofL [.ptr R2 0]) = g10 := ⟨_, rfl⟩
  have n10 : g10.next.val = g8.next.val + 2 := by rw [← h10]; simp [pv]
  have k10 : Kept g8 g10 := by rw [← h10]; exact ((Kept.refl _).new _).new _
  have gG10 : g10.get G = some (Blk.ofL [.ptr R2 0]) := by rw [← h10, ← hG]; exact S.get_new_self _ _
  have gH10 := k10.get H (by rw [n8, n7]; omega)
  rw [gH8] at gH10
  rw [hG, h10] at hap
  refine w_dreg (by simp only [tr_cons, tr_nil]; simp [op_p, op_r, op_c, op_f, op_fN, repl, gH7, c8, gH8, gH9, hap, gH10]; rfl) (by simp [do_nil, do_skip, do_read, gH7, gH8, gH9, gH10, same_iff]) rfl ?_
  simp
  refine hW ?_
  rw [b_heap_New_L0]
  have hw1 : IntKind.i64.wrap 1 = 1 := by decide
  simp [hw1]
  obtain ⟨g11, h11⟩ : ∃ g11, g10.put H (Blk.ofL [.ptr A 0, .slice C 0 1 false 1 1, .slice G 0 1 false 1 1, .ptr R 0, .ptr E 0, I 1, I words, I 0]) = g11 := ⟨_, rfl⟩
  simp only [h11]
  have gH11 : g11.get H = some (Blk.ofL [.ptr A 0, .slice C 0 1 false 1 1, .slice G 0 1 false 1 1, .ptr R 0, .ptr E 0, I 1, I words, I 0]) := by rw [← h11]; simp
  have n11 : g11.next.val = g8.next.val + 2 := by rw [← h11]; exact n10
  -- all that was made ahead of the heap's block lies as it lay
  have n56 := k6.next
  have n34 := k3.next
  have e7 : g7.next.val = g6.next.val := by rw [n7]
  have hlow : ∀ q : Pos, q.val < g4.next.val → g11.get q = g4.get q := fun q hq => by
    rw [← h11, S.get_put_ne _ _ _ _ (by omega), k10.get _ (by omega), k8.get _ (by omega), o7 _ hq]
  have hmid : ∀ q : Pos, q.val ≠ H.val → q.val < g8.next.val → g11.get q = g8.get q := fun q hq hq' => by
    rw [← h11, S.get_put_ne _ _ _ _ (by omega), k10.get _ hq']
  have k4a : Kept g2 g4 := k3.trans k4
  have n4a := k4a.next
  have a4 : ArenaAt g4 A g1.next ⟨words, fun _ => 0, 0⟩ := a2.fm (M := fun _ => False) (k4a.fm _) (fun h => h) (fun h => h)
  have f411 : Fm (fun q => q.val = H.val) g4 g11 := ⟨by omega, fun q hq _ => hlow q hq⟩
  have a11 : ArenaAt g11 A g1.next ⟨words, fun _ => 0, 0⟩ := a4.fm f411 (by omega) (by omega)
  have nWA := a11.ne
  have kk : Kept h g11 := ⟨by have := k02.next; omega, fun q hq => by rw [hlow q (by have := k02.next; omega), k4a.get q (by have := k02.next; omega), k02.get q hq]⟩
  have gR11 : g11.get R2 = some (ringB A ⟨0, 0, 0, 0, 0, 0⟩) := by rw [hmid R2 (by omega) (by omega)]; exact gR8
  have hMH : ∀ q : Pos, MH ⟨A, g1.next, C, G, H, R, E, [R2]⟩ q ↔ q.val = A.val ∨ q.val = g1.next.val ∨ q.val = H.val ∨ q.val = R2.val := fun q => by simp [MH]
  refine hq g11 ⟨A, g1.next, C, G, H, R, E, [R2]⟩ ⟨⟨words, fun _ => 0, 0⟩, [1], [⟨0, 0, 0, 0, 0, 0⟩], 1, words, 0⟩ ⟨0, 0, 0, 0, 0, 0⟩ kk ?_ ?_ ?_
  · refine ⟨a11, by simp only; omega, by simp only; omega, by simp only; omega, ⟨by simp only; omega, by simp only; omega, fun R hR => ?_⟩, ?_, ?_, gH11, ?_, ?_, rfl, rfl, ?_, ?_⟩
    · simp at hR; subst hR; simp only; omega
    · rw [hMH]; simp only; omega
    · rw [hMH]; simp only; omega
    · show g11.get C = _
      rw [hlow C (by omega), k4.get _ (by omega)]; exact gC3
    · show g11.get G = _
      rw [← h11, S.get_put_ne _ _ _ _ (by omega)]; exact gG10
    · intro k R' r' e1 e2
      rcases k with _ | k
      · simp at e1 e2; subst e1 e2
        exact ⟨a11, by omega, by simp only; omega, by simp only; omega, ⟨by simp, by simp, by simp, by simp⟩, gR11⟩
      · simp at e1
    · intro k j R' R'' e1 e2 hkj
      rcases k with _ | k <;> rcases j with _ | j <;> simp at e1 e2 hkj
  · exact ⟨rfl, rfl, rfl, rfl, rfl, rfl, ⟨rfl, rfl, rfl, rfl⟩, fun h => absurd h (by omega), by omega, by omega, fun j o _ h => absurd h (by omega)⟩
  · intro q hq
    rw [hMH] at hq
    simp only at hq
    omega
end
end Go.Tw
end
