/- A world is loaded just if its program is right and there is room for its globals, else the checker's error or ErrFull is told (the law MachineLoads, whatever the input). Conditions: none. This file: part K. -/
import Derived.Test.YtgghlkikgebipaaGreatJ
set_option linter.all false

section
open Go Go.Av Go.Ck
namespace Go.Tw
set_option linter.unusedSimpArgs false
set_option linter.unusedVariables false
/-- all but some blocks as they were -/
structure Fm (M : Pos → Prop) (h h' : Heap) : Prop where
  next : h.next.val ≤ h'.next.val
  get : ∀ q : Pos, q.val < h.next.val → ¬ M q → h'.get q = h.get q
theorem Fm.refl (M : Pos → Prop) (h : Heap) : Fm M h h := ⟨Nat.le_refl _, fun _ _ _ => rfl⟩
theorem Fm.trans {M : Pos → Prop} {h h1 h2 : Heap} (a : Fm M h h1) (b : Fm M h1 h2) : Fm M h h2 :=
  ⟨Nat.le_trans a.next b.next, fun q hq hm => (b.get q (Nat.lt_of_lt_of_le hq a.next) hm).trans (a.get q hq hm)⟩
theorem Fm.new {M : Pos → Prop} {h h' : Heap} (f : Fm M h h') (x : Blk) : Fm M h (h'.new x) :=
  ⟨by rw [S.new_next, pv]; have := f.next; omega, fun q hq hm => by rw [S.get_new_ne _ _ _ (Nat.lt_of_lt_of_le hq f.next)]; exact f.get q hq hm⟩
theorem Fm.put {M : Pos → Prop} {h h' : Heap} (f : Fm M h h') {b : Pos} (x : Blk) (hb : h.next.val ≤ b.val ∨ M b) : Fm M h (h'.put b x) :=
  ⟨f.next, fun q hq hm => by
    rw [S.get_put_ne _ _ _ _ (fun e => ?_)]; exact f.get q hq hm
    rcases hb with hb | hb
    · omega
    · exact hm (Pos.val_inj _ _ e ▸ hb)⟩
theorem Fm.mono {M N : Pos → Prop} {h h' : Heap} (f : Fm M h h') (hm : ∀ q, q.val < h.next.val → M q → N q) : Fm N h h' := ⟨f.next, fun q hq hn => f.get q hq fun h => hn (hm q hq h)⟩
theorem Fm.kept {M : Pos → Prop} {h h1 h2 : Heap} (k : Kept h h1) (f : Fm M h1 h2) (hm : ∀ q, M q → h.next.val ≤ q.val) : Kept h h2 :=
  ⟨Nat.le_trans k.next f.next, fun q hq => by rw [f.get q (Nat.lt_of_lt_of_le hq k.next) (fun h => by have := hm q h; omega)]; exact k.get q hq⟩
theorem Kept.fm {h h' : Heap} (k : Kept h h') (M : Pos → Prop) : Fm M h h' := ⟨k.next, fun q hq _ => k.get q hq⟩
/-- a block of our own -/
structure Ow (M : Pos → Prop) (h : Heap) (b : Pos) (x : Blk) : Prop where
  lt : b.val < h.next.val
  nm : ¬ M b
  get : h.get b = some x
theorem Ow.fm {M : Pos → Prop} {h h' : Heap} {b : Pos} {x : Blk} (o : Ow M h b x) (f : Fm M h h') : Ow M h' b x :=
  ⟨Nat.lt_of_lt_of_le o.lt f.next, o.nm, by rw [f.get _ o.lt o.nm]; exact o.get⟩
theorem Ow.new {M : Pos → Prop} {h : Heap} {b : Pos} {x : Blk} (o : Ow M h b x) (y : Blk) : Ow M (h.new y) b x := o.fm ((Fm.refl M h).new y)

/-! the arena -/
structure AS where
  n : Nat
  ws : Nat → Int
  u : Int
def AS.tick (a : AS) : AS := { a with u := IntKind.i64.wrap (a.u + 1) }
def AS.st (a : AS) (i : Nat) (v : Int) : AS := { n := a.n, ws := fun j => if i = j then v else a.ws j, u := IntKind.i64.wrap (a.u + 1) }
abbrev MA (A W : Pos) : Pos → Prop := fun q => q.val = A.val ∨ q.val = W.val
structure ArenaAt (h : Heap) (A W : Pos) (a : AS) : Prop where
  la : A.val < h.next.val
  lw : W.val < h.next.val
  ne : A.val ≠ W.val
  sz : a.n ≤ 65536
  ga : h.get A = some (Blk.ofL [.slice W 0 a.n true a.n 1, I a.u])
  gw : ∃ t, h.get W = some (.cells a.n t) ∧ ∀ i, i < a.n → t.get i = some (I (a.ws i))
section
variable {h : Heap} {A W : Pos} {a : AS}
theorem ArenaAt.new (k : ArenaAt h A W a) (x : Blk) : ArenaAt (h.new x) A W a := by
  obtain ⟨t, h1, h2⟩ := k.gw
  have := k.la; have := k.lw
  exact ⟨by simp [pv]; omega, by simp [pv]; omega, k.ne, k.sz, by rw [S.get_new_ne _ _ _ k.la]; exact k.ga, t, by rw [S.get_new_ne _ _ _ k.lw]; exact h1, h2⟩
theorem ArenaAt.putO (k : ArenaAt h A W a) {b : Pos} (x : Blk) (hb : ¬ MA A W b) : ArenaAt (h.put b x) A W a := by
  obtain ⟨t, h1, h2⟩ := k.gw
  exact ⟨k.la, k.lw, k.ne, k.sz, by rw [S.get_put_ne _ _ _ _ (fun e => hb (.inl e))]; exact k.ga, t, by rw [S.get_put_ne _ _ _ _ (fun e => hb (.inr e))]; exact h1, h2⟩
theorem ArenaAt.fm {M : Pos → Prop} {h' : Heap} (k : ArenaAt h A W a) (f : Fm M h h') (h1 : ¬ M A) (h2 : ¬ M W) : ArenaAt h' A W a := by
  obtain ⟨t, h3, h4⟩ := k.gw
  exact ⟨Nat.lt_of_lt_of_le k.la f.next, Nat.lt_of_lt_of_le k.lw f.next, k.ne, k.sz, by rw [f.get _ k.la h1]; exact k.ga, t, by rw [f.get _ k.lw h2]; exact h3, h4⟩
theorem ArenaAt.tick (k : ArenaAt h A W a) : ArenaAt (h.put A (Blk.ofL [.slice W 0 a.n true a.n 1, I a.tick.u])) A W a.tick := by
  obtain ⟨t, h1, h2⟩ := k.gw
  exact ⟨k.la, k.lw, k.ne, k.sz, by simp [AS.tick], t, by rw [S.get_put_ne _ _ _ _ k.ne]; exact h1, h2⟩

theorem rd_c1 {n i : Nat} {t : Bt AVal} {v : AVal} (ht : t.get i = some v) : rdB (some (.cells n t)) i 1 = some [v] := by
  show t.slice i 1 = _
  rw [S.slice1, ht]; rfl
theorem wr_c1 {h : Heap} {b : Pos} {n i : Nat} {t : Bt AVal} {u v : AVal} (ht : t.get i = some u) (hv : v.scalar = true) : wrB h b (some (.cells n t)) i [v] = some (h.put b (.cells n (t.set v i))) := by
  simp only [wrB, List.all_cons, List.all_nil, hv, Bool.and_true, cond_true, S.sets1, ht, Option.map_some]
theorem add_w {a : Pos} {v : AVal} {u d : Int} {Q : AVal → Heap → Prop} (hg : h.get a = some (Blk.ofL [v, I u])) (hv : v.scalar = true)
    (hq : Q (I (IntKind.i64.wrap (u + d))) (h.put a (Blk.ofL [v, I (IntKind.i64.wrap (u + d))]))) : Cal X n_sync_atomic_Int64_Add [.ptr a 1, I d] h Q := by
  refine Cal.go (u_sync_atomic_Int64_Add _ _ rfl) ?_
  rw [b_sync_atomic_Int64_Add]
  simp
  refine ⟨I (IntKind.i64.wrap (u + d)), h.put a (Blk.ofL [v, I (IntKind.i64.wrap (u + d))]), ?_, ?_⟩
  · rw [u_sync_atomic_AddInt64]; simp [hg]
  · simpa using hq

theorem slW (n : Nat) (i : Nat) (h1 : i < n) (W : Pos) : addrSlA 1 (.slice W 0 n true n 1) (some i) = some (.ptr W i) := by
  simp [addrSlA, h1]

theorem noop_w : X.noop n_arena_Arena_use_1 = true := noop_use

theorem load_w {i : Int} (k : ArenaAt h A W a) (h0 : 0 ≤ i) (h1 : i < a.n) {Q : AVal → Heap → Prop}
    (hq : ∀ h', ArenaAt h' A W a.tick → Fm (MA A W) h h' → Q (.tup [I (a.ws i.toNat), I 0]) h') : Cal X n_arena_Arena_Load [.ptr A 0, I i] h Q := by
  refine Cal.go (u_arena_Arena_Load _ _ rfl) ?_
  rw [b_arena_Arena_Load]
  obtain ⟨i, rfl⟩ : ∃ j : Nat, i = j := ⟨i.toNat, by omega⟩
  have h1 : i < a.n := by omega
  simp only [Int.toNat_natCast] at hq
  have la := k.la
  have lw := k.lw
  have ne := k.ne
  have n1 : ¬ MA A W h.next := by simp only [MA]; omega
  have k1 := (k.new (Blk.ofL [I 0])).putO (b := h.next) (Blk.ofL [I 0]) n1
  have o1 : Ow (MA A W) ((h.new (Blk.ofL [I 0])).put h.next (Blk.ofL [I 0])) h.next (Blk.ofL [I 0]) := ⟨by simp [pv], n1, by simp⟩
  have f1 : Fm (MA A W) h ((h.new (Blk.ofL [I 0])).put h.next (Blk.ofL [I 0])) := ((Fm.refl _ h).new _).put _ (.inl (Nat.le_refl _))
  simp
  obtain ⟨g, hg⟩ : ∃ g, (h.new (Blk.ofL [I 0])).put h.next (Blk.ofL [I 0]) = g := ⟨_, rfl⟩
  have hn : g.next = h.next.succ := by rw [← hg]; simp
  rw [hg] at k1 o1 f1 ⊢
  have k2 := k1.new (Blk.ofL [I 0])
  have o2 := o1.new (Blk.ofL [I 0])
  have hgn : ¬ MA A W g.next := by simp only [MA, hn, pv]; omega
  have hne : h.next.val ≠ g.next.val := by rw [hn]; simp [pv]
  refine Cal.go (u_arena_Arena_use _ _ rfl) ?_
  rw [b_arena_Arena_use]
  have ga := k2.ga
  obtain ⟨t, hw, ht⟩ := k2.gw
  have hti := ht i h1
  simp [ga, slW _ _ h1, noop_w]
  -- the closure
  refine Cal.go (u_arena_Arena_Load_1 _ _ rfl) ?_
  rw [b_arena_Arena_Load_1]
  have og := o2.get
  simp [hw, rd_c1 hti, og]
  have k3 := k2.putO (b := h.next) (Blk.ofL [I (a.ws i)]) n1
  have g3 := k3.ga
  have gr : ((g.new (Blk.ofL [I 0])).put h.next (Blk.ofL [I (a.ws i)])).get g.next = some (Blk.ofL [I 0]) := by rw [S.get_put_ne _ _ _ _ hne]; simp
  refine add_w g3 rfl ?_
  have k4 := k3.tick
  have gr4 : (((g.new (Blk.ofL [I 0])).put h.next (Blk.ofL [I (a.ws i)])).put A (Blk.ofL [.slice W 0 a.n true a.n 1, I a.tick.u])).get g.next = some (Blk.ofL [I 0]) := by
    rw [S.get_put_ne _ _ _ _ (by omega)]; exact gr
  have hu : IntKind.i64.wrap (a.u + 1) = a.tick.u := rfl
  have gk4 := k4.ga
  have go : ((((g.new (Blk.ofL [I 0])).put h.next (Blk.ofL [I (a.ws i)])).put A (Blk.ofL [.slice W 0 a.n true a.n 1, I a.tick.u])).put g.next (Blk.ofL [I 0])).get h.next = some (Blk.ofL [I (a.ws i)]) := by
    rw [S.get_put_ne _ _ _ _ (by omega), S.get_put_ne _ _ _ _ (by omega)]; simp
  simp [hu, gr4, go]
  refine hq _ (k4.putO _ hgn) ?_
  exact Fm.put (Fm.put (Fm.put (f1.new _) _ (.inl (Nat.le_refl _))) _ (.inr (.inl rfl))) _ (.inl (by rw [hn]; simp [pv]))

theorem ArenaAt.st (k : ArenaAt h A W a) {i : Nat} (hi : i < a.n) (v : Int) {t : Bt AVal} (hw : h.get W = some (.cells a.n t)) (ht : ∀ i, i < a.n → t.get i = some (I (a.ws i))) :
    ArenaAt ((h.put W (.cells a.n (t.set (I v) i))).put A (Blk.ofL [.slice W 0 a.n true a.n 1, I a.tick.u])) A W (a.st i v) := by
  refine ⟨k.la, k.lw, k.ne, k.sz, by simp [AS.tick, AS.st], t.set (I v) i, ?_, fun j hj => ?_⟩
  · rw [S.get_put_ne _ _ _ _ k.ne]; simp [AS.st]
  · rw [Bt.get_set]
    simp only [AS.st]
    by_cases e : i = j
    · subst e; simp [ht i hi]
    · simp only [if_neg e]; exact ht j hj

theorem store_w {i v : Int} (k : ArenaAt h A W a) (h0 : 0 ≤ i) (h1 : i < a.n) {Q : AVal → Heap → Prop}
    (hq : ∀ h', ArenaAt h' A W (a.st i.toNat v) → Fm (MA A W) h h' → Q (I 0) h') : Cal X n_arena_Arena_Store [.ptr A 0, I i, I v] h Q := by
  refine Cal.go (u_arena_Arena_Store _ _ rfl) ?_
  rw [b_arena_Arena_Store]
  obtain ⟨i, rfl⟩ : ∃ j : Nat, i = j := ⟨i.toNat, by omega⟩
  have h1 : i < a.n := by omega
  simp only [Int.toNat_natCast] at hq
  have la := k.la
  have lw := k.lw
  have ne := k.ne
  have n1 : ¬ MA A W h.next := by simp only [MA]; omega
  have k1 := k.new (Blk.ofL [I v])
  have o1 : Ow (MA A W) (h.new (Blk.ofL [I v])) h.next (Blk.ofL [I v]) := ⟨by simp [pv], n1, by simp⟩
  have f1 : Fm (MA A W) h (h.new (Blk.ofL [I v])) := (Fm.refl _ h).new _
  simp
  obtain ⟨g, hg⟩ : ∃ g, h.new (Blk.ofL [I v]) = g := ⟨_, rfl⟩
  have hn : g.next = h.next.succ := by rw [← hg]; simp
  rw [hg] at k1 o1 f1 ⊢
  have k2 := k1.new (Blk.ofL [I 0])
  have o2 := o1.new (Blk.ofL [I 0])
  have hgn : ¬ MA A W g.next := by simp only [MA, hn, pv]; omega
  have hne : h.next.val ≠ g.next.val := by rw [hn]; simp [pv]
  refine Cal.go (u_arena_Arena_use _ _ rfl) ?_
  rw [b_arena_Arena_use]
  have ga := k2.ga
  obtain ⟨t, hw, ht⟩ := k2.gw
  have hti := ht i h1
  simp [ga, slW _ _ h1, noop_w]
  -- the closure
  refine Cal.go (u_arena_Arena_Store_1 _ _ rfl) ?_
  rw [b_arena_Arena_Store_1]
  have og := o2.get
  simp [hw, wr_c1 hti, og]
  have g3 : ((g.new (Blk.ofL [I 0])).put W (.cells a.n (t.set (I v) i))).get A = some (Blk.ofL [.slice W 0 a.n true a.n 1, I a.u]) := by
    rw [S.get_put_ne _ _ _ _ (fun e => ne e.symm)]; exact ga
  refine add_w g3 rfl ?_
  have k4 := k2.st h1 v hw ht
  have hu : IntKind.i64.wrap (a.u + 1) = a.tick.u := rfl
  have gr4 : (((g.new (Blk.ofL [I 0])).put W (.cells a.n (t.set (I v) i))).put A (Blk.ofL [.slice W 0 a.n true a.n 1, I a.tick.u])).get g.next = some (Blk.ofL [I 0]) := by
    have lA := k1.la; have lW := k1.lw
    rw [S.get_put_ne _ _ _ _ (by omega), S.get_put_ne _ _ _ _ (by omega)]; simp
  simp [hu, gr4]
  refine hq _ (k4.putO _ hgn) ?_
  exact Fm.put (Fm.put (Fm.put (f1.new _) _ (.inr (.inr rfl))) _ (.inr (.inl rfl))) _ (.inl (by rw [hn]; simp [pv]))

theorem alen_w (k : ArenaAt h A W a) {Q : AVal → Heap → Prop} (hq : Q (I a.n) h) : Cal X n_arena_Arena_Len [.ptr A 0] h Q := by
  refine Cal.go (u_arena_Arena_Len _ _ rfl) ?_
  rw [b_arena_Arena_Len]
  have ga := k.ga
  simpa [ga, lenSlA] using hq
end
end Go.Tw
end

section
open Go Go.Av Go.Ck
namespace Go.Tw
set_option linter.unusedSimpArgs false
set_option linter.unusedVariables false
structure RS where
  first : Int
  black : Int
  n0 : Int
  n1 : Int
  n2 : Int
  n3 : Int
abbrev ringB (A : Pos) (r : RS) : Blk := Blk.ofL [.ptr A 0, I r.first, I r.black, I r.n0, I r.n1, I r.n2, I r.n3]
def RS.all (r : RS) : Int := r.n0 + (r.n1 + r.n2 + r.n3)
structure RS.Bd (r : RS) : Prop where
  b0 : 0 ≤ r.n0 ∧ r.n0 ≤ 65536
  b1 : 0 ≤ r.n1 ∧ r.n1 ≤ 65536
  b2 : 0 ≤ r.n2 ∧ r.n2 ≤ 65536
  b3 : 0 ≤ r.n3 ∧ r.n3 ≤ 65536
abbrev MR (A W R : Pos) : Pos → Prop := fun q => q.val = A.val ∨ q.val = W.val ∨ q.val = R.val
structure RingAt (h : Heap) (A W R : Pos) (a : AS) (r : RS) : Prop where
  ar : ArenaAt h A W a
  lr : R.val < h.next.val
  nA : R.val ≠ A.val
  nW : R.val ≠ W.val
  bd : r.Bd
  gr : h.get R = some (ringB A r)
def AS.link (a : AS) (c d : Int) : AS := (a.st (c + 1).toNat d).st (d + 2).toNat c
/-- a place that can be a cell -/
def AS.ok (a : AS) (c : Int) : Prop := 0 ≤ c ∧ c + 2 < a.n
section
variable {h : Heap} {A W R : Pos} {a : AS} {r : RS}
theorem RingAt.fmA (k : RingAt h A W R a r) {h' : Heap} {a' : AS} (k' : ArenaAt h' A W a') (f : Fm (MA A W) h h') : RingAt h' A W R a' r :=
  ⟨k', Nat.lt_of_lt_of_le k.lr f.next, k.nA, k.nW, k.bd, by rw [f.get _ k.lr (by simp only [MA]; have := k.nA; have := k.nW; omega)]; exact k.gr⟩
theorem RingAt.fm {M : Pos → Prop} {h' : Heap} (k : RingAt h A W R a r) (f : Fm M h h') (h1 : ¬ M A) (h2 : ¬ M W) (h3 : ¬ M R) : RingAt h' A W R a r :=
  ⟨k.ar.fm f h1 h2, Nat.lt_of_lt_of_le k.lr f.next, k.nA, k.nW, k.bd, by rw [f.get _ k.lr h3]; exact k.gr⟩
theorem RingAt.set (k : RingAt h A W R a r) {r' : RS} (hb : r'.Bd) : RingAt (h.put R (ringB A r')) A W R a r' :=
  ⟨k.ar.putO _ (by simp only [MA]; have := k.nA; have := k.nW; omega), k.lr, k.nA, k.nW, hb, by simp⟩
theorem fmR {h' : Heap} (f : Fm (MA A W) h h') : Fm (MR A W R) h h' := f.mono fun q _ hq => by
  rcases hq with h | h
  · exact .inl h
  · exact .inr (.inl h)

theorem word_w {i : Int} (k : RingAt h A W R a r) (h0 : 0 ≤ i) (h1 : i < a.n) {Q : AVal → Heap → Prop}
    (hq : ∀ h', RingAt h' A W R a.tick r → Fm (MA A W) h h' → Q (I (a.ws i.toNat)) h') : Cal X n_ring_Ring_word [.ptr R 0, I i] h Q := by
  refine Cal.go (u_ring_Ring_word _ _ rfl) ?_
  rw [b_ring_Ring_word]
  have gr := k.gr
  simp [gr]
  refine load_w k.ar h0 h1 fun h' k' f' => ?_
  simpa using hq h' (k.fmA k' f') f'
theorem next_w {c : Int} (k : RingAt h A W R a r) (hc : a.ok c) {Q : AVal → Heap → Prop}
    (hq : ∀ h', RingAt h' A W R a.tick r → Fm (MA A W) h h' → Q (I (a.ws (c + 1).toNat)) h') : Cal X n_ring_Ring_next [.ptr R 0, I c] h Q := by
  refine Cal.go (u_ring_Ring_next _ _ rfl) ?_
  rw [b_ring_Ring_next]
  have sz := k.ar.sz
  obtain ⟨h0, h1⟩ := hc
  have hw : IntKind.i64.wrap (c + 1) = c + 1 := wrap_small (by omega) (by omega)
  simp [hw]
  refine word_w k (by omega) (by omega) fun h' k' f' => ?_
  simpa using hq h' k' f'
theorem prev_w {c : Int} (k : RingAt h A W R a r) (hc : a.ok c) {Q : AVal → Heap → Prop}
    (hq : ∀ h', RingAt h' A W R a.tick r → Fm (MA A W) h h' → Q (I (a.ws (c + 2).toNat)) h') : Cal X n_ring_Ring_prev [.ptr R 0, I c] h Q := by
  refine Cal.go (u_ring_Ring_prev _ _ rfl) ?_
  rw [b_ring_Ring_prev]
  have sz := k.ar.sz
  obtain ⟨h0, h1⟩ := hc
  have hw : IntKind.i64.wrap (c + 2) = c + 2 := wrap_small (by omega) (by omega)
  simp [hw]
  refine word_w k (by omega) (by omega) fun h' k' f' => ?_
  simpa using hq h' k' f'
theorem link_w {c d : Int} (k : RingAt h A W R a r) (hc : a.ok c) (hd : a.ok d) {Q : AVal → Heap → Prop}
    (hq : ∀ h', RingAt h' A W R (a.link c d) r → Fm (MA A W) h h' → Q (.tup []) h') : Cal X n_ring_Ring_link [.ptr R 0, I c, I d] h Q := by
  refine Cal.go (u_ring_Ring_link _ _ rfl) ?_
  rw [b_ring_Ring_link]
  have sz := k.ar.sz
  obtain ⟨h0, h1⟩ := hc
  obtain ⟨h2, h3⟩ := hd
  have hw : IntKind.i64.wrap (c + 1) = c + 1 := wrap_small (by omega) (by omega)
  have hw2 : IntKind.i64.wrap (d + 2) = d + 2 := wrap_small (by omega) (by omega)
  have gr := k.gr
  simp [gr, hw]
  refine store_w k.ar (by omega) (by omega) fun h' k' f' => ?_
  have kr := k.fmA k' f'
  have gr' := kr.gr
  simp [gr', hw2]
  refine store_w k' (by omega) (by simp only [AS.st]; omega) fun h2 k2 f2 => ?_
  simpa using hq h2 (kr.fmA k2 f2) (f'.trans f2)
theorem put_w {c at_ : Int} (k : RingAt h A W R a r) (hc : a.ok c) (hd : a.ok at_) (hp : a.ok (a.ws (at_ + 2).toNat)) {Q : AVal → Heap → Prop}
    (hq : ∀ h', RingAt h' A W R ((a.tick.link (a.ws (at_ + 2).toNat) c).link c at_) r → Fm (MA A W) h h' → Q (.tup []) h') : Cal X n_ring_Ring_put [.ptr R 0, I c, I at_] h Q := by
  refine Cal.go (u_ring_Ring_put _ _ rfl) ?_
  rw [b_ring_Ring_put]
  simp
  refine prev_w k hd fun h1 k1 f1 => ?_
  simp
  refine link_w k1 hp hc fun h2 k2 f2 => ?_
  simp
  refine link_w k2 hc hd fun h3 k3 f3 => ?_
  simpa using hq h3 k3 ((f1.trans f2).trans f3)
theorem rest_w (k : RingAt h A W R a r) {Q : AVal → Heap → Prop} (hq : Q (I (r.n1 + r.n2 + r.n3)) h) : Cal X n_ring_Ring_rest [.ptr R 0] h Q := by
  refine Cal.go (u_ring_Ring_rest _ _ rfl) ?_
  rw [b_ring_Ring_rest]
  have gr := k.gr
  obtain ⟨b0, b1, b2, b3⟩ := k.bd
  have hw : IntKind.i64.wrap (r.n1 + r.n2) = r.n1 + r.n2 := wrap_small (by omega) (by omega)
  have hw2 : IntKind.i64.wrap (r.n1 + r.n2 + r.n3) = r.n1 + r.n2 + r.n3 := wrap_small (by omega) (by omega)
  simpa [gr, hw, hw2] using hq
theorem all_w (k : RingAt h A W R a r) {Q : AVal → Heap → Prop} (hq : Q (I r.all) h) : Cal X n_ring_Ring_all [.ptr R 0] h Q := by
  refine Cal.go (u_ring_Ring_all _ _ rfl) ?_
  rw [b_ring_Ring_all]
  have gr := k.gr
  obtain ⟨b0, b1, b2, b3⟩ := k.bd
  have hw2 : IntKind.i64.wrap (r.n0 + (r.n1 + r.n2 + r.n3)) = r.n0 + (r.n1 + r.n2 + r.n3) := wrap_small (by omega) (by omega)
  have hr : callF X n_ring_Ring_rest [.ptr R 0] h = some (I (r.n1 + r.n2 + r.n3), h) := by
    obtain ⟨v, h', h1, h2⟩ := rest_w k (Q := fun v h' => v = I (r.n1 + r.n2 + r.n3) ∧ h' = h) ⟨rfl, rfl⟩
    rw [h1, h2.1, h2.2]
  simp
  refine w_dreg (by simp only [tr_cons, tr_nil]; simp [op_p, op_r, op_c, gr, hr]; rfl) (by simp [do_nil, do_skip, do_read, gr, same_iff]) rfl ?_
  simpa [hw2, RS.all] using hq

theorem turn03_w (k : RingAt h A W R a r) (h0 : 1 ≤ r.n0) (h3 : r.n3 < 65536) {Q : AVal → Heap → Prop}
    (hq : ∀ h', RingAt h' A W R a { r with n0 := r.n0 - 1, n3 := r.n3 + 1 } → Fm (MR A W R) h h' → Q (.tup []) h') : Cal X n_ring_Ring_turn [.ptr R 0, I 0, I 3] h Q := by
  refine Cal.go (u_ring_Ring_turn _ _ rfl) ?_
  rw [b_ring_Ring_turn]
  have gr := k.gr
  obtain ⟨b0, b1, b2, b3⟩ := k.bd
  have hw : IntKind.i64.wrap (r.n0 - 1) = r.n0 - 1 := wrap_small (by omega) (by omega)
  have hw2 : IntKind.i64.wrap (r.n3 + 1) = r.n3 + 1 := wrap_small (by omega) (by omega)
  simp [gr, hw, hw2]
  have k1 := k.set (r' := { r with n0 := r.n0 - 1 }) ⟨by simp only []; omega, b1, b2, b3⟩
  have k2 := k1.set (r' := { r with n0 := r.n0 - 1, n3 := r.n3 + 1 }) ⟨by simp only []; omega, b1, b2, by simp only []; omega⟩
  refine hq _ k2 (Fm.put (Fm.put (Fm.refl _ h) _ (.inr (.inr (.inr rfl)))) _ (.inr (.inr (.inr rfl))))

/-- one more cell -/
def RS.grow (r : RS) (c : Int) : RS := if r.all = 0 then { r with first := c, black := c, n0 := r.n0 + 1 } else { r with first := c, black := if r.n3 = 0 then c else r.black, n0 := r.n0 + 1 }
def AS.grow (a : AS) (r : RS) (c : Int) : AS := if r.all = 0 then a.link c c else (a.tick.link (a.ws (r.first + 2).toNat) c).link c r.first
theorem grow_w {c : Int} (k : RingAt h A W R a r) (h1 : 1 ≤ c) (hc : a.ok c) (hn : r.n0 < 65536) (hf : r.all ≠ 0 → a.ok r.first ∧ a.ok (a.ws (r.first + 2).toNat)) {Q : AVal → Heap → Prop}
    (hq : ∀ h', RingAt h' A W R (a.grow r c) (r.grow c) → Fm (MR A W R) h h' → Q (I 0) h') : Cal X n_ring_Ring_Grow [.ptr R 0, I c] h Q := by
  refine Cal.go (u_ring_Ring_Grow _ _ rfl) ?_
  rw [b_ring_Ring_Grow]
  have gr := k.gr
  have sz := k.ar.sz
  obtain ⟨hc0, hc1⟩ := hc
  obtain ⟨b0, b1, b2, b3⟩ := k.bd
  have n1 : ¬ c < 1 := by omega
  simp [gr, n1]
  refine alen_w k.ar ?_
  have hw : IntKind.i64.wrap ((a.n : Int) - 3) = (a.n : Int) - 3 := wrap_small (by omega) (by omega)
  have n2 : ¬ (a.n : Int) - 3 < c := by omega
  have hw0 : IntKind.i64.wrap (r.n0 + 1) = r.n0 + 1 := wrap_small (by omega) (by omega)
  simp [hw, n2]
  refine all_w k ?_
  by_cases ha : r.all = 0
  · simp [ha]
    refine link_w k ⟨hc0, hc1⟩ ⟨hc0, hc1⟩ fun h2 k2 f2 => ?_
    have g2 := k2.gr
    have hg : r.grow c = { r with first := c, black := c, n0 := r.n0 + 1 } := by simp only [RS.grow, if_pos ha]
    have hga : a.grow r c = a.link c c := by simp only [AS.grow, if_pos ha]
    rw [hg, hga] at hq
    have e1 := k2.set (r' := { r with first := c }) ⟨b0, b1, b2, b3⟩
    have e2 := e1.set (r' := { r with first := c, black := c }) ⟨b0, b1, b2, b3⟩
    have e3 := e2.set (r' := { r with first := c, black := c, n0 := r.n0 + 1 }) ⟨by simp only []; omega, b1, b2, b3⟩
    simp [g2, hw0]
    refine hq _ e3 (Fm.put (Fm.put (Fm.put (fmR f2) _ (.inr (.inr (.inr rfl)))) _ (.inr (.inr (.inr rfl)))) _ (.inr (.inr (.inr rfl))))
  · obtain ⟨hf1, hf2⟩ := hf ha
    simp [ha, gr]
    refine put_w k ⟨hc0, hc1⟩ hf1 hf2 fun h2 k2 f2 => ?_
    have g2 := k2.gr
    have hga : a.grow r c = (a.tick.link (a.ws (r.first + 2).toNat) c).link c r.first := by simp only [AS.grow, if_neg ha]
    rw [hga] at hq
    have e1 := k2.set (r' := { r with first := c }) ⟨b0, b1, b2, b3⟩
    by_cases h3 : r.n3 = 0
    · have hg : r.grow c = { r with first := c, black := c, n0 := r.n0 + 1 } := by simp only [RS.grow, if_neg ha, if_pos h3]
      rw [hg] at hq
      have e2 := e1.set (r' := { r with first := c, black := c }) ⟨b0, b1, b2, b3⟩
      have e3 := e2.set (r' := { r with first := c, black := c, n0 := r.n0 + 1 }) ⟨by simp only []; omega, b1, b2, b3⟩
      obtain ⟨fi, bl, m0, m1, m2, m3⟩ := r
      simp only at h3
      subst h3
      simp only at e1 e2 e3 g2 hw0 hq
      simp [g2, hw0]
      refine hq _ e3 (Fm.put (Fm.put (Fm.put (fmR f2) _ (.inr (.inr (.inr rfl)))) _ (.inr (.inr (.inr rfl)))) _ (.inr (.inr (.inr rfl))))
    · have hg : r.grow c = { r with first := c, n0 := r.n0 + 1 } := by simp only [RS.grow, if_neg ha, if_neg h3]
      rw [hg] at hq
      have e3 := e1.set (r' := { r with first := c, n0 := r.n0 + 1 }) ⟨by simp only []; omega, b1, b2, b3⟩
      simp [g2, hw0, h3]
      refine hq _ e3 (Fm.put (Fm.put (fmR f2) _ (.inr (.inr (.inr rfl)))) _ (.inr (.inr (.inr rfl))))

theorem ralloc_full (k : RingAt h A W R a r) (h0 : r.n0 = 0) {Q : AVal → Heap → Prop} (hq : Q (.tup [I 0, I 2]) h) : Cal X n_ring_Ring_Alloc [.ptr R 0] h Q := by
  refine Cal.go (u_ring_Ring_Alloc _ _ rfl) ?_
  rw [b_ring_Ring_Alloc]
  have gr := k.gr
  simpa [gr, h0] using hq
theorem ralloc_w (k : RingAt h A W R a r) (h0 : r.n0 ≠ 0) (h3 : r.n3 < 65536) (hf : a.ok r.first) {Q : AVal → Heap → Prop}
    (hq : ∀ h', RingAt h' A W R a.tick { r with first := a.ws (r.first + 1).toNat, n0 := r.n0 - 1, n3 := r.n3 + 1 } → Fm (MR A W R) h h' → Q (.tup [I r.first, I 0]) h') : Cal X n_ring_Ring_Alloc [.ptr R 0] h Q := by
  refine Cal.go (u_ring_Ring_Alloc _ _ rfl) ?_
  rw [b_ring_Ring_Alloc]
  have gr := k.gr
  obtain ⟨b0, b1, b2, b3⟩ := k.bd
  simp [gr, h0]
  refine next_w k hf fun h1 k1 f1 => ?_
  have g1 := k1.gr
  have e1 := k1.set (r' := { r with first := a.ws (r.first + 1).toNat }) ⟨b0, b1, b2, b3⟩
  simp [g1]
  refine turn03_w e1 (by simp only []; omega) h3 fun h2 k2 f2 => ?_
  simp
  exact hq h2 k2 (Fm.trans (Fm.put (fmR f1) _ (.inr (.inr (.inr rfl)))) f2)
end
end Go.Tw
end

section
open Go Go.Av Go.Ck
namespace Go.Tw
set_option linter.unusedSimpArgs false
set_option linter.unusedVariables false
/-! the word that says what an object is -/
def cellW (kind size aux mark : Int) : Int := kind + 16 * mark + 32 * size + 1024 * aux
structure CellOk (kind size aux mark : Int) : Prop where
  k : 0 ≤ kind ∧ kind ≤ 10
  m : 0 ≤ mark ∧ mark < 2
  s : 0 ≤ size ∧ size < 32
  a : 0 ≤ aux ∧ aux < 16777216

theorem or_small (k : Nat) (hk : k ≤ 10) (a b : Int) (ha : 0 ≤ a) (ha2 : a < 2 ^ k) (hb : 0 ≤ b) (hb2 : b < 16777216) :
    orI .i64 a (b * 2 ^ k) = a + b * 2 ^ k := by
  show IntKind.i64.wrap (BitVec.ofInt 64 a ||| BitVec.ofInt 64 (b * 2 ^ k)).toNat = a + b * 2 ^ k
  obtain ⟨m, rfl⟩ : ∃ m : Nat, a = m := ⟨a.toNat, by omega⟩
  obtain ⟨n, rfl⟩ : ∃ n : Nat, b = n := ⟨b.toNat, by omega⟩
  have hm : m < 2 ^ k := by exact_mod_cast ha2
  have hn : n < 16777216 := by omega
  have hp : (2 : Nat) ^ k ≤ 2 ^ 10 := Nat.pow_le_pow_right (by decide) hk
  have hp' : (2 : Nat) ^ 10 = 1024 := by decide
  have hnk : n * 2 ^ k ≤ 16777216 * 1024 := Nat.mul_le_mul (by omega) (by omega)
  have e1 : ((n : Int) * 2 ^ k) = ((n * 2 ^ k : Nat) : Int) := by push_cast; rfl
  rw [e1]
  have e2 : BitVec.ofInt 64 (m : Int) = BitVec.ofNat 64 m := BitVec.ofInt_natCast ..
  have e3 : BitVec.ofInt 64 ((n * 2 ^ k : Nat) : Int) = BitVec.ofNat 64 (n * 2 ^ k) := BitVec.ofInt_natCast ..
  rw [e2, e3, BitVec.toNat_or, BitVec.toNat_ofNat, BitVec.toNat_ofNat, Nat.mod_eq_of_lt (show m < 2 ^ 64 by omega), Nat.mod_eq_of_lt (show n * 2 ^ k < 2 ^ 64 by omega)]
  have e4 : m ||| n * 2 ^ k = m + n * 2 ^ k := by
    have := Nat.shiftLeft_add_eq_or_of_lt hm n
    rw [Nat.shiftLeft_eq] at this
    rw [Nat.or_comm, ← this, Nat.add_comm]
  rw [e4, wrap_small (by omega) (by omega)]
  push_cast; rfl
theorem and_small (k : Nat) (hk : k ≤ 24) (a : Int) (ha : 0 ≤ a) (ha2 : a < 9223372036854775808) :
    andI .i64 a (2 ^ k - 1) = a % 2 ^ k := by
  show IntKind.i64.wrap (BitVec.ofInt 64 a &&& BitVec.ofInt 64 (2 ^ k - 1)).toNat = a % 2 ^ k
  obtain ⟨m, rfl⟩ : ∃ m : Nat, a = m := ⟨a.toNat, by omega⟩
  have hp : (2 : Nat) ^ k ≤ 2 ^ 24 := Nat.pow_le_pow_right (by decide) hk
  have hp0 : 0 < (2 : Nat) ^ k := Nat.pos_of_ne_zero (by simp)
  have hp' : (2 : Nat) ^ 24 = 16777216 := by decide
  have e1 : ((2 : Int) ^ k - 1) = ((2 ^ k - 1 : Nat) : Int) := by
    rw [Int.natCast_sub (by omega)]; push_cast; rfl
  rw [e1]
  have e2 : BitVec.ofInt 64 (m : Int) = BitVec.ofNat 64 m := BitVec.ofInt_natCast ..
  have e3 : BitVec.ofInt 64 ((2 ^ k - 1 : Nat) : Int) = BitVec.ofNat 64 (2 ^ k - 1) := BitVec.ofInt_natCast ..
  rw [e2, e3, BitVec.toNat_and, BitVec.toNat_ofNat, BitVec.toNat_ofNat, Nat.mod_eq_of_lt (show m < 2 ^ 64 by omega), Nat.mod_eq_of_lt (show 2 ^ k - 1 < 2 ^ 64 by omega), Nat.and_two_pow_sub_one_eq_mod]
  have : m % 2 ^ k < 2 ^ k := Nat.mod_lt _ hp0
  rw [wrap_small (by omega) (by omega)]
  push_cast; rfl

theorem bits_w {h : Heap} {Q : AVal → Heap → Prop} (hq : ∀ h', Kept h h' → Q (.agg [I 4, I 1, I 5, I 24]) h') : Cal X n_cell_bits [] h Q := by
  refine Cal.go (u_cell_bits _ _ rfl) ?_
  rw [b_cell_bits]
  simp
  exact hq _ (((Kept.refl h).new _).put _ (Nat.le_refl _))
theorem fits_w {n k : Int} {h : Heap} {Q : AVal → Heap → Prop} (h0 : 0 ≤ k) (h1 : k ≤ 24) (hq : Q (.bool (decide (0 ≤ n ∧ n < 2 ^ k.toNat))) h) : Cal X n_cell_fits [I n, I k] h Q := by
  refine Cal.go (u_cell_fits _ _ rfl) ?_
  rw [b_cell_fits]
  obtain ⟨k, rfl⟩ : ∃ j : Nat, k = j := ⟨k.toNat, by omega⟩
  have hk : k ≤ 24 := by omega
  have hm : min k 64 = k := by omega
  have hw : IntKind.i64.wrap (1 * 2 ^ min k 64) = 2 ^ k := by
    rw [hm, Int.one_mul]
    have h2 : (2 : Nat) ^ k ≤ 2 ^ 24 := Nat.pow_le_pow_right (by decide) hk
    have h3 : ((2 : Int) ^ k) = ((2 ^ k : Nat) : Int) := by push_cast; rfl
    have h5 : 0 < (2 : Nat) ^ k := Nat.pos_of_ne_zero (by simp)
    have h6 : (2 : Nat) ^ 24 = 16777216 := by decide
    rw [h3, wrap_small (by omega) (by omega)]
  simp only [Int.one_mul] at hw
  by_cases hn : 0 ≤ n
  · simp [hn, hw]
    simpa [hn] using hq
  · simpa [hn] using hq

theorem fits4 {n : Int} {h : Heap} {Q : AVal → Heap → Prop} (hq : Q (.bool (decide (0 ≤ n ∧ n < 16))) h) : Cal X n_cell_fits [I n, I 4] h Q := fits_w (by decide) (by decide) hq
theorem fits1 {n : Int} {h : Heap} {Q : AVal → Heap → Prop} (hq : Q (.bool (decide (0 ≤ n ∧ n < 2))) h) : Cal X n_cell_fits [I n, I 1] h Q := fits_w (by decide) (by decide) hq
theorem fits5 {n : Int} {h : Heap} {Q : AVal → Heap → Prop} (hq : Q (.bool (decide (0 ≤ n ∧ n < 32))) h) : Cal X n_cell_fits [I n, I 5] h Q := fits_w (by decide) (by decide) hq
theorem fits24 {n : Int} {h : Heap} {Q : AVal → Heap → Prop} (hq : Q (.bool (decide (0 ≤ n ∧ n < 16777216))) h) : Cal X n_cell_fits [I n, I 24] h Q := fits_w (by decide) (by decide) hq

/-- a word that can be packed -/
theorem pack_ok {kind size aux mark : Int} (ok : CellOk kind size aux mark) {h : Heap} {Q : AVal → Heap → Prop} (hq : ∀ h', Kept h h' → Q (.tup [I (cellW kind size aux mark), I 0]) h') : Cal X n_cell_Pack [.agg [I kind, I size, I aux, I mark]] h Q := by
  refine Cal.go (u_cell_Pack _ _ rfl) ?_
  rw [b_cell_Pack]
  obtain ⟨⟨k0, k1⟩, ⟨m0, m1⟩, ⟨s0, s1⟩, a0, a1⟩ := ok
  have c1 : ¬ kind < 0 := by omega
  have c2 : ¬ 10 < kind := by omega
  simp [c1, c2]
  have kb : Kept h ((((h.new (Blk.ofL [I kind, I size, I aux, I mark])).new (Blk.ofL [I 0, I 0, I 0, I 0]))).put h.next.succ (Blk.ofL [I kind, I mark, I size, I aux])) := (((Kept.refl h).new _).new _).put _ (by simp [pv])
  have hb : ((((h.new (Blk.ofL [I kind, I size, I aux, I mark])).new (Blk.ofL [I 0, I 0, I 0, I 0]))).put h.next.succ (Blk.ofL [I kind, I mark, I size, I aux])).get h.next.succ = some (Blk.ofL [I kind, I mark, I size, I aux]) := by simp
  refine bits_w fun g kg => ?_
  have gb : g.get h.next.succ = some (Blk.ofL [I kind, I mark, I size, I aux]) := by rw [kg.get _ (by simp [pv])]; exact hb
  have kb2 := kb.trans kg
  simp
  have q1 : orI .i64 0 kind = kind := by have := or_small 0 (by decide) 0 kind (by decide) (by decide) k0 (by omega); simpa using this
  have q2 : orI .i64 kind (mark * 16) = kind + mark * 16 := or_small 4 (by decide) kind mark k0 (by omega) m0 (by omega)
  have q3 : orI .i64 (kind + mark * 16) (size * 32) = kind + mark * 16 + size * 32 := or_small 5 (by decide) _ size (by omega) (by omega) s0 (by omega)
  have q4 : orI .i64 (kind + mark * 16 + size * 32) (aux * 1024) = kind + mark * 16 + size * 32 + aux * 1024 := or_small 10 (by decide) _ aux (by omega) (by omega) a0 (by omega)
  have u1 : IntKind.i64.wrap kind = kind := wrap_small (by omega) (by omega)
  have u2 : IntKind.i64.wrap (mark * 16) = mark * 16 := wrap_small (by omega) (by omega)
  have u3 : IntKind.i64.wrap (size * 32) = size * 32 := wrap_small (by omega) (by omega)
  have u4 : IntKind.i64.wrap (aux * 1024) = aux * 1024 := wrap_small (by omega) (by omega)
  have c3 : decide (0 ≤ kind ∧ kind < 16) = true := by simp; omega
  have c4 : decide (0 ≤ mark ∧ mark < 2) = true := by simp; omega
  have c5 : decide (0 ≤ size ∧ size < 32) = true := by simp; omega
  have c6 : decide (0 ≤ aux ∧ aux < 16777216) = true := by simp; omega
  generalize hL : XCode.loop b_cell_Pack_L0 = L
  have hW : ∀ {e : Env} {h : Heap} {Q : XExit → Env → Heap → Prop}, Run X b_cell_Pack_L0 e h (seqC X L Q) → Run X L e h Q := by
    rw [← hL]; exact w_loop
  refine hW ?_
  rw [b_cell_Pack_L0]
  simp [gb]
  refine fits4 ?_
  rw [c3]
  simp [gb, wrap_small, q1, u1]
  refine hW ?_
  rw [b_cell_Pack_L0]
  simp [gb]
  refine fits1 ?_
  rw [c4]
  simp [gb, wrap_small, q2, u2]
  refine hW ?_
  rw [b_cell_Pack_L0]
  simp [gb]
  refine fits5 ?_
  rw [c5]
  simp [gb, wrap_small, q3, u3]
  refine hW ?_
  rw [b_cell_Pack_L0]
  simp [gb]
  refine fits24 ?_
  rw [c6]
  simp [gb, wrap_small, q4, u4]
  refine hW ?_
  rw [b_cell_Pack_L0]
  simp
  have := hq g kb2
  have hw : cellW kind size aux mark = kind + mark * 16 + size * 32 + aux * 1024 := by simp only [cellW]; omega
  rw [hw] at this
  exact this

theorem unpack_ok {kind size aux mark : Int} (ok : CellOk kind size aux mark) {h : Heap} {Q : AVal → Heap → Prop} (hq : ∀ h', Kept h h' → Q (.tup [.agg [I kind, I size, I aux, I mark], I 0]) h') : Cal X n_cell_Unpack [I (cellW kind size aux mark)] h Q := by
  refine Cal.go (u_cell_Unpack _ _ rfl) ?_
  rw [b_cell_Unpack]
  have ok' := ok
  obtain ⟨⟨k0, k1⟩, ⟨m0, m1⟩, ⟨s0, s1⟩, a0, a1⟩ := ok
  simp
  obtain ⟨g, hg⟩ : ∃ g, (h.new (Blk.ofL [I 0, I 0, I 0, I 0])).new (Blk.ofL [I 0, I 0, I 0, I 0]) = g := ⟨_, rfl⟩
  have hn : g.next = h.next.succ.succ := by rw [← hg]; simp
  have kb : Kept h g := by rw [← hg]; exact ((Kept.refl h).new _).new _
  have g1 : g.get h.next = some (Blk.ofL [I 0, I 0, I 0, I 0]) := by rw [← hg, S.get_new_ne _ _ _ (by simp [pv])]; simp
  have g2 : g.get h.next.succ = some (Blk.ofL [I 0, I 0, I 0, I 0]) := by rw [← hg]; simp
  rw [hg]
  refine bits_w fun g' kg => ?_
  have lt1 : h.next.val < g.next.val := by rw [hn]; simp [pv]; omega
  have lt2 : h.next.succ.val < g.next.val := by rw [hn]; simp [pv]
  have ne12 : h.next.succ.val ≠ h.next.val := by simp [pv]
  have g1' : g'.get h.next = some (Blk.ofL [I 0, I 0, I 0, I 0]) := by rw [kg.get _ lt1]; exact g1
  have g2' : g'.get h.next.succ = some (Blk.ofL [I 0, I 0, I 0, I 0]) := by rw [kg.get _ lt2]; exact g2
  have kb2 := kb.trans kg
  have lt3 := kg.next
  generalize hw : cellW kind size aux mark = w
  have hwe : w = kind + 16 * mark + 32 * size + 1024 * aux := hw.symm
  have v1 : andI .i64 w 15 = kind := by have := and_small 4 (by decide) w (by omega) (by omega); have h2 : w % 2 ^ 4 = kind := by omega
                                        rw [h2] at this; exact this
  have v2 : andI .i64 (w.fdiv 16) 1 = mark := by
    have e : w.fdiv 16 = mark + 2 * size + 64 * aux := by rw [Int.fdiv_eq_ediv_of_nonneg _ (by decide)]; omega
    have := and_small 1 (by decide) (w.fdiv 16) (by omega) (by omega); have h2 : w.fdiv 16 % 2 ^ 1 = mark := by omega
    rw [h2] at this; exact this
  have e3 : (w.fdiv 16).fdiv 2 = size + 32 * aux := by
    have e : w.fdiv 16 = mark + 2 * size + 64 * aux := by rw [Int.fdiv_eq_ediv_of_nonneg _ (by decide)]; omega
    rw [e, Int.fdiv_eq_ediv_of_nonneg _ (by decide)]; omega
  have v3 : andI .i64 (size + 32 * aux) 31 = size := by
    have := and_small 5 (by decide) (size + 32 * aux) (by omega) (by omega); have h2 : (size + 32 * aux) % 2 ^ 5 = size := by omega
    rw [h2] at this; exact this
  have e4 : (size + 32 * aux).fdiv 32 = aux := by rw [Int.fdiv_eq_ediv_of_nonneg _ (by decide)]; omega
  have v4 : andI .i64 aux 16777215 = aux := by
    have := and_small 24 (by decide) aux (by omega) (by omega); have h2 : aux % 2 ^ 24 = aux := by omega
    rw [h2] at this; exact this
  generalize hL : XCode.loop b_cell_Unpack_L0 = L
  have hW : ∀ {e : Env} {h : Heap} {Q : XExit → Env → Heap → Prop}, Run X b_cell_Unpack_L0 e h (seqC X L Q) → Run X L e h Q := by
    rw [← hL]; exact w_loop
  simp
  refine hW ?_
  rw [b_cell_Unpack_L0]
  simp [g2', wrap_small, v1]
  refine hW ?_
  rw [b_cell_Unpack_L0]
  simp [wrap_small, v2]
  refine hW ?_
  rw [b_cell_Unpack_L0]
  simp [wrap_small, e3, v3]
  refine hW ?_
  rw [b_cell_Unpack_L0]
  simp [wrap_small, e4, v4]
  refine hW ?_
  rw [b_cell_Unpack_L0]
  simp
  refine pack_ok ok' fun g5 k5 => ?_
  rw [hw]
  have gg8 : g5.get g'.next = some (Blk.ofL [I kind, I size, I aux, I mark]) := by rw [k5.get _ (by simp [pv])]; simp
  have gg2 : g5.get h.next = some (Blk.ofL [I 0, I 0, I 0, I 0]) := by
    rw [k5.get _ (by simp [pv]; omega), S.get_put_ne _ _ _ _ (by simp; omega), S.get_new_ne _ _ _ (by simp; omega)]
    repeat rw [S.get_put_ne _ _ _ _ ne12]
    exact g1'
  have kf : Kept h g5 := by
    refine Kept.trans ?_ k5
    repeat (first | exact kb2 | refine Kept.put ?_ _ (by first | omega | (simp [pv]; done) | (simp [pv]; omega)) | refine Kept.new ?_ _)
  simp [gg8, gg2]
  exact hq _ (kf.put _ (Nat.le_refl _))

/-! objects in a heap -/
theorem Cell_w {h : Heap} {A W : Pos} {a : AS} {H : Pos} {x1 x2 x3 x4 x5 x6 x7 : AVal} (gH : h.get H = some (Blk.ofL [.ptr A 0, x1, x2, x3, x4, x5, x6, x7])) (nH : ¬ MA A W H) (lH : H.val < h.next.val) {kind size aux mark : Int} (ok : CellOk kind size aux mark) {i : Int} (k : ArenaAt h A W a) (h0 : 0 ≤ i) (h1 : i < a.n) (hw : a.ws i.toNat = cellW kind size aux mark) {Q : AVal → Heap → Prop}
    (hq : ∀ h', ArenaAt h' A W a.tick → Fm (MA A W) h h' → Q (.tup [.agg [I kind, I size, I aux, I mark], I 0]) h') : Cal X n_heap_Heap_Cell [.ptr H 0, I i] h Q := by
  refine Cal.go (u_heap_Heap_Cell _ _ rfl) ?_
  rw [b_heap_Heap_Cell]
  have gH1 : (h.new (Blk.ofL [I 0, I 0, I 0, I 0])).get H = some (Blk.ofL [.ptr A 0, x1, x2, x3, x4, x5, x6, x7]) := by rw [S.get_new_ne _ _ _ lH]; exact gH
  have n1 : ¬ MA A W h.next := by simp only [MA]; have := k.la; have := k.lw; omega
  have o1 : Ow (MA A W) (h.new (Blk.ofL [I 0, I 0, I 0, I 0])) h.next (Blk.ofL [I 0, I 0, I 0, I 0]) := ⟨by simp [pv], n1, by simp⟩
  simp [gH1]
  refine load_w (k.new _) h0 h1 fun h2 k2 f2 => ?_
  rw [hw]
  simp
  refine unpack_ok ok fun h3 k3 => ?_
  have o2 := o1.fm f2
  have g3 : h3.get h.next = some (Blk.ofL [I 0, I 0, I 0, I 0]) := by rw [k3.get _ o2.lt]; exact o2.get
  have k4 := k2.fm (k3.fm (fun _ => False)) (fun h => h) (fun h => h)
  simp [g3]
  refine hq _ (k4.putO _ n1) (Fm.put (Fm.trans (Fm.trans ((Fm.refl _ h).new _) f2) (k3.fm _)) _ (.inl (Nat.le_refl _)))
end Go.Tw
end

section
open Go Go.Av Go.Ck
namespace Go.Tw
set_option linter.unusedSimpArgs false
set_option linter.unusedVariables false
/-- where a heap's parts lie -/
structure HLay where
  A : Pos
  W : Pos
  C : Pos
  G : Pos
  H : Pos
  L : Pos
  R : Pos
  rb : List Pos
structure HS where
  a : AS
  classes : List Int
  rings : List RS
  top : Int
  edge : Int
  parity : Int
/-- what a heap's work changes -/
def MH (Y : HLay) : Pos → Prop := fun q => q.val = Y.A.val ∨ q.val = Y.W.val ∨ q.val = Y.H.val ∨ ∃ R ∈ Y.rb, q.val = R.val
def hB (Y : HLay) (Z : HS) : Blk := Blk.ofL [.ptr Y.A 0, .slice Y.C 0 Z.classes.length false Z.classes.length 1, .slice Y.G 0 Y.rb.length false Y.rb.length 1, .ptr Y.L 0, .ptr Y.R 0, I Z.top, I Z.edge, I Z.parity]
structure HeapAt (h : Heap) (Y : HLay) (Z : HS) : Prop where
  ar : ArenaAt h Y.A Y.W Z.a
  lH : Y.H.val < h.next.val
  lC : Y.C.val < h.next.val
  lG : Y.G.val < h.next.val
  nH : Y.H.val ≠ Y.A.val ∧ Y.H.val ≠ Y.W.val ∧ ∀ R ∈ Y.rb, Y.H.val ≠ R.val
  nC : ¬ MH Y Y.C
  nG : ¬ MH Y Y.G
  gH : h.get Y.H = some (hB Y Z)
  gC : h.get Y.C = some (Blk.ofL (Z.classes.map fun n => I n))
  gG : h.get Y.G = some (Blk.ofL (Y.rb.map fun b => .ptr b 0))
  l1 : Z.classes.length = Y.rb.length
  l2 : Z.rings.length = Y.rb.length
  rg : ∀ (k : Nat) (R : Pos) (r : RS), Y.rb[k]? = some R → Z.rings[k]? = some r → RingAt h Y.A Y.W R Z.a r
  rd : ∀ (k j : Nat) (R R' : Pos), Y.rb[k]? = some R → Y.rb[j]? = some R' → k ≠ j → R.val ≠ R'.val
section
variable {h : Heap} {Y : HLay} {Z : HS}
theorem HeapAt.nA (k : HeapAt h Y Z) : ¬ MA Y.A Y.W Y.H := by simp only [MA]; have := k.nH; omega
/-- what is done elsewhere -/
theorem HeapAt.fm {M : Pos → Prop} {h' : Heap} (k : HeapAt h Y Z) (f : Fm M h h') (hm : ∀ q, MH Y q → ¬ M q) (hC : ¬ M Y.C) (hG : ¬ M Y.G) : HeapAt h' Y Z where
  ar := k.ar.fm f (hm _ (.inl rfl)) (hm _ (.inr (.inl rfl)))
  lH := Nat.lt_of_lt_of_le k.lH f.next
  lC := Nat.lt_of_lt_of_le k.lC f.next
  lG := Nat.lt_of_lt_of_le k.lG f.next
  nH := k.nH
  nC := k.nC
  nG := k.nG
  gH := by rw [f.get _ k.lH (hm _ (.inr (.inr (.inl rfl))))]; exact k.gH
  gC := by rw [f.get _ k.lC hC]; exact k.gC
  gG := by rw [f.get _ k.lG hG]; exact k.gG
  l1 := k.l1
  l2 := k.l2
  rg i R r h1 h2 := (k.rg i R r h1 h2).fm f (hm _ (.inl rfl)) (hm _ (.inr (.inl rfl))) (hm _ (.inr (.inr (.inr ⟨R, List.mem_of_getElem? h1, rfl⟩))))
  rd := k.rd
theorem HeapAt.kept {h' : Heap} (k : HeapAt h Y Z) (f : Kept h h') : HeapAt h' Y Z := k.fm (f.fm fun _ => False) (fun _ _ h => h) (fun h => h) (fun h => h)
/-- the arena's work -/
theorem HeapAt.arena {h' : Heap} {a' : AS} (k : HeapAt h Y Z) (k' : ArenaAt h' Y.A Y.W a') (f : Fm (MA Y.A Y.W) h h') : HeapAt h' Y { Z with a := a' } where
  ar := k'
  lH := Nat.lt_of_lt_of_le k.lH f.next
  lC := Nat.lt_of_lt_of_le k.lC f.next
  lG := Nat.lt_of_lt_of_le k.lG f.next
  nH := k.nH
  nC := k.nC
  nG := k.nG
  gH := by rw [f.get _ k.lH k.nA]; exact k.gH
  gC := by rw [f.get _ k.lC (fun h => k.nC (by rcases h with h | h; exact .inl h; exact .inr (.inl h)))]; exact k.gC
  gG := by rw [f.get _ k.lG (fun h => k.nG (by rcases h with h | h; exact .inl h; exact .inr (.inl h)))]; exact k.gG
  l1 := k.l1
  l2 := k.l2
  rg i R r h1 h2 := (k.rg i R r h1 h2).fmA k' f
  rd := k.rd
/-- a ring's work -/
theorem HeapAt.ring {h' : Heap} {a' : AS} {r' : RS} {i : Nat} {R : Pos} (k : HeapAt h Y Z) (hR : Y.rb[i]? = some R) (k' : RingAt h' Y.A Y.W R a' r') (f : Fm (MR Y.A Y.W R) h h') : HeapAt h' Y { Z with a := a', rings := Z.rings.set i r' } where
  ar := k'.ar
  lH := Nat.lt_of_lt_of_le k.lH f.next
  lC := Nat.lt_of_lt_of_le k.lC f.next
  lG := Nat.lt_of_lt_of_le k.lG f.next
  nH := k.nH
  nC := k.nC
  nG := k.nG
  gH := by
    rw [f.get _ k.lH]; exact k.gH
    obtain ⟨h1, h2, h3⟩ := k.nH
    have := h3 R (List.mem_of_getElem? hR)
    simp only [MR]; omega
  gC := by
    rw [f.get _ k.lC]; exact k.gC
    intro h; apply k.nC
    rcases h with h | h | h
    · exact .inl h
    · exact .inr (.inl h)
    · exact .inr (.inr (.inr ⟨R, List.mem_of_getElem? hR, h⟩))
  gG := by
    rw [f.get _ k.lG]; exact k.gG
    intro h; apply k.nG
    rcases h with h | h | h
    · exact .inl h
    · exact .inr (.inl h)
    · exact .inr (.inr (.inr ⟨R, List.mem_of_getElem? hR, h⟩))
  l1 := k.l1
  l2 := by simpa using k.l2
  rg j R2 r2 h1 h2 := by
    by_cases e : i = j
    · subst e
      rw [hR] at h1; injection h1 with h1; subst h1
      have hl : i < Z.rings.length := by rw [k.l2]; exact (List.getElem?_eq_some_iff.1 hR).1
      rw [List.getElem?_set_self hl] at h2
      injection h2 with h2; subst h2; exact k'
    · rw [List.getElem?_set_ne e] at h2
      have kk := k.rg j R2 r2 h1 h2
      have hne := k.rd i j R R2 hR h1 e
      have hnm : ¬ MR Y.A Y.W R R2 := by simp only [MR]; have := kk.nA; have := kk.nW; omega
      exact ⟨k'.ar, Nat.lt_of_lt_of_le kk.lr f.next, kk.nA, kk.nW, kk.bd, by rw [f.get _ kk.lr hnm]; exact kk.gr⟩
  rd := k.rd
theorem HeapAt.fmR {i : Nat} {R : Pos} {h' : Heap} (hR : Y.rb[i]? = some R) (f : Fm (MR Y.A Y.W R) h h') : Fm (MH Y) h h' := f.mono fun q _ hq => by
  rcases hq with h | h | h
  · exact .inl h
  · exact .inr (.inl h)
  · exact .inr (.inr (.inr ⟨R, List.mem_of_getElem? hR, h⟩))
theorem fmAH {h' : Heap} (f : Fm (MA Y.A Y.W) h h') : Fm (MH Y) h h' := f.mono fun q _ hq => by
  rcases hq with h | h
  · exact .inl h
  · exact .inr (.inl h)
/-- the top moves -/
theorem HeapAt.setTop (k : HeapAt h Y Z) (t : Int) : HeapAt (h.put Y.H (hB Y { Z with top := t })) Y { Z with top := t } where
  ar := k.ar.putO _ k.nA
  lH := k.lH
  lC := k.lC
  lG := k.lG
  nH := k.nH
  nC := k.nC
  nG := k.nG
  gH := by simp
  gC := by rw [S.get_put_ne _ _ _ _ (fun e => k.nC (.inr (.inr (.inl e.symm))))]; exact k.gC
  gG := by rw [S.get_put_ne _ _ _ _ (fun e => k.nG (.inr (.inr (.inl e.symm))))]; exact k.gG
  l1 := k.l1
  l2 := k.l2
  rg i R r h1 h2 := by
    have kk := k.rg i R r h1 h2
    have := k.nH.2.2 R (List.mem_of_getElem? h1)
    exact ⟨kk.ar.putO _ k.nA, kk.lr, kk.nA, kk.nW, kk.bd, by rw [S.get_put_ne _ _ _ _ this]; exact kk.gr⟩
  rd := k.rd

/-! classes -/
def clsFrom (size : Int) : List Int → Nat → Int
  | [], _ => -1
  | n :: l, i => if size ≤ n then i else clsFrom size l (i + 1)
theorem class1_w {n size : Int} {b : Pos} (hb : h.get b = some (Blk.ofL [I size])) {Q : AVal → Heap → Prop} (hq : Q (.bool (decide (size ≤ n))) h) : Cal X n_heap_Heap_class_1 [I n, .ptr b 0] h Q := by
  refine Cal.go (u_heap_Heap_class_1 _ _ rfl) ?_
  rw [b_heap_Heap_class_1]
  simpa [hb] using hq
theorem slice_at {l : List AVal} {b : Pos} {n : Nat} (i : Nat) (hi : i < n) : addrSlA 1 (.slice b 0 n false n 1) (some i) = some (.ptr b i) := by
  simp [addrSlA, hi]
theorem idx_w {C b : Pos} {cl : List Int} {size : Int} (hlen : cl.length < 1000) (hC : h.get C = some (Blk.ofL (cl.map fun n => I n))) (hb : h.get b = some (Blk.ofL [I size])) {Q : AVal → Heap → Prop}
    (hq : Q (I (clsFrom size cl 0)) h) : Cal X n_slices_IndexFunc_int_int [.slice C 0 cl.length false cl.length 1, .func n_heap_Heap_class_1 [] [.ptr b 0]] h Q := by
  refine Cal.go (u_slices_IndexFunc_int_int _ _ rfl) ?_
  rw [b_slices_IndexFunc_int_int]
  simp [lenSlA]
  obtain ⟨J, hJ⟩ : ∃ J : Nat → Env → Heap → Prop, ∀ k e1 h1, J k e1 h1 ↔ ∃ (i : Nat), k = cl.length - i ∧ i ≤ cl.length ∧ h1 = h ∧ clsFrom size (cl.drop i) i = clsFrom size cl 0 ∧ getE e1 (tt 8) = I i ∧ getE e1 (tt 0) = .slice C 0 cl.length false cl.length 1 ∧ getE e1 (tt 1) = .func n_heap_Heap_class_1 [] [.ptr b 0] ∧ getE e1 (tt 7) = I cl.length := ⟨_, fun _ _ _ => Iff.rfl⟩
  refine Run.loop J (fun k e1 h1 hk => ?_) cl.length ((hJ _ _ _).2 ⟨0, by omega, by omega, rfl, rfl, by simp, by simp, by simp, by simp⟩)
  obtain ⟨i, rfl, hi, rfl, hr, g8, g0, g1, g7⟩ := (hJ _ _ _).1 hk
  rw [b_slices_IndexFunc_int_int_L0]
  by_cases hil : i < cl.length
  · obtain ⟨x, hx, hd⟩ := drop_at hil
    have hi' : (i : Int) < cl.length := by omega
    have hw : IntKind.i64.wrap ((i : Int) + 1) = ((i + 1 : Nat) : Int) := by rw [wrap_small (by omega) (by omega)]; omega
    have hm : rdB (some (Blk.ofL (cl.map fun n => I n))) i 1 = some [I x] := by
      rw [rdB_ofL' (by simp; omega)]
      rw [← List.map_drop, hd]; simp
    rw [hd] at hr
    simp [g8, g7, g0, g1, hil, slice_at (l := []) i hil, hC, hm]
    refine class1_w hb ?_
    by_cases hs : size ≤ x
    · simp [hs]
      simp only [clsFrom, if_pos hs] at hr
      rw [← hr] at hq; exact hq
    · simp [hs, g8, hw]
      simp only [clsFrom, if_neg hs] at hr
      exact ⟨cl.length - (i + 1), by omega, (hJ _ _ _).2 ⟨i + 1, rfl, by omega, rfl, hr, by simp, by simp [g0], by simp [g1], by simp [g7]⟩⟩
  · have hil' : i = cl.length := by omega
    subst hil'
    simp [g8, g7]
    simp [clsFrom] at hr
    rw [← hr] at hq; exact hq
theorem class_w (k : HeapAt h Y Z) (hlen : Z.classes.length < 1000) {size : Int} {Q : AVal → Heap → Prop}
    (hq : ∀ h', Kept h h' → Q (I (clsFrom size Z.classes 0)) h') : Cal X n_heap_Heap_class [.ptr Y.H 0, I size] h Q := by
  refine Cal.go (u_heap_Heap_class _ _ rfl) ?_
  rw [b_heap_Heap_class]
  have k1 := k.kept ((Kept.refl h).new (Blk.ofL [I size]))
  have gH := k1.gH
  simp [gH, hB]
  refine idx_w (size := size) hlen k1.gC (by simp) ?_
  simp
  exact hq _ ((Kept.refl h).new _)

theorem rB_at (k : HeapAt h Y Z) {i : Nat} {R : Pos} (hR : Y.rb[i]? = some R) : rdB (some (Blk.ofL (Y.rb.map fun b => .ptr b 0))) i 1 = some [.ptr R 0] := by
  have hl := (List.getElem?_eq_some_iff.1 hR).1
  rw [rdB_ofL' (by simp; omega)]
  rw [← List.map_drop, List.drop_eq_getElem_cons hl]
  have := (List.getElem?_eq_some_iff.1 hR).2
  simp [this]
theorem cB_at (k : HeapAt h Y Z) {i : Nat} {c : Int} (hc : Z.classes[i]? = some c) : rdB (some (Blk.ofL (Z.classes.map fun n => I n))) i 1 = some [I c] := by
  have hl := (List.getElem?_eq_some_iff.1 hc).1
  rw [rdB_ofL' (by simp; omega)]
  rw [← List.map_drop, List.drop_eq_getElem_cons hl]
  have := (List.getElem?_eq_some_iff.1 hc).2
  simp [this]

/-- one more cell of a class, where there is room -/
theorem hgrow_w (k : HeapAt h Y Z) {i : Nat} {R : Pos} {r : RS} {c : Int} (hR : Y.rb[i]? = some R) (hr : Z.rings[i]? = some r) (hc : Z.classes[i]? = some c) (hc0 : 0 ≤ c ∧ c ≤ 24) (ht : 1 ≤ Z.top) (he : Z.edge ≤ Z.a.n) (hroom : c + 3 ≤ Z.edge - Z.top) (hn : r.n0 < 65536)
    (hf : r.all ≠ 0 → Z.a.ok r.first ∧ Z.a.ok (Z.a.ws (r.first + 2).toNat)) {Q : AVal → Heap → Prop}
    (hq : ∀ h', HeapAt h' Y { Z with a := Z.a.grow r Z.top, rings := Z.rings.set i (r.grow Z.top), top := Z.top + (c + 3) } → Fm (MH Y) h h' → Q (.bool true) h') : Cal X n_heap_Heap_grow [.ptr Y.H 0, I i] h Q := by
  refine Cal.go (u_heap_Heap_grow _ _ rfl) ?_
  rw [b_heap_Heap_grow]
  have gH := k.gH
  have gC := k.gC
  have gG := k.gG
  have sz := k.ar.sz
  have hil := (List.getElem?_eq_some_iff.1 hc).1
  have hil2 := (List.getElem?_eq_some_iff.1 hR).1
  have hcb := cB_at k hc
  have hrb := rB_at k hR
  have w1 : IntKind.i64.wrap (c + 3) = c + 3 := wrap_small (by omega) (by omega)
  have w2 : IntKind.i64.wrap (Z.edge - Z.top) = Z.edge - Z.top := wrap_small (by omega) (by omega)
  have w3 : IntKind.i64.wrap (Z.top + (c + 3)) = Z.top + (c + 3) := wrap_small (by omega) (by omega)
  have nr : ¬ Z.edge - Z.top < c + 3 := by omega
  simp [gH, hB, gC, gG, slice_at (l := []) i hil, slice_at (l := []) i hil2, hcb, hrb, w1, w2, nr]
  refine grow_w (k.rg i R r hR hr) ht ⟨by omega, by omega⟩ hn hf fun h2 k2 f2 => ?_
  have k3 := k.ring hR k2 f2
  have gH3 := k3.gH
  simp [gH3, hB, w3]
  have k4 := k3.setTop (Z.top + (c + 3))
  exact hq _ k4 ((HeapAt.fmR hR f2).put _ (.inr (.inr (.inr (.inl rfl)))))
theorem hgrow_full (k : HeapAt h Y Z) {i : Nat} {c : Int} (hc : Z.classes[i]? = some c) (hc0 : 0 ≤ c ∧ c ≤ 24) (ht : 1 ≤ Z.top) (he : Z.edge ≤ 65536) (he0 : 0 ≤ Z.edge) (ht2 : Z.top ≤ Z.edge) (hroom : Z.edge - Z.top < c + 3) {Q : AVal → Heap → Prop} (hq : Q (.bool false) h) : Cal X n_heap_Heap_grow [.ptr Y.H 0, I i] h Q := by
  refine Cal.go (u_heap_Heap_grow _ _ rfl) ?_
  rw [b_heap_Heap_grow]
  have gH := k.gH
  have gC := k.gC
  have hil := (List.getElem?_eq_some_iff.1 hc).1
  have hcb := cB_at k hc
  have w1 : IntKind.i64.wrap (c + 3) = c + 3 := wrap_small (by omega) (by omega)
  have w2 : IntKind.i64.wrap (Z.edge - Z.top) = Z.edge - Z.top := wrap_small (by omega) (by omega)
  simpa [gH, hB, gC, slice_at (l := []) i hil, hcb, w1, w2, hroom] using hq
end
end Go.Tw
end

section
open Go Go.Av Go.Ck
namespace Go.Tw
set_option linter.unusedSimpArgs false
set_option linter.unusedVariables false
section
variable {h : Heap} {Y : HLay} {Z : HS}

/-- a class's cell, where there is none, and no room -/
theorem hcell_full {size : Int} {i : Nat} {R : Pos} {r : RS} {c : Int} (k : HeapAt h Y Z) (hlen : Z.classes.length < 1000) (hcls : clsFrom size Z.classes 0 = i) (hR : Y.rb[i]? = some R) (hr : Z.rings[i]? = some r) (hc : Z.classes[i]? = some c) (hc0 : 0 ≤ c ∧ c ≤ 24) (ht : 1 ≤ Z.top) (he : Z.edge ≤ 65536) (he0 : 0 ≤ Z.edge) (ht2 : Z.top ≤ Z.edge)
    (h0 : r.n0 = 0) (hroom : Z.edge - Z.top < c + 3) {Q : AVal → Heap → Prop} (hq : ∀ h', Kept h h' → Q (.tup [I 0, I 2]) h') : Cal X n_heap_Heap_cell [.ptr Y.H 0, I size] h Q := by
  refine Cal.go (u_heap_Heap_cell _ _ rfl) ?_
  rw [b_heap_Heap_cell]
  simp
  refine class_w k hlen fun h1 f1 => ?_
  rw [hcls]
  have k1 := k.kept f1
  have gH := k1.gH
  have gG := k1.gG
  have hil2 := (List.getElem?_eq_some_iff.1 hR).1
  have hrb := rB_at k1 hR
  have hi0 : ¬ (i : Int) < 0 := by omega
  simp [hi0, gH, hB, gG, slice_at (l := []) i hil2, hrb]
  refine ralloc_full (k1.rg i R r hR hr) h0 ?_
  simp
  refine hgrow_full k1 hc hc0 ht he he0 ht2 hroom ?_
  simp
  exact hq _ f1

/-- a class's cell, newly made -/
theorem hcell_grow {size : Int} {i : Nat} {R : Pos} {r : RS} {c : Int} (k : HeapAt h Y Z) (hlen : Z.classes.length < 1000) (hcls : clsFrom size Z.classes 0 = i) (hR : Y.rb[i]? = some R) (hr : Z.rings[i]? = some r) (hc : Z.classes[i]? = some c) (hc0 : 0 ≤ c ∧ c ≤ 24) (ht : 1 ≤ Z.top) (he : Z.edge ≤ Z.a.n)
    (h0 : r.n0 = 0) (hroom : c + 3 ≤ Z.edge - Z.top) (hn : r.n3 < 65536) (hf : r.all ≠ 0 → Z.a.ok r.first ∧ Z.a.ok (Z.a.ws (r.first + 2).toNat)) {Q : AVal → Heap → Prop}
    (hq : ∀ h', HeapAt h' Y { Z with a := (Z.a.grow r Z.top).tick, rings := Z.rings.set i { r.grow Z.top with first := (Z.a.grow r Z.top).ws (Z.top + 1).toNat, n0 := 0, n3 := r.n3 + 1 }, top := Z.top + (c + 3) } → Fm (MH Y) h h' → Q (.tup [I Z.top, I 0]) h') : Cal X n_heap_Heap_cell [.ptr Y.H 0, I size] h Q := by
  refine Cal.go (u_heap_Heap_cell _ _ rfl) ?_
  rw [b_heap_Heap_cell]
  simp
  refine class_w k hlen fun h1 f1 => ?_
  rw [hcls]
  have k1 := k.kept f1
  have gH := k1.gH
  have gG := k1.gG
  have sz := k.ar.sz
  have hil2 := (List.getElem?_eq_some_iff.1 hR).1
  have hrb := rB_at k1 hR
  have hi0 : ¬ (i : Int) < 0 := by omega
  simp [hi0, gH, hB, gG, slice_at (l := []) i hil2, hrb]
  refine ralloc_full (k1.rg i R r hR hr) h0 ?_
  simp
  refine hgrow_w k1 hR hr hc hc0 ht he hroom (by omega) hf fun h2 k2 f2 => ?_
  have gH2 := k2.gH
  have gG2 := k2.gG
  have hrb2 := rB_at k2 hR
  have hl2 : i < Z.rings.length := (List.getElem?_eq_some_iff.1 hr).1
  have kr := k2.rg i R (r.grow Z.top) hR (by simp [hl2])
  have e1 : (r.grow Z.top).first = Z.top := by simp only [RS.grow]; split <;> rfl
  have e2 : (r.grow Z.top).n0 = 1 := by simp only [RS.grow, h0]; split <;> rfl
  have e3 : (r.grow Z.top).n3 = r.n3 := by simp only [RS.grow]; split <;> rfl
  have ean : (Z.a.grow r Z.top).n = Z.a.n := by simp only [AS.grow]; split <;> rfl
  simp [gH2, hB, gG2, slice_at (l := []) i hil2, hrb2]
  refine ralloc_w kr (by rw [e2]; decide) (by rw [e3]; exact hn) ⟨by rw [e1]; omega, by simp only [ean, e1]; omega⟩ fun h3 k3 f3 => ?_
  rw [e1, e2, e3] at k3
  rw [e1]
  have k4 := k2.ring hR k3 f3
  simp only [List.set_set] at k4
  simp
  exact hq h3 k4 (Fm.trans (Fm.trans (f1.fm _) f2) (HeapAt.fmR hR f3))

def AS.zeros (a : AS) (p : Int) : Nat → AS
  | 0 => a
  | k + 1 => (a.zeros p k).st (p + k).toNat 0
theorem AS.zeros_n (a : AS) (p : Int) : ∀ k, (a.zeros p k).n = a.n
  | 0 => rfl
  | k + 1 => by simp only [AS.zeros, AS.st]; exact AS.zeros_n a p k
theorem zeros_w {at_ size : Int} (k : HeapAt h Y Z) (h0 : 0 ≤ at_) (hs0 : 0 ≤ size) (h1 : at_ + 3 + size ≤ Z.a.n) {e : Env} {Q : XExit → Env → Heap → Prop} (g0 : getE e (tt 0) = .ptr Y.H 0) (g12 : getE e (tt 12) = I at_) (g45 : getE e (tt 45) = I size) (g46 : getE e (tt 46) = I 0)
    (hq : ∀ e' h', HeapAt h' Y { Z with a := Z.a.zeros (at_ + 3) size.toNat } → Fm (MH Y) h h' → getE e' (tt 12) = I at_ → Q (.exit 0) e' h') : Run X (.loop b_heap_Heap_Alloc_L0) e h Q := by
  have sz := k.ar.sz
  obtain ⟨n, rfl⟩ : ∃ n : Nat, size = n := ⟨size.toNat, by omega⟩
  simp only [Int.toNat_natCast] at hq
  obtain ⟨J, hJ⟩ : ∃ J : Nat → Env → Heap → Prop, ∀ k e1 h1, J k e1 h1 ↔ ∃ (i : Nat), k = n - i ∧ i ≤ n ∧ HeapAt h1 Y { Z with a := Z.a.zeros (at_ + 3) i } ∧ Fm (MH Y) h h1 ∧ getE e1 (tt 46) = I i ∧ getE e1 (tt 0) = .ptr Y.H 0 ∧ getE e1 (tt 12) = I at_ ∧ getE e1 (tt 45) = I n := ⟨_, fun _ _ _ => Iff.rfl⟩
  refine Run.loop J (fun k e1 h1 hk => ?_) n ((hJ _ _ _).2 ⟨0, by omega, by omega, k, Fm.refl _ _, g46, g0, g12, g45⟩)
  obtain ⟨i, rfl, hi, k1, f1, g46, g0, g12, g45⟩ := (hJ _ _ _).1 hk
  rw [b_heap_Heap_Alloc_L0]
  by_cases hil : i < n
  · have gH := k1.gH
    have hw : IntKind.i64.wrap ((i : Int) + 1) = ((i + 1 : Nat) : Int) := by rw [wrap_small (by omega) (by omega)]; omega
    have w1 : IntKind.i64.wrap (at_ + 3) = at_ + 3 := wrap_small (by omega) (by omega)
    have w2 : IntKind.i64.wrap (at_ + 3 + i) = at_ + 3 + i := wrap_small (by omega) (by omega)
    simp [g46, g45, g0, g12, hil, gH, hB, w1, w2]
    refine store_w k1.ar (by omega) (by simp only [AS.zeros_n]; omega) fun h2 k2 f2 => ?_
    simp [g46, hw]
    exact ⟨n - (i + 1), by omega, (hJ _ _ _).2 ⟨i + 1, rfl, by omega, k1.arena k2 f2, f1.trans (fmAH f2), by simp, by simp [g0], by simp [g12], by simp [g45]⟩⟩
  · have hil' : i = n := by omega
    subst hil'
    simp [g46, g45]
    exact hq _ _ k1 f1 (by simp [g12])

theorem halloc_full {kind aux size : Int} {i : Nat} {R : Pos} {r : RS} {c : Int} (ok : CellOk kind size aux Z.parity) (k : HeapAt h Y Z) (hlen : Z.classes.length < 1000) (hcls : clsFrom size Z.classes 0 = i) (hR : Y.rb[i]? = some R) (hr : Z.rings[i]? = some r) (hc : Z.classes[i]? = some c) (hc0 : 0 ≤ c ∧ c ≤ 24) (ht : 1 ≤ Z.top) (he : Z.edge ≤ 65536) (he0 : 0 ≤ Z.edge) (ht2 : Z.top ≤ Z.edge)
    (h0 : r.n0 = 0) (hroom : Z.edge - Z.top < c + 3) {Q : AVal → Heap → Prop} (hq : ∀ h', Kept h h' → Q (.tup [I 0, I 2]) h') : Cal X n_heap_Heap_Alloc [.ptr Y.H 0, I kind, I aux, I size] h Q := by
  refine Cal.go (u_heap_Heap_Alloc _ _ rfl) ?_
  rw [b_heap_Heap_Alloc]
  have gH := k.gH
  simp [gH, hB]
  refine pack_ok ok fun h1 f1 => ?_
  simp
  refine hcell_full (k.kept f1) hlen hcls hR hr hc hc0 ht he he0 ht2 h0 hroom fun h2 f2 => ?_
  simp
  exact hq _ (f1.trans f2)

/-- what an object's making leaves -/
def HS.made (Z : HS) (i : Nat) (r : RS) (c : Int) (w : Int) (size : Nat) : HS :=
  { Z with a := (((Z.a.grow r Z.top).tick).st Z.top.toNat w).zeros (Z.top + 3) size, rings := Z.rings.set i { r.grow Z.top with first := (Z.a.grow r Z.top).ws (Z.top + 1).toNat, n0 := 0, n3 := r.n3 + 1 }, top := Z.top + (c + 3) }
theorem halloc_w {kind aux size : Int} {i : Nat} {R : Pos} {r : RS} {c : Int} (ok : CellOk kind size aux Z.parity) (k : HeapAt h Y Z) (hlen : Z.classes.length < 1000) (hcls : clsFrom size Z.classes 0 = i) (hR : Y.rb[i]? = some R) (hr : Z.rings[i]? = some r) (hc : Z.classes[i]? = some c) (hc0 : size ≤ c ∧ c ≤ 24) (ht : 1 ≤ Z.top) (he : Z.edge ≤ Z.a.n)
    (h0 : r.n0 = 0) (hroom : c + 3 ≤ Z.edge - Z.top) (hn : r.n3 < 65536) (hf : r.all ≠ 0 → Z.a.ok r.first ∧ Z.a.ok (Z.a.ws (r.first + 2).toNat)) {Q : AVal → Heap → Prop}
    (hq : ∀ h', HeapAt h' Y (Z.made i r c (cellW kind size aux Z.parity) size.toNat) → Fm (MH Y) h h' → Q (.tup [I Z.top, I 0]) h') : Cal X n_heap_Heap_Alloc [.ptr Y.H 0, I kind, I aux, I size] h Q := by
  refine Cal.go (u_heap_Heap_Alloc _ _ rfl) ?_
  rw [b_heap_Heap_Alloc]
  have gH := k.gH
  have sz := k.ar.sz
  have os := ok.s
  simp [gH, hB]
  refine pack_ok ok fun h1 f1 => ?_
  simp
  refine hcell_grow (k.kept f1) hlen hcls hR hr hc ⟨by omega, hc0.2⟩ ht he h0 hroom hn hf fun h2 k2 f2 => ?_
  have gH2 := k2.gH
  have ean : (Z.a.grow r Z.top).n = Z.a.n := by simp only [AS.grow]; split <;> rfl
  simp [gH2, hB]
  refine store_w k2.ar (by omega) (by simp only [AS.tick, ean]; omega) fun h3 k3 f3 => ?_
  have k4 := k2.arena k3 f3
  simp
  refine zeros_w (at_ := Z.top) (size := size) k4 (by omega) os.1 (by simp only [AS.tick, AS.st, ean]; omega) (by simp) (by simp) (by simp) (by simp) fun e' h4 k5 f5 g12 => ?_
  simp [g12]
  exact hq h4 k5 (Fm.trans (Fm.trans (Fm.trans (f1.fm _) f2) (fmAH f3)) f5)
end
end Go.Tw
end

section
open Go Go.Av Go.Ck
namespace Go.Tw
set_option linter.unusedSimpArgs false
set_option linter.unusedVariables false
section
variable {h : Heap} {Y : HLay} {Z : HS}
theorem Round_w {size : Int} {i : Nat} {c : Int} (k : HeapAt h Y Z) (hlen : Z.classes.length < 1000) (hcls : clsFrom size Z.classes 0 = i) (hc : Z.classes[i]? = some c) (hc0 : 0 ≤ c ∧ c ≤ 24) {Q : AVal → Heap → Prop} (hq : ∀ h', Kept h h' → Q (I (c + 3)) h') : Cal X n_heap_Heap_Round [.ptr Y.H 0, I size] h Q := by
  refine Cal.go (u_heap_Heap_Round _ _ rfl) ?_
  rw [b_heap_Heap_Round]
  simp
  refine class_w k hlen fun h1 f1 => ?_
  rw [hcls]
  have k1 := k.kept f1
  have gH := k1.gH
  have gC := k1.gC
  have hil := (List.getElem?_eq_some_iff.1 hc).1
  have hcb := cB_at k1 hc
  have hi0 : (0 : Int) ≤ i := by omega
  have w1 : IntKind.i64.wrap (c + 3) = c + 3 := wrap_small (by omega) (by omega)
  simp [gH, hB, gC, slice_at (l := []) i hil, hcb, w1]
  exact hq _ f1

/-- an object's header -/
structure ObjAt (a : AS) (at_ kind size aux mark : Int) : Prop where
  ok : CellOk kind size aux mark
  lo : 1 ≤ at_
  hi : at_ + 3 + size ≤ a.n
  hd : a.ws at_.toNat = cellW kind size aux mark
theorem hCell_w {at_ kind size aux mark : Int} (k : HeapAt h Y Z) (o : ObjAt Z.a at_ kind size aux mark) {Q : AVal → Heap → Prop}
    (hq : ∀ h', HeapAt h' Y { Z with a := Z.a.tick } → Fm (MA Y.A Y.W) h h' → Q (.tup [.agg [I kind, I size, I aux, I mark], I 0]) h') : Cal X n_heap_Heap_Cell [.ptr Y.H 0, I at_] h Q := by
  have := o.lo; have := o.hi; have := o.ok.s
  exact Cell_w k.gH k.nA k.lH o.ok k.ar (by omega) (by omega) o.hd fun h' k' f' => hq h' (k.arena k' f') f'
theorem hword_w {at_ kind size aux mark j : Int} (k : HeapAt h Y Z) (o : ObjAt Z.a at_ kind size aux mark) (hj0 : 0 ≤ j) (hj : j < size) {Q : AVal → Heap → Prop}
    (hq : ∀ h', HeapAt h' Y { Z with a := Z.a.tick } → Fm (MA Y.A Y.W) h h' → Q (.tup [I (at_ + 3 + j), I 0]) h') : Cal X n_heap_Heap_word [.ptr Y.H 0, I at_, I j] h Q := by
  refine Cal.go (u_heap_Heap_word _ _ rfl) ?_
  rw [b_heap_Heap_word]
  have := o.lo; have := o.hi; have := o.ok.s; have sz := k.ar.sz
  simp
  refine hCell_w k o fun h1 k1 f1 => ?_
  have n1 : ¬ MH Y h1.next := by
    rintro (h | h | h | ⟨R, hR, h⟩)
    · have := k1.ar.la; omega
    · have := k1.ar.lw; omega
    · have := k1.lH; omega
    · obtain ⟨i, hi⟩ := List.getElem?_of_mem hR
      have hl := (List.getElem?_eq_some_iff.1 hi).1
      have hl2 : i < Z.rings.length := by rw [k.l2]; exact hl
      have := (k.rg i R _ hi (List.getElem?_eq_getElem hl2)).lr
      have := f1.next
      omega
  have nj : ¬ j < 0 := by omega
  have nj2 : ¬ size ≤ j := by omega
  have w1 : IntKind.i64.wrap (at_ + 3) = at_ + 3 := wrap_small (by omega) (by omega)
  have w2 : IntKind.i64.wrap (at_ + 3 + j) = at_ + 3 + j := wrap_small (by omega) (by omega)
  simp [nj, nj2, w1, w2]
  have kk : Kept h1 ((h1.new (Blk.ofL [I 0, I 0, I 0, I 0])).put h1.next (Blk.ofL [I kind, I size, I aux, I mark])) := ((Kept.refl h1).new _).put _ (Nat.le_refl _)
  exact hq _ (k1.kept kk) (f1.trans (kk.fm _))
theorem hSet_w {at_ kind size aux mark j w : Int} (k : HeapAt h Y Z) (o : ObjAt Z.a at_ kind size aux mark) (hj0 : 0 ≤ j) (hj : j < size) {Q : AVal → Heap → Prop}
    (hq : ∀ h', HeapAt h' Y { Z with a := Z.a.tick.st (at_ + 3 + j).toNat w } → Fm (MA Y.A Y.W) h h' → Q (I 0) h') : Cal X n_heap_Heap_Set [.ptr Y.H 0, I at_, I j, I w] h Q := by
  refine Cal.go (u_heap_Heap_Set _ _ rfl) ?_
  rw [b_heap_Heap_Set]
  have := o.lo; have := o.hi; have := o.ok.s
  simp
  refine hword_w k o hj0 hj fun h1 k1 f1 => ?_
  have gH := k1.gH
  simp [gH, hB]
  refine store_w k1.ar (by omega) (by simp only [AS.tick]; omega) fun h2 k2 f2 => ?_
  simp
  exact hq _ (k1.arena k2 f2) (f1.trans f2)
theorem hGet_w {at_ kind size aux mark j : Int} (k : HeapAt h Y Z) (o : ObjAt Z.a at_ kind size aux mark) (hj0 : 0 ≤ j) (hj : j < size) {Q : AVal → Heap → Prop}
    (hq : ∀ h', HeapAt h' Y { Z with a := Z.a.tick.tick } → Fm (MA Y.A Y.W) h h' → Q (.tup [I (Z.a.ws (at_ + 3 + j).toNat), I 0]) h') : Cal X n_heap_Heap_Get [.ptr Y.H 0, I at_, I j] h Q := by
  refine Cal.go (u_heap_Heap_Get _ _ rfl) ?_
  rw [b_heap_Heap_Get]
  have := o.lo; have := o.hi; have := o.ok.s
  simp
  refine hword_w k o hj0 hj fun h1 k1 f1 => ?_
  have gH := k1.gH
  simp [gH, hB]
  refine load_w k1.ar (by omega) (by simp only [AS.tick]; omega) fun h2 k2 f2 => ?_
  simp
  exact hq _ (k1.arena k2 f2) (f1.trans f2)
end
end Go.Tw
end

section
open Go Go.Av Go.Ck
namespace Go.Tw
set_option linter.unusedSimpArgs false
set_option linter.unusedVariables false
theorem AS.st_n (a : AS) (i : Nat) (v : Int) : (a.st i v).n = a.n := rfl
theorem AS.tick_n (a : AS) : a.tick.n = a.n := rfl
theorem AS.tick_ws (a : AS) : a.tick.ws = a.ws := rfl
theorem AS.st_ws (a : AS) (i : Nat) (v : Int) (j : Nat) : (a.st i v).ws j = if i = j then v else a.ws j := rfl
theorem AS.zeros_ws (a : AS) {p : Int} (hp : 0 ≤ p) : ∀ (k j : Nat), (a.zeros p k).ws j = if p ≤ j ∧ j < p + k then 0 else a.ws j
  | 0, j => by rw [if_neg (by omega)]; rfl
  | k + 1, j => by
    simp only [AS.zeros, AS.st_ws, AS.zeros_ws a hp k j]
    by_cases h1 : (p + k).toNat = j
    · rw [if_pos h1, if_pos (by omega)]
    · rw [if_neg h1]
      by_cases h2 : p ≤ j ∧ (j : Int) < p + k
      · rw [if_pos h2, if_pos (by omega)]
      · rw [if_neg h2, if_neg (by omega)]
/-- words set one behind the other -/
def AS.sets (a : AS) (p : Int) : List Int → Nat → AS
  | [], _ => a
  | x :: l, j => (a.tick.st (p + j).toNat x).sets p l (j + 1)
theorem AS.sets_n : ∀ (l : List Int) (a : AS) (p : Int) (j : Nat), (a.sets p l j).n = a.n
  | [], _, _, _ => rfl
  | x :: l, a, p, j => by simp only [AS.sets, AS.sets_n l]; rfl
theorem AS.sets_ws {p : Int} (hp : 0 ≤ p) : ∀ (l : List Int) (a : AS) (j q : Nat), (q : Int) < p + j → (a.sets p l j).ws q = a.ws q
  | [], _, _, _, _ => rfl
  | x :: l, a, j, q, hq => by
    simp only [AS.sets]
    rw [AS.sets_ws hp l _ (j + 1) q (by omega), AS.st_ws, if_neg (by omega)]; rfl

/-- a slice of words of our own -/
structure RowAt (M : Pos → Prop) (h : Heap) (v : AVal) (l : List Int) : Prop where
  len : lenSlA v = some (I l.length)
  at_ : ∀ (i : Nat) (x : Int), l[i]? = some x → ∃ b o, addrSlA 1 v (some i) = some (.ptr b o) ∧ b.val < h.next.val ∧ ¬ M b ∧ rdB (h.get b) o 1 = some [I x]
theorem RowAt.fm {M : Pos → Prop} {h h' : Heap} {v : AVal} {l : List Int} (r : RowAt M h v l) (f : Fm M h h') : RowAt M h' v l :=
  ⟨r.len, fun i x hx => by
    obtain ⟨b, o, h1, h2, h3, h4⟩ := r.at_ i x hx
    exact ⟨b, o, h1, Nat.lt_of_lt_of_le h2 f.next, h3, by rw [f.get b h2 h3]; exact h4⟩⟩

theorem RowAt.mono {M N : Pos → Prop} {h : Heap} {v : AVal} {l : List Int} (r : RowAt M h v l) (hm : ∀ q, N q → M q) : RowAt N h v l :=
  ⟨r.len, fun i x hx => by
    obtain ⟨b, o, h1, h2, h3, h4⟩ := r.at_ i x hx
    exact ⟨b, o, h1, h2, fun h => h3 (hm b h), h4⟩⟩

def wB (p : PProg) (Y : HLay) (gl c : AVal) (words weaks : Int) : Blk := Blk.ofL [p.cons.val PCon.enc, p.codes.val PCode.enc, p.nodes.val PNode.enc, p.globals.val PGlobal.enc, I p.main, .ptr Y.H 0, gl, c, I words, I weaks]
/-- what a world's work changes -/
def MW (Y : HLay) (V : Pos) : Pos → Prop := fun q => MH Y q ∨ q.val = V.val
structure WorldAt (h : Heap) (V : Pos) (Y : HLay) (Z : HS) (p : PProg) (gl c : AVal) (words weaks : Int) : Prop where
  hp : HeapAt h Y Z
  lV : V.val < h.next.val
  nV : ¬ MH Y V
  nC : V.val ≠ Y.C.val
  nG : V.val ≠ Y.G.val
  gV : h.get V = some (wB p Y gl c words weaks)
section
variable {h : Heap} {Y : HLay} {Z : HS} {V : Pos} {p : PProg} {gl c : AVal} {words weaks : Int}
theorem WorldAt.heap {h' : Heap} {Z' : HS} (k : WorldAt h V Y Z p gl c words weaks) (k' : HeapAt h' Y Z') (f : Fm (MH Y) h h') : WorldAt h' V Y Z' p gl c words weaks :=
  ⟨k', Nat.lt_of_lt_of_le k.lV f.next, k.nV, k.nC, k.nG, by rw [f.get _ k.lV k.nV]; exact k.gV⟩
theorem WorldAt.kept {h' : Heap} (k : WorldAt h V Y Z p gl c words weaks) (f : Kept h h') : WorldAt h' V Y Z p gl c words weaks := k.heap (k.hp.kept f) (f.fm _)
theorem WorldAt.set (k : WorldAt h V Y Z p gl c words weaks) (gl' c' : AVal) (words' weaks' : Int) : WorldAt (h.put V (wB p Y gl' c' words' weaks')) V Y Z p gl' c' words' weaks' :=
  ⟨k.hp.fm (M := fun q => q.val = V.val) (Fm.put (Fm.refl _ h) _ (.inr rfl)) (fun q hq e => k.nV (by
      have : q = V := Pos.val_inj _ _ e
      rw [← this]; exact hq)) (fun e => k.nC e.symm) (fun e => k.nG e.symm), k.lV, k.nV, k.nC, k.nG, by simp⟩
theorem fmW {h' : Heap} (f : Fm (MH Y) h h') : Fm (MW Y V) h h' := f.mono fun q _ hq => .inl hq
theorem fmAW {h' : Heap} (f : Fm (MA Y.A Y.W) h h') : Fm (MW Y V) h h' := fmW (fmAH f)

/-- an object's words are set -/
theorem mkset_w {at_ kind size aux mark : Int} {l : List Int} (k : WorldAt h V Y Z p gl c words weaks) (o : ObjAt Z.a at_ kind size aux mark) (hl : (l.length : Int) = size) {wv : AVal} (rw_ : RowAt (MH Y) h wv l) {e : Env} {Q : XExit → Env → Heap → Prop}
    (g0 : getE e (tt 0) = .ptr V 0) (g10 : getE e (tt 10) = I at_) (g42 : getE e (tt 42) = wv) (g43 : getE e (tt 43) = I l.length) (g44 : getE e (tt 44) = I 0)
    (hq : ∀ e' h', WorldAt h' V Y { Z with a := Z.a.sets (at_ + 3) l 0 } p gl c words weaks → Fm (MH Y) h h' → getE e' (tt 10) = I at_ → Q (.exit 0) e' h') : Run X (.loop b_machine_World_make_L0) e h Q := by
  have := o.lo; have := o.hi; have := o.ok.s
  obtain ⟨J, hJ⟩ : ∃ J : Nat → Env → Heap → Prop, ∀ k e1 h1, J k e1 h1 ↔ ∃ (i : Nat) (a1 : AS), k = l.length - i ∧ i ≤ l.length ∧ WorldAt h1 V Y { Z with a := a1 } p gl c words weaks ∧ ObjAt a1 at_ kind size aux mark ∧ a1.sets (at_ + 3) (l.drop i) i = Z.a.sets (at_ + 3) l 0 ∧ Fm (MH Y) h h1 ∧ getE e1 (tt 44) = I i ∧ getE e1 (tt 0) = .ptr V 0 ∧ getE e1 (tt 10) = I at_ ∧ getE e1 (tt 42) = wv ∧ getE e1 (tt 43) = I l.length := ⟨_, fun _ _ _ => Iff.rfl⟩
  refine Run.loop J (fun k e1 h1 hk => ?_) l.length ((hJ _ _ _).2 ⟨0, Z.a, by omega, by omega, k, o, rfl, Fm.refl _ _, g44, g0, g10, g42, g43⟩)
  obtain ⟨i, a1, rfl, hi, k1, o1, hr, f1, g44, g0, g10, g42, g43⟩ := (hJ _ _ _).1 hk
  rw [b_machine_World_make_L0]
  by_cases hil : i < l.length
  · obtain ⟨x, hx, hd⟩ := drop_at hil
    obtain ⟨b, o', a2, b1, b2, b3⟩ := (rw_.fm f1).at_ i x hx
    have gV := k1.gV
    have hw : IntKind.i64.wrap ((i : Int) + 1) = ((i + 1 : Nat) : Int) := by
      have sz := k1.hp.ar.sz
      rw [wrap_small (by omega) (by omega)]; omega
    simp [g44, g43, g0, g10, g42, hil, a2, b3, gV, wB]
    refine hSet_w k1.hp o1 (by omega) (by omega) fun h2 k2 f2 => ?_
    simp [g44, hw]
    refine ⟨l.length - (i + 1), by omega, (hJ _ _ _).2 ⟨i + 1, _, rfl, by omega, k1.heap k2 (fmAH f2), ⟨o1.ok, o1.lo, o1.hi, ?_⟩, ?_, f1.trans (fmAH f2), by simp, by simp [g0], by simp [g10], by simp [g42], by simp [g43]⟩⟩
    · rw [AS.st_ws, if_neg (by omega)]; exact o1.hd
    · rw [← hr, hd]; rfl
  · have hil' : i = l.length := by omega
    subst hil'
    simp [g44, g43]
    simp [AS.sets] at hr
    rw [hr] at k1
    exact hq _ _ k1 f1 (by simp [g10])

theorem make_full {kind aux : Int} {l : List Int} {i : Nat} {R : Pos} {r : RS} {cs : Int} {wv : AVal} (k : WorldAt h V Y Z p gl c words weaks) (rw_ : RowAt (MH Y) h wv l) (ok : CellOk kind l.length aux Z.parity) (hlen : Z.classes.length < 1000) (hcls : clsFrom l.length Z.classes 0 = i) (hR : Y.rb[i]? = some R) (hr : Z.rings[i]? = some r) (hc : Z.classes[i]? = some cs) (hc0 : 0 ≤ cs ∧ cs ≤ 24) (ht : 1 ≤ Z.top) (he : Z.edge ≤ 65536) (he0 : 0 ≤ Z.edge) (ht2 : Z.top ≤ Z.edge)
    (h0 : r.n0 = 0) (hroom : Z.edge - Z.top < cs + 3) {Q : AVal → Heap → Prop} (hq : ∀ h', Kept h h' → Q (.tup [I 0, .bool false]) h') : Cal X n_machine_World_make [.ptr V 0, I kind, I aux, wv] h Q := by
  refine Cal.go (u_machine_World_make _ _ rfl) ?_
  rw [b_machine_World_make]
  have gV := k.gV
  simp [gV, wB, rw_.len]
  refine halloc_full ok k.hp hlen hcls hR hr hc hc0 ht he he0 ht2 h0 hroom fun h1 f1 => ?_
  simp
  exact hq _ f1

theorem make_w {kind aux : Int} {l : List Int} {i : Nat} {R : Pos} {r : RS} {cs : Int} {wv : AVal} (k : WorldAt h V Y Z p gl c words weaks) (rw_ : RowAt (MW Y V) h wv l) (hwd : 0 ≤ words ∧ words < 4611686018427387904) (ok : CellOk kind l.length aux Z.parity) (hlen : Z.classes.length < 1000) (hcls : clsFrom l.length Z.classes 0 = i) (hR : Y.rb[i]? = some R) (hr : Z.rings[i]? = some r) (hc : Z.classes[i]? = some cs) (hc0 : (l.length : Int) ≤ cs ∧ cs ≤ 24) (ht : 1 ≤ Z.top) (he : Z.edge ≤ Z.a.n)
    (h0 : r.n0 = 0) (hroom : cs + 3 ≤ Z.edge - Z.top) (hn : r.n3 < 65536) (hf : r.all ≠ 0 → Z.a.ok r.first ∧ Z.a.ok (Z.a.ws (r.first + 2).toNat)) {Q : AVal → Heap → Prop}
    (hq : ∀ h', WorldAt h' V Y { Z.made i r cs (cellW kind l.length aux Z.parity) l.length with a := (Z.made i r cs (cellW kind l.length aux Z.parity) l.length).a.sets (Z.top + 3) l 0 } p gl c (words + (cs + 3)) weaks → Fm (MW Y V) h h' → Q (.tup [I Z.top, .bool true]) h') : Cal X n_machine_World_make [.ptr V 0, I kind, I aux, wv] h Q := by
  refine Cal.go (u_machine_World_make _ _ rfl) ?_
  rw [b_machine_World_make]
  have gV := k.gV
  simp [gV, wB, rw_.len]
  refine halloc_w ok k.hp hlen hcls hR hr hc hc0 ht he h0 hroom hn hf fun h1 k1 f1 => ?_
  have kw := k.heap k1 f1
  have gV1 := kw.gV
  have hcls1 : clsFrom (l.length : Int) (Z.made i r cs (cellW kind l.length aux Z.parity) (l.length : Int).toNat).classes 0 = i := hcls
  obtain ⟨v, h2, hc2, hv2, f2⟩ := Round_w (size := l.length) k1 hlen hcls1 hc ⟨by omega, hc0.2⟩ (Q := fun v h' => v = I (cs + 3) ∧ Kept h1 h') (fun h' kk => ⟨rfl, kk⟩)
  subst hv2
  have kw2 := kw.kept f2
  have gV2 := kw2.gV
  have hw1 : IntKind.i64.wrap (words + (cs + 3)) = words + (cs + 3) := wrap_small (by omega) (by omega)
  have kw3 := kw2.set gl c (words + (cs + 3)) weaks
  have f3 : Fm (MW Y V) h2 (h2.put V (wB p Y gl c (words + (cs + 3)) weaks)) := Fm.put (Fm.refl _ _) _ (.inr (.inr rfl))
  have gV1' := gV1
  simp only [wB] at gV1 gV2
  simp
  refine w_dreg (by simp only [tr_cons, tr_nil]; simp [op_p, op_r, op_c, op_fN, gV1, gV2, rw_.len, hc2, hw1]; rfl) (by simp [do_nil, do_skip, do_read, gV1, gV2, same_iff]) rfl ?_
  have top0 := k.hp.ar.sz
  have okc := ok
  have hlt : (l.length : Int).toNat = l.length := by omega
  rw [hlt] at kw3 k1 kw2 kw
  have ean : (Z.a.grow r Z.top).n = Z.a.n := by simp only [AS.grow]; split <;> rfl
  have on : ObjAt (Z.made i r cs (cellW kind l.length aux Z.parity) l.length).a Z.top kind l.length aux Z.parity := by
    refine ⟨ok, ht, ?_, ?_⟩
    · simp only [HS.made, AS.zeros_n, AS.st_n, AS.tick_n, ean]; omega
    · simp only [HS.made]
      rw [AS.zeros_ws _ (by omega), if_neg (by omega), AS.st_ws, if_pos rfl]
  have rw3 := (((rw_.fm (fmW f1)).fm (f2.fm _)).fm f3).mono (N := MH Y) fun q hq => .inl hq
  simp [rw_.len]
  refine mkset_w kw3 on rfl rw3 (by simp) (by simp) (by simp) (by simp) (by simp) fun e' h4 k4 f4 g10 => ?_
  simp [g10]
  exact hq h4 k4 (Fm.trans (Fm.trans (Fm.trans (fmW f1) (f2.fm _)) f3) (fmW f4))
end
end Go.Tw
end
