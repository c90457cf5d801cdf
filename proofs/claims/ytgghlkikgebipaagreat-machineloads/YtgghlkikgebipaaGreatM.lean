/- A world is loaded just if its program is right and there is room for its globals, else the checker's error or ErrFull is told (the law MachineLoads, whatever the input). Conditions: none. This file: part M. -/
import Derived.Test.YtgghlkikgebipaaGreatL
set_option linter.all false

section
open Go Go.Av Go.Ck
namespace Go.Tw
set_option linter.unusedSimpArgs false
set_option linter.unusedVariables false
/-! the document's world -/
def refB (p : PProg) (os gl : AVal) : Blk := Blk.ofL [p.cons.val PCon.enc, p.codes.val PCode.enc, p.nodes.val PNode.enc, p.globals.val PGlobal.enc, I p.main, os, gl, .nils, .nils, .nils, .nils]
structure RefAt (h : Heap) (V B : Pos) (ex : Bool) (p : PProg) (gl : AVal) (n : Nat) (l : List AVal) : Prop where
  lV : V.val < h.next.val
  lB : B.val < h.next.val
  ne : V.val ≠ B.val
  n0 : 0 < n
  n1 : n < 100000
  ln : l.length = 4 * n
  gV : h.get V = some (refB p (.slice B 0 n ex n 4) gl)
  gB : h.get B = some (Blk.ofL l)
theorem append_four {h : Heap} {b b2 : Pos} {l x : List AVal} {n : Nat} {ex : Bool} (hb : h.get b = some (Blk.ofL l)) (hb2 : h.get b2 = some (Blk.ofL x)) (hln : l.length = 4 * n) (hlx : x.length = 4) (hx : x.all AVal.scalar = true) (h0 : 0 < n) (h1 : n < 100000) :
    appendA h 4 48 (.slice b 0 n ex n 4) (.slice b2 0 1 true 1 4) = some (.slice h.next 0 (n + 1) false (n + 1) 4, (bif ex then h else h.kill b).new (Blk.ofL (l ++ x))) := by
  have e1 : (Bt.ofL x.length x).slice 0 4 = some x := by rw [Bt.slice_ofL x.length x (Nat.le_refl _) 4 0 (by omega), ← hlx]; simp
  have e2 : (Bt.ofL l.length l).slice 0 (n * 4) = some l := by rw [Bt.slice_ofL l.length l (Nat.le_refl _) (n * 4) 0 (by omega), Nat.mul_comm, ← hln]; simp
  have hle : ¬ n + 1 ≤ n := by omega
  have hle2 : (2 * (n + 1) + 1000) * 48 ≤ 281474976710656 := by omega
  cases ex <;> simp [appendA, lenOf, elemsOf, hb, hb2, Blk.ofL, e1, e2, hx, hle, hle2]
section
variable {h : Heap} {V B : Pos} {ex : Bool} {p : PProg} {gl : AVal} {n : Nat} {l : List AVal}
theorem RefAt.fm {M : Pos → Prop} {h' : Heap} (k : RefAt h V B ex p gl n l) (f : Fm M h h') (h1 : ¬ M V) (h2 : ¬ M B) : RefAt h' V B ex p gl n l :=
  ⟨Nat.lt_of_lt_of_le k.lV f.next, Nat.lt_of_lt_of_le k.lB f.next, k.ne, k.n0, k.n1, k.ln, by rw [f.get _ k.lV h1]; exact k.gV, by rw [f.get _ k.lB h2]; exact k.gB⟩
theorem RefAt.kept {h' : Heap} (k : RefAt h V B ex p gl n l) (f : Kept h h') : RefAt h' V B ex p gl n l := k.fm (f.fm fun _ => False) (fun h => h) (fun h => h)
theorem rmake_w (r : RefAt h V B ex p gl n l) (h1 : n + 1 < 100000) {a b c d : AVal} (sc : [a, b, c, d].all AVal.scalar = true) {Q : AVal → Heap → Prop}
    (hq : ∀ h' B', h.next.val ≤ B'.val → RefAt h' V B' false p gl (n + 1) (l ++ [a, b, c, d]) → Fm (fun q => q.val = V.val ∨ q.val = B.val) h h' → Q (I n) h') : Cal X n_ref19_W_make [.ptr V 0, .agg [a, b, c, d]] h Q := by
  refine Cal.go (u_ref19_W_make _ _ rfl) ?_
  rw [b_ref19_W_make]
  simp
  have k1 : Kept h (h.new (Blk.ofL [a, b, c, d])) := (Kept.refl h).new _
  have gx1 : (h.new (Blk.ofL [a, b, c, d])).get h.next = some (Blk.ofL [a, b, c, d]) := by simp
  have n1 : (h.new (Blk.ofL [a, b, c, d])).next.val = h.next.val + 1 := by simp [pv]
  generalize h.new (Blk.ofL [a, b, c, d]) = g1 at *
  have r1 := r.kept k1
  have r2 := r1.kept ((Kept.refl g1).new (Blk.ofL [a, b, c, d]))
  have gx2 : (g1.new (Blk.ofL [a, b, c, d])).get g1.next = some (Blk.ofL [a, b, c, d]) := by simp
  have hap := append_four r2.gB gx2 r2.ln rfl sc r2.n0 r2.n1 (ex := ex)
  obtain ⟨B', hB'⟩ : ∃ B', (g1.new (Blk.ofL [a, b, c, d])).next = B' := ⟨_, rfl⟩
  have hBv : B'.val = h.next.val + 2 := by rw [← hB']; simp [pv]; omega
  have lV := r.lV
  have lB := r.lB
  have ne := r.ne
  obtain ⟨g2, h2⟩ : ∃ g2, (bif ex then g1.new (Blk.ofL [a, b, c, d]) else (g1.new (Blk.ofL [a, b, c, d])).kill B).new (Blk.ofL (l ++ [a, b, c, d])) = g2 := ⟨_, rfl⟩
  have f2 : Fm (fun q => q.val = V.val ∨ q.val = B.val) h g2 := by
    rw [← h2]
    cases ex
    · exact (((k1.fm _).new _).kill (.inr (.inr rfl))).new _
    · exact ((k1.fm _).new _).new _
  have n2 : g2.next.val = h.next.val + 3 := by
    rw [← h2]; cases ex <;> simp [pv, Heap.kill] <;> omega
  have gB2 : g2.get B' = some (Blk.ofL (l ++ [a, b, c, d])) := by
    rw [← h2, ← hB']; cases ex
    · exact S.get_new_self _ _
    · exact S.get_new_self _ _
  have gV2 : g2.get V = some (refB p (.slice B 0 n ex n 4) gl) := by
    rw [← h2]; cases ex
    · simp only [cond_false]
      rw [S.get_new_ne _ _ _ (by simp [pv, Heap.kill]; omega), get_kill_ne _ _ _ (by omega)]; exact r2.gV
    · simp only [cond_true]
      rw [S.get_new_ne _ _ _ (by simp [pv]; omega)]; exact r2.gV
  rw [hB', h2] at hap
  have gV1 := r1.gV
  have gV1n := r2.gV
  simp only [refB] at gV1 gV1n gV2
  refine w_dreg (by simp only [tr_cons, tr_nil]; simp [op_p, op_r, op_f, op_fN, repl, gV1, gV1n, gx1, hap, gV2]; rfl) (by simp [do_nil, do_skip, do_read, gV1, gV1n, gV2, same_iff]) rfl ?_
  have w1 : IntKind.i64.wrap (n : Int) = n := wrap_small (by omega) (by omega)
  have w2 : IntKind.i64.wrap ((n : Int) + 1 - 1) = n := by rw [show (n : Int) + 1 - 1 = n by omega]; exact w1
  simp [w1, w2, lenSlA]
  refine hq _ B' (by omega) ⟨by simp; omega, by simp; omega, by omega, by omega, h1, by simp [r.ln]; omega, by simp [refB], ?_⟩ (f2.put _ (.inr (.inl rfl)))
  rw [S.get_put_ne _ _ _ _ (by omega)]; exact gB2
end
end Go.Tw
end

section
open Go Go.Av Go.Ck
namespace Go.Tw
set_option linter.unusedSimpArgs false
set_option linter.unusedVariables false
section
variable {h : Heap} {V B : Pos} {ex : Bool} {p : PProg} {gl : AVal} {n : Nat} {l : List AVal}
theorem rsize_w {y : PCode} {Q : AVal → Heap → Prop} (hq : ∀ h', Kept h h' → Q (I (madeP y)) h') : Cal X n_ref19_size [.agg y.enc] h Q := by
  refine Cal.go (u_ref19_size _ _ rfl) ?_
  rw [b_ref19_size]
  obtain ⟨nm, fr, ar, nd⟩ := y
  simp [PCode.enc]
  by_cases ha : ar = 0
  · subst ha
    simp
    refine Cal.go (u_ref19_max _ _ rfl) ?_
    rw [b_ref19_max]
    simp
    by_cases hf : 1 < fr
    · simp [hf]
      have := hq _ ((Kept.refl h).new (Blk.ofL [.str nm, I fr, I 0, I nd]))
      rw [show madeP ⟨nm, fr, 0, nd⟩ = fr by simp only [madeP, if_true]; omega] at this
      exact this
    · simp [hf]
      have := hq _ ((Kept.refl h).new (Blk.ofL [.str nm, I fr, I 0, I nd]))
      rw [show madeP ⟨nm, fr, 0, nd⟩ = 1 by simp only [madeP, if_true]; omega] at this
      exact this
  · simp [ha]
    have := hq _ ((Kept.refl h).new (Blk.ofL [.str nm, I fr, I ar, I nd]))
    rw [show madeP ⟨nm, fr, ar, nd⟩ = fr by simp only [madeP, if_neg ha]] at this
    exact this
/-- a document's object -/
def RObj (N : Pos → Prop) (h : Heap) (o : GObj) (bits : Int) (c : List AVal) : Prop :=
  ∃ row w, c = [I o.kind, I o.aux, row, .int .u64 w] ∧
    ((o.kind = 2 ∧ o.size = 1 ∧ ∃ b, row = .slice b 0 1 true 1 1 ∧ b.val < h.next.val ∧ ¬ N b ∧ rdB (h.get b) 0 1 = some [I 0]) ∨
     (o.kind = 3 ∧ o.size = 0 ∧ ∃ b, row = .slice b 0 0 true 0 1) ∨
     ((o.kind = 7 ∨ o.kind = 8) ∧ o.aux = 0 ∧ o.size = 1 ∧ o.word = IntKind.i64.wrap bits ∧ w = bits ∧ row = .nils))
theorem rclosure_w {j : Nat} {y : PCode} (r : RefAt h V B ex p gl n l) (h1 : n + 1 < 100000) (hj : p.codes.list[j]? = some y) (hf : y.free = 0) {Q : AVal → Heap → Prop}
    (hq : ∀ h' B' c, h.next.val ≤ B'.val → RefAt h' V B' false p gl (n + 1) (l ++ c) → RObj (fun q => q.val < h.next.val ∨ q.val = B'.val) h' (objCode j y) 0 c → Fm (fun q => q.val = V.val ∨ q.val = B.val) h h' → Q (I n) h') : Cal X n_ref19_W_closure [.ptr V 0, I j] h Q := by
  refine Cal.go (u_ref19_W_closure _ _ rfl) ?_
  rw [b_ref19_W_closure]
  have gV := r.gV
  obtain ⟨q, a1⟩ := addr_val PCode.enc 4 (fun _ => rfl) p.codes j y hj
  obtain ⟨nm, fr, ar, nd⟩ := y
  simp only at hf
  subst hf
  simp only [PCode.enc] at a1
  have k1 : Kept h ((h.new (Blk.ofL [.str [], I 0, I 0, I 0])).put h.next (Blk.ofL [.str nm, I 0, I ar, I nd])) := ((Kept.refl h).new _).put _ (Nat.le_refl _)
  have o1 : ((h.new (Blk.ofL [.str [], I 0, I 0, I 0])).put h.next (Blk.ofL [.str nm, I 0, I ar, I nd])).get h.next = some (Blk.ofL [.str nm, I 0, I ar, I nd]) := by simp
  have hye : PCode.enc ⟨nm, 0, ar, nd⟩ = [.str nm, I 0, I ar, I nd] := rfl
  by_cases ha : ar = 0
  · subst ha
    simp [gV, refB, a1, o1]
    rw [← hye]
    refine rsize_w fun h2 k2 => ?_
    have kk := k1.trans k2
    have r2 := r.kept kk
    have hm : madeP ⟨nm, 0, 0, nd⟩ = 1 := rfl
    rw [hm]
    simp
    have k3 : Kept h2 (h2.new (mkRow [I 0] 1)) := (Kept.refl h2).new _
    refine rmake_w (r2.kept k3) h1 rfl fun h3 B' hB r3 f3 => ?_
    simp
    have hl := kk.next
    have lB := r2.lB
    have lV := r2.lV
    refine hq h3 B' _ (by simp [pv] at hB; omega) r3 ⟨_, _, rfl, .inl ⟨rfl, rfl, h2.next, rfl, ?_, ?_, ?_⟩⟩ (Fm.trans ((kk.trans k3).fm _) f3)
    · have := f3.next; simp [pv] at this; omega
    · simp [pv] at hB; simp only; omega
    · rw [f3.get _ (by simp [pv]) (by omega), S.get_new_self]; rfl
  · simp [gV, refB, a1, o1, ha]
    rw [← hye]
    refine rsize_w fun h2 k2 => ?_
    have kk := k1.trans k2
    have r2 := r.kept kk
    have hm : madeP ⟨nm, 0, ar, nd⟩ = 0 := by simp [madeP, ha]
    rw [hm]
    simp
    have k3 : Kept h2 (h2.new (mkRow [I 0] 0)) := (Kept.refl h2).new _
    refine rmake_w (r2.kept k3) h1 rfl fun h3 B' hB r3 f3 => ?_
    simp
    have hl := kk.next
    refine hq h3 B' _ (by simp [pv] at hB; omega) r3 ?_ (Fm.trans ((kk.trans k3).fm _) f3)
    have hk : (objCode j ⟨nm, 0, ar, nd⟩).kind = 3 := by simp [objCode, ha]
    have hs : (objCode j ⟨nm, 0, ar, nd⟩).size = 0 := by simp [objCode, ha]
    exact ⟨_, _, by rw [hk]; rfl, .inr (.inl ⟨hk, hs, _, rfl⟩)⟩
theorem rnumber_w {fl : Bool} {bits : Int} (r : RefAt h V B ex p gl n l) (h1 : n + 1 < 100000) {Q : AVal → Heap → Prop}
    (hq : ∀ h' B' c, h.next.val ≤ B'.val → RefAt h' V B' false p gl (n + 1) (l ++ c) → RObj (fun q => q.val < h.next.val ∨ q.val = B'.val) h' (objNum fl bits) bits c → Fm (fun q => q.val = V.val ∨ q.val = B.val) h h' → Q (I n) h') : Cal X n_ref19_W_number [.ptr V 0, .agg [.bool fl, .int .u64 bits]] h Q := by
  refine Cal.go (u_ref19_W_number _ _ rfl) ?_
  rw [b_ref19_W_number]
  have k1 : Kept h (h.new (Blk.ofL [.bool fl, .int .u64 bits])) := (Kept.refl h).new _
  have hl := k1.next
  cases fl with
  | true =>
    simp
    refine rmake_w (r.kept k1) h1 rfl fun h3 B' hB r3 f3 => ?_
    simp
    exact hq h3 B' _ (by omega) r3 ⟨_, _, rfl, .inr (.inr ⟨.inr rfl, rfl, rfl, rfl, rfl, rfl⟩)⟩ (Fm.trans (k1.fm _) f3)
  | false =>
    simp
    refine rmake_w (r.kept k1) h1 rfl fun h3 B' hB r3 f3 => ?_
    simp
    exact hq h3 B' _ (by omega) r3 ⟨_, _, rfl, .inr (.inr ⟨.inl rfl, rfl, rfl, rfl, rfl, rfl⟩)⟩ (Fm.trans (k1.fm _) f3)
end
end Go.Tw
end

section
open Go Go.Av Go.Ck
namespace Go.Tw
set_option linter.unusedSimpArgs false
set_option linter.unusedVariables false
def rid (k : Nat) : List AVal := (List.range k).map fun (j : Nat) => I ((j : Int) + 1)
theorem rid_succ (k : Nat) : rid (k + 1) = rid k ++ [I ((k : Int) + 1)] := by simp [rid, List.range_succ]
theorem rid_len (k : Nat) : (rid k).length = k := by simp [rid]
structure GR (lo : Nat) (h : Heap) (V B : Pos) (gl : AVal) (k : Nat) (G : Pos) : Prop where
  lo : lo ≤ G.val
  lt : G.val < h.next.val
  nB : G.val ≠ B.val
  or : (k = 0 ∧ gl = .nils ∧ G = V) ∨ (0 < k ∧ gl = .slice G 0 k false k 1 ∧ G.val ≠ V.val ∧ h.get G = some (Blk.ofL (rid k)))
section
variable {h : Heap} {V B G : Pos} {ex : Bool} {p : PProg} {gl : AVal} {n k lo : Nat} {l : List AVal}
theorem gl_app (r : RefAt h V B ex p gl n l) (g : GR lo h V B gl k G) (hV : lo ≤ V.val) (hk : k < 1000) {x : Int} (hx : x = k + 1) :
    ∃ gl' g4 G', appendA (h.new (Blk.ofL [I x])) 1 8 gl (.slice h.next 0 1 true 1 1) = some (gl', g4) ∧ g4.get V = some (refB p (.slice B 0 n ex n 4) gl) ∧ (gl'.scalar = true ∧ gl'.cells = [gl']) ∧
      RefAt (g4.put V (refB p (.slice B 0 n ex n 4) gl')) V B ex p gl' n l ∧ GR lo (g4.put V (refB p (.slice B 0 n ex n 4) gl')) V B gl' (k + 1) G' ∧ h.next.val ≤ G'.val ∧ Fm (fun q => q.val = V.val ∨ q.val = G.val) h (g4.put V (refB p (.slice B 0 n ex n 4) gl')) := by
  subst hx
  have lV := r.lV
  have lB := r.lB
  have ne := r.ne
  have k1 : Kept h (h.new (Blk.ofL [I ((k : Int) + 1)])) := (Kept.refl h).new _
  have fb : (h.new (Blk.ofL [I ((k : Int) + 1)])).get h.next = some (Blk.ofL [I ((k : Int) + 1)]) := by simp
  have n1 : (h.new (Blk.ofL [I ((k : Int) + 1)])).next.val = h.next.val + 1 := by simp [pv]
  have r1 := r.kept k1
  -- whatever the append made
  have fin : ∀ (g3 : Heap) (m : Nat) (R : List AVal), m = k + 1 → R = rid (k + 1) → g3.next.val = h.next.val + 1 → Fm (fun q => q.val = V.val ∨ q.val = G.val) h g3 → RefAt g3 V B ex p gl n l →
      ∃ G', (g3.new (Blk.ofL R)).get V = some (refB p (.slice B 0 n ex n 4) gl) ∧ ((AVal.slice g3.next 0 m false m 1).scalar = true ∧ (AVal.slice g3.next 0 m false m 1).cells = [AVal.slice g3.next 0 m false m 1]) ∧
      RefAt ((g3.new (Blk.ofL R)).put V (refB p (.slice B 0 n ex n 4) (.slice g3.next 0 m false m 1))) V B ex p (.slice g3.next 0 m false m 1) n l ∧ GR lo ((g3.new (Blk.ofL R)).put V (refB p (.slice B 0 n ex n 4) (.slice g3.next 0 m false m 1))) V B (.slice g3.next 0 m false m 1) (k + 1) G' ∧ h.next.val ≤ G'.val ∧ Fm (fun q => q.val = V.val ∨ q.val = G.val) h ((g3.new (Blk.ofL R)).put V (refB p (.slice B 0 n ex n 4) (.slice g3.next 0 m false m 1))) := by
    rintro g3 _ _ rfl rfl hn f3 r3
    have r4 := r3.kept ((Kept.refl g3).new (Blk.ofL (rid (k + 1))))
    have lV3 := r3.lV
    have lB3 := r3.lB
    refine ⟨g3.next, r4.gV, ⟨rfl, rfl⟩, ⟨r4.lV, r4.lB, ne, r4.n0, r4.n1, r4.ln, by simp, ?_⟩, ⟨?_, ?_, ?_, .inr ⟨by omega, rfl, ?_, ?_⟩⟩, by omega, (f3.new _).put _ (.inr (.inl rfl))⟩
    · rw [S.get_put_ne _ _ _ _ (by omega)]; exact r4.gB
    · omega
    · simp [pv]
    · omega
    · omega
    · rw [S.get_put_ne _ _ _ _ (by omega)]; simp
  rcases g.or with ⟨rfl, rfl, rfl⟩ | ⟨h0, rfl, hGV, hG⟩
  · have ha := append_nil (h := h.new (Blk.ofL [I (((0 : Nat) : Int) + 1)])) fb
    obtain ⟨G', f⟩ := fin (h.new (Blk.ofL [I (((0 : Nat) : Int) + 1)])) 1 [I (((0 : Nat) : Int) + 1)] rfl rfl n1 (k1.fm _) r1
    exact ⟨_, _, G', ha, f⟩
  · have lt := g.lt
    have hb5 : (h.new (Blk.ofL [I ((k : Int) + 1)])).get G = some (Blk.ofL (rid k)) := by rw [S.get_new_ne _ _ _ lt]; exact hG
    have hlen := rid_len k
    have ha := append_one (h := h.new (Blk.ofL [I ((k : Int) + 1)])) hb5 fb rfl (by omega) (by omega)
    rw [hlen] at ha
    have fk : Fm (fun q => q.val = G.val) (h.new (Blk.ofL [I ((k : Int) + 1)])) ((h.new (Blk.ofL [I ((k : Int) + 1)])).kill G) := (Fm.refl _ _).kill (.inr rfl)
    obtain ⟨G', f⟩ := fin ((h.new (Blk.ofL [I ((k : Int) + 1)])).kill G) (k + 1) _ rfl (rid_succ k).symm n1 ((k1.fm _).kill (.inr (.inr rfl))) (r1.fm fk (fun e => hGV e.symm) (fun e => g.nB e.symm))
    exact ⟨_, _, G', ha, f⟩
end
/-- the document's world with so many globals -/
structure RInv (lo : Nat) (h : Heap) (V : Pos) (p : PProg) (k : Nat) (B : Pos) (ex : Bool) (gl : AVal) (l : List AVal) (G : Pos) : Prop where
  vl : lo ≤ V.val
  bl : lo ≤ B.val
  r : RefAt h V B ex p gl (k + 1) l
  g : GR lo h V B gl k G
  o : ∀ (j : Nat) g, p.globals.list[j]? = some g → j < k → RObj (fun q => q.val < lo ∨ q.val = V.val ∨ q.val = B.val ∨ q.val = G.val) h (objOf p g) g.bits ((l.drop (4 * (j + 1))).take 4)
theorem RObj.mono {N N' : Pos → Prop} {h h' : Heap} {o : GObj} {bits : Int} {c : List AVal} (r : RObj N h o bits c) (hn : h.next.val ≤ h'.next.val) (hN : ∀ q : Pos, q.val < h.next.val → ¬ N q → ¬ N' q ∧ h'.get q = h.get q) : RObj N' h' o bits c := by
  obtain ⟨row, w, e, h1 | h1 | h1⟩ := r
  · obtain ⟨a, b, q, c1, c2, c3, c4⟩ := h1
    obtain ⟨d1, d2⟩ := hN q c2 c3
    exact ⟨row, w, e, .inl ⟨a, b, q, c1, by omega, d1, by rw [d2]; exact c4⟩⟩
  · exact ⟨row, w, e, .inr (.inl h1)⟩
  · exact ⟨row, w, e, .inr (.inr h1)⟩
/-- one more -/
theorem RInv.step {lo : Nat} {h h' h2 : Heap} {V B B' G G' : Pos} {p : PProg} {k : Nat} {ex : Bool} {gl gl' : AVal} {l c : List AVal} {g : PGlobal} (i : RInv lo h V p k B ex gl l G) (hg : p.globals.list[k]? = some g) (hlo : lo ≤ h.next.val)
    (hB' : h.next.val ≤ B'.val) (fa : Fm (fun q => q.val = V.val ∨ q.val = B.val) h h') (fb : Fm (fun q => q.val = V.val ∨ q.val = G.val) h' h2) (hG' : h'.next.val ≤ G'.val)
    (r2 : RefAt h2 V B' false p gl' (k + 1 + 1) (l ++ c)) (g2 : GR lo h2 V B' gl' (k + 1) G') (oc : RObj (fun q => q.val < h.next.val ∨ q.val = B'.val) h' (objOf p g) g.bits c) : RInv lo h2 V p (k + 1) B' false gl' (l ++ c) G' := by
  have n1 := fa.next
  have n2 := fb.next
  have lV := i.r.lV
  have lG := i.g.lt
  have ln := i.r.ln
  have hc : c.length = 4 := by obtain ⟨_, _, e, _⟩ := oc; rw [e]; rfl
  refine ⟨i.vl, by omega, r2, g2, fun j g' hj hjk => ?_⟩
  by_cases hjk' : j = k
  · subst hjk'
    rw [hg] at hj; injection hj with hj; subst hj
    have e : ((l ++ c).drop (4 * (j + 1))).take 4 = c := by
      rw [← ln, List.drop_left, ← hc, List.take_length]
    rw [e]
    exact oc.mono n2 fun q hq hn => ⟨by have := i.g.lo; omega, fb.get q hq (by omega)⟩
  · have e : ((l ++ c).drop (4 * (j + 1))).take 4 = (l.drop (4 * (j + 1))).take 4 := by
      rw [List.drop_append_of_le_length (by omega), List.take_append_of_le_length (by rw [List.length_drop]; omega)]
    rw [e]
    refine (i.o j g' hj (by omega)).mono (by omega) fun q hq hn => ⟨by omega, ?_⟩
    rw [fb.get q (by omega) (by omega), fa.get q hq (by omega)]
end Go.Tw
end

section
open Go Go.Av Go.Ck
namespace Go.Tw
set_option linter.unusedSimpArgs false
set_option linter.unusedVariables false
section
variable {h : Heap} {V B G pb : Pos} {ex : Bool} {p : PProg} {gl : AVal} {n k lo : Nat} {l : List AVal}
theorem RInv.kept {h' : Heap} (i : RInv lo h V p k B ex gl l G) (kk : Kept h h') : RInv lo h' V p k B ex gl l G := by
  refine ⟨i.vl, i.bl, i.r.kept kk, ⟨i.g.lo, Nat.lt_of_lt_of_le i.g.lt kk.next, i.g.nB, ?_⟩, fun j g hg hj => (i.o j g hg hj).mono kk.next fun q hq hn => ⟨hn, kk.get q hq⟩⟩
  rcases i.g.or with h1 | ⟨h1, h2, h3, h4⟩
  · exact .inl h1
  · exact .inr ⟨h1, h2, h3, by rw [kk.get _ i.g.lt]; exact h4⟩
theorem rloop_w (hg : ∀ g ∈ p.globals.list, globalOk p g = true) (hc : len p.codes ≤ 200) (hgl : len p.globals ≤ 200) {e : Env} {Q : XExit → Env → Heap → Prop} (i0 : RInv lo h V p 0 B ex gl l G)
    (hlo : lo ≤ h.next.val) (hpb : h.get pb = some (Blk.ofL p.enc)) (lpb : pb.val < lo)
    (g2 : getE e (tt 2) = .ptr pb 0) (g5 : getE e (tt 5) = .ptr V 0) (g6 : getE e (tt 6) = I 0)
    (hq : ∀ e' h' B ex gl l G, RInv lo h' V p p.globals.list.length B ex gl l G → Fm (fun q => lo ≤ q.val) h h' → getE e' (tt 5) = .ptr V 0 → getE e' (tt 1) = getE e (tt 1) → Q (.exit 0) e' h') :
    Run X (.loop b_ref19_New_L0) e h Q := by
  obtain ⟨J, hJ⟩ : ∃ J : Nat → Env → Heap → Prop, ∀ k e1 h1, J k e1 h1 ↔ ∃ (i : Nat) (B : Pos) (ex : Bool) (gl : AVal) (l : List AVal) (G : Pos), k = p.globals.list.length - i ∧ i ≤ p.globals.list.length ∧ getE e1 (tt 6) = I i ∧ RInv lo h1 V p i B ex gl l G ∧ Fm (fun q => lo ≤ q.val) h h1 ∧ (∀ t : Nat, t < 3 ∨ t = 5 → getE e1 (tt t) = getE e (tt t)) := ⟨_, fun _ _ _ => Iff.rfl⟩
  refine Run.loop J (fun k e1 h1 hk => ?_) p.globals.list.length ((hJ _ _ _).2 ⟨0, B, ex, gl, l, G, by omega, by omega, g6, i0, Fm.refl _ _, fun _ _ => rfl⟩)
  obtain ⟨i, B, ex, gl, l, G, rfl, hi, g6, i1, f1, ge⟩ := (hJ _ _ _).1 hk
  rw [b_ref19_New_L0]
  have hpb1 := f1.get pb (by omega) (by omega)
  have f1n := f1.next
  rw [hpb] at hpb1
  simp only [PProg.enc] at hpb1
  by_cases hil : i < p.globals.list.length
  · obtain ⟨x, hx, hd⟩ := drop_at hil
    obtain ⟨q, a1⟩ := addr_val PGlobal.enc 3 (fun _ => rfl) p.globals i x hx
    obtain ⟨okx, hcode⟩ := glob_obj hg hc hx
    obtain ⟨co, fl, bt⟩ := x
    simp only [PGlobal.enc] at a1
    have hi' : (i : Int) < len p.globals := by simp only [len]; omega
    have hi2 : i < 1000 := by simp only [len] at hgl; omega
    have hw : IntKind.i64.wrap ((i : Int) + 1) = ((i + 1 : Nat) : Int) := by rw [wrap_small (by omega) (by omega)]; omega
    have kA : Kept h1 ((h1.new (Blk.ofL [I 0, .bool false, .int .u64 0])).put h1.next (Blk.ofL [I co, .bool fl, .int .u64 bt])) := ((Kept.refl h1).new _).put _ (Nat.le_refl _)
    have og : ((h1.new (Blk.ofL [I 0, .bool false, .int .u64 0])).put h1.next (Blk.ofL [I co, .bool fl, .int .u64 bt])).get h1.next = some (Blk.ofL [I co, .bool fl, .int .u64 bt]) := by simp
    have hpbA : ((h1.new (Blk.ofL [I 0, .bool false, .int .u64 0])).put h1.next (Blk.ofL [I co, .bool fl, .int .u64 bt])).get pb = _ := (kA.get pb (by have := f1.next; omega)).trans hpb1
    have hpbN : (h1.new (Blk.ofL [I 0, .bool false, .int .u64 0])).get pb = _ := (((Kept.refl h1).new _).get pb (by have := f1.next; omega)).trans hpb1
    have iA := i1.kept kA
    have hnA : h1.next.val ≤ ((h1.new (Blk.ofL [I 0, .bool false, .int .u64 0])).put h1.next (Blk.ofL [I co, .bool fl, .int .u64 bt])).next.val := kA.next
    have gVA := iA.r.gV
    simp only [refB] at gVA
    have fA : Fm (fun q => lo ≤ q.val) h ((h1.new (Blk.ofL [I 0, .bool false, .int .u64 0])).put h1.next (Blk.ofL [I co, .bool fl, .int .u64 bt])) := f1.trans (kA.fm _)
    by_cases h0 : 0 ≤ co
    · obtain ⟨j, y, hj, hy, hf, ho⟩ := hcode h0
      simp only at hj
      subst hj
      simp [g6, ge, g2, g5, hpb1, hi', lenSl_val, a1, og, hpbN]
      generalize (h1.new (Blk.ofL [I 0, .bool false, .int .u64 0])).put h1.next (Blk.ofL [I j, .bool fl, .int .u64 bt]) = hA at *
      obtain ⟨v3, h3, c3, rfl, B', c, hB', r3, o3, f3⟩ := rclosure_w (h := hA) iA.r (by omega) hy hf (Q := fun v h' => v = I ((i : Int) + 1) ∧ ∃ B' c, hA.next.val ≤ B'.val ∧ RefAt h' V B' false p gl (i + 1 + 1) (l ++ c) ∧ RObj (fun q => q.val < hA.next.val ∨ q.val = B'.val) h' (objCode j y) 0 c ∧ Fm (fun q => q.val = V.val ∨ q.val = B.val) hA h') (fun h' B' c a1 a2 a3 a4 => ⟨rfl, B', c, a1, a2, a3, a4⟩)
      have g3 : GR lo h3 V B' gl i G := by
        refine ⟨iA.g.lo, Nat.lt_of_lt_of_le iA.g.lt f3.next, by have := iA.g.lt; omega, ?_⟩
        rcases iA.g.or with h1 | ⟨h1, h2, h3, h4⟩
        · exact .inl h1
        · exact .inr ⟨h1, h2, h3, by rw [f3.get _ iA.g.lt (by have := iA.g.nB; omega)]; exact h4⟩
      obtain ⟨gl', g4, G', hap, gV4, hsc, r5, g5', hG', f5⟩ := gl_app r3 g3 i1.vl (by omega) (x := (i : Int) + 1) rfl
      have gV3 := r3.gV
      have gV3n := (r3.kept ((Kept.refl h3).new (Blk.ofL [I ((i : Int) + 1)]))).gV
      have hoc : RObj (fun q => q.val < hA.next.val ∨ q.val = B'.val) h3 (objOf p ⟨j, fl, bt⟩) bt c := by
        rw [ho]
        obtain ⟨row, w, e, h1 | h1 | h1⟩ := o3
        · exact ⟨row, w, e, .inl h1⟩
        · exact ⟨row, w, e, .inr (.inl h1)⟩
        · by_cases hy0 : y.args = 0 <;> simp [objCode, hy0] at h1
      have iB := iA.step hx (by omega) hB' f3 f5 hG' r5 g5' hoc
      have f15 : Fm (fun q => lo ≤ q.val) h (g4.put V (refB p (.slice B' 0 (i + 1 + 1) false (i + 1 + 1) 4) gl')) := (fA.trans (f3.mono fun q _ hq => by have := i1.vl; have := i1.bl; omega)).trans (f5.mono fun q _ hq => by have := i1.vl; have := i1.g.lo; omega)
      simp only [refB] at gV3 gV3n gV4 iB f15
      refine w_dreg (by simp only [tr_cons, tr_nil]; simp [op_p, op_r, op_c, op_f, op_fN, repl, ge, g5, gVA, og, c3, gV3, gV3n, hap, gV4, hsc]; rfl) (by simp [do_nil, do_skip, do_read, ge, g5, gVA, gV3, gV3n, gV4, same_iff]) rfl ?_
      simp [g6, hw]
      refine ⟨p.globals.list.length - (i + 1), by omega, (hJ _ _ _).2 ⟨i + 1, _, _, _, _, _, rfl, by omega, by simp, iB, f15, fun t ht => ?_⟩⟩
      simp
      repeat rw [if_neg (by omega)]
      exact ge t ht
    · have ho : objOf p ⟨co, fl, bt⟩ = objNum fl bt := by simp only [objOf, if_neg h0]
      simp [g6, ge, g2, g5, hpb1, hi', lenSl_val, a1, og, h0, hpbN]
      generalize (h1.new (Blk.ofL [I 0, .bool false, .int .u64 0])).put h1.next (Blk.ofL [I co, .bool fl, .int .u64 bt]) = hA at *
      obtain ⟨v3, h3, c3, rfl, B', c, hB', r3, o3, f3⟩ := rnumber_w (h := hA) (fl := fl) (bits := bt) iA.r (by omega) (Q := fun v h' => v = I ((i : Int) + 1) ∧ ∃ B' c, hA.next.val ≤ B'.val ∧ RefAt h' V B' false p gl (i + 1 + 1) (l ++ c) ∧ RObj (fun q => q.val < hA.next.val ∨ q.val = B'.val) h' (objNum fl bt) bt c ∧ Fm (fun q => q.val = V.val ∨ q.val = B.val) hA h') (fun h' B' c a1 a2 a3 a4 => ⟨rfl, B', c, a1, a2, a3, a4⟩)
      have g3 : GR lo h3 V B' gl i G := by
        refine ⟨iA.g.lo, Nat.lt_of_lt_of_le iA.g.lt f3.next, by have := iA.g.lt; omega, ?_⟩
        rcases iA.g.or with h1 | ⟨h1, h2, h3, h4⟩
        · exact .inl h1
        · exact .inr ⟨h1, h2, h3, by rw [f3.get _ iA.g.lt (by have := iA.g.nB; omega)]; exact h4⟩
      obtain ⟨gl', g4, G', hap, gV4, hsc, r5, g5', hG', f5⟩ := gl_app r3 g3 i1.vl (by omega) (x := (i : Int) + 1) rfl
      have gV3 := r3.gV
      have gV3n := (r3.kept ((Kept.refl h3).new (Blk.ofL [I ((i : Int) + 1)]))).gV
      have iB := iA.step hx (by omega) hB' f3 f5 hG' r5 g5' (by rw [ho]; exact o3)
      have f15 : Fm (fun q => lo ≤ q.val) h (g4.put V (refB p (.slice B' 0 (i + 1 + 1) false (i + 1 + 1) 4) gl')) := (fA.trans (f3.mono fun q _ hq => by have := i1.vl; have := i1.bl; omega)).trans (f5.mono fun q _ hq => by have := i1.vl; have := i1.g.lo; omega)
      simp only [refB] at gV3 gV3n gV4 iB f15
      refine w_dreg (by simp only [tr_cons, tr_nil]; simp [op_p, op_r, op_c, op_f, op_fN, repl, ge, g5, gVA, og, c3, gV3, gV3n, hap, gV4, hsc]; rfl) (by simp [do_nil, do_skip, do_read, ge, g5, gVA, gV3, gV3n, gV4, same_iff]) rfl ?_
      simp [g6, hw]
      refine ⟨p.globals.list.length - (i + 1), by omega, (hJ _ _ _).2 ⟨i + 1, _, _, _, _, _, rfl, by omega, by simp, iB, f15, fun t ht => ?_⟩⟩
      simp
      repeat rw [if_neg (by omega)]
      exact ge t ht
  · have hi' : ¬ (i : Int) < len p.globals := by simp only [len]; omega
    have hil' : i = p.globals.list.length := by omega
    subst hil'
    simp [g6, ge, g2, hpb1, lenSl_val, hi']
    refine hq _ _ _ _ _ _ _ i1 f1 (by simp [ge, g5]) ?_
    simp [ge]
end
end Go.Tw
end

section
open Go Go.Av Go.Ck
namespace Go.Tw
set_option linter.unusedSimpArgs false
set_option linter.unusedVariables false
section
variable {h : Heap} {p : PProg}
theorem rNew_w (hg : ∀ g ∈ p.globals.list, globalOk p g = true) (hc : len p.codes ≤ 200) (hgl : len p.globals ≤ 200) {Q : AVal → Heap → Prop}
    (hq : ∀ h' V B ex gl l G, RInv h.next.val h' V p p.globals.list.length B ex gl l G → Kept h h' → Q (.ptr V 0) h') : Cal X n_ref19_New [.agg p.enc, I 0] h Q := by
  refine Cal.go (u_ref19_New _ _ rfl) ?_
  rw [b_ref19_New]
  have hpe : p.enc = [p.cons.val PCon.enc, p.codes.val PCode.enc, p.nodes.val PNode.enc, p.globals.val PGlobal.enc, I p.main] := rfl
  simp [hpe]
  rw [← hpe]
  have k1 : Kept h (h.new (Blk.ofL p.enc)) := (Kept.refl h).new _
  have gb : (h.new (Blk.ofL p.enc)).get h.next = some (Blk.ofL p.enc) := by simp
  have n1 : (h.new (Blk.ofL p.enc)).next.val = h.next.val + 1 := by simp [pv]
  generalize h.new (Blk.ofL p.enc) = g1 at *
  have gb2 : (g1.new (mkRow [I 0, I 0, .nils, .int .u64 0] 1)).get h.next = some (Blk.ofL p.enc) := by rw [S.get_new_ne _ _ _ (by omega)]; exact gb
  have gb' := gb
  have gb2' := gb2
  rw [hpe] at gb' gb2'
  refine w_dreg (by simp only [tr_cons, tr_nil]; simp [op_p, op_r, op_f, op_fN, repl, gb', gb2']; rfl) (by simp [do_nil, do_skip, do_read, gb', gb2', same_iff]) rfl ?_
  simp
  obtain ⟨V, hV⟩ : ∃ V, (g1.new (mkRow [I 0, I 0, .nils, .int .u64 0] 1)).next = V := ⟨_, rfl⟩
  have hVv : V.val = g1.next.val + 1 := by rw [← hV]; simp [pv]
  have hV2 : g1.next.succ = V := by rw [← hV]; simp
  simp only [hV2]
  obtain ⟨g2, h2⟩ : ∃ g2, (g1.new (mkRow [I 0, I 0, .nils, .int .u64 0] 1)).new (Blk.ofL [p.cons.val PCon.enc, p.codes.val PCode.enc, p.nodes.val PNode.enc, p.globals.val PGlobal.enc, I p.main, .slice g1.next 0 1 true 1 4, .nils, .nils, .nils, .nils, .nils]) = g2 := ⟨_, rfl⟩
  simp only [h2]
  have n2 : g2.next.val = g1.next.val + 2 := by rw [← h2]; simp [pv]
  have k2 : Kept g1 g2 := by rw [← h2]; exact ((Kept.refl _).new _).new _
  have gV2 : g2.get V = some (refB p (.slice g1.next 0 1 true 1 4) .nils) := by rw [← h2, ← hV]; exact S.get_new_self _ _
  have gB2 : g2.get g1.next = some (Blk.ofL [I 0, I 0, .nils, .int .u64 0]) := by
    rw [← h2, S.get_new_ne _ _ _ (by simp [pv]), S.get_new_self]; rfl
  have gp2 : g2.get h.next = some (Blk.ofL p.enc) := by rw [k2.get _ (by omega)]; exact gb
  have i0 : RInv g1.next.val g2 V p 0 g1.next true .nils [I 0, I 0, .nils, .int .u64 0] V := by
    refine ⟨by omega, by omega, ⟨by omega, by omega, by omega, by omega, by omega, rfl, gV2, gB2⟩, ⟨by omega, by omega, by omega, .inl ⟨rfl, rfl, rfl⟩⟩, fun j g _ hj => absurd hj (by omega)⟩
  refine rloop_w (pb := h.next) hg hc hgl i0 (by omega) gp2 (by omega) (by simp) (by simp) (by simp) fun e' h' B ex gl l G i3 f3 e5 e1 => ?_
  simp at e1
  simp
  refine w_loop ?_
  rw [b_ref19_New_L1]
  simp [e1, e5]
  have kk : Kept h h' := k1.trans (Fm.kept k2 f3 (fun q hq => hq))
  refine hq h' V B ex gl l G ⟨by have := i3.vl; omega, by have := i3.bl; omega, i3.r, ⟨by have := i3.g.lo; omega, i3.g.lt, i3.g.nB, i3.g.or⟩, fun j g hg hj => (i3.o j g hg hj).mono (Nat.le_refl _) fun q hq hn => ⟨by omega, rfl⟩⟩ kk
end
end Go.Tw
end

section
open Go Go.Av Go.Ck
namespace Go.Tw
set_option linter.unusedSimpArgs false
set_option linter.unusedVariables false
/-! maps with numbers for keys -/
theorem veq_i (a b : Int) : valEq false [.num .i64] (I a) (I b) = some (decide (a = b)) := by
  simp only [valEq, cellsEq, scalEq]
  simp
theorem find_no {l : List (AVal × AVal)} {a : Int} (hl : ∀ x ∈ l, ∃ y, x.1 = I y ∧ y ≠ a) : findA false [.num .i64] (I a) l = some none := by
  induction l with
  | nil => rfl
  | cons x l ih =>
    obtain ⟨x1, x2⟩ := x
    obtain ⟨y, e, hy⟩ := hl _ (List.mem_cons_self ..)
    simp only at e
    subst e
    have : decide (a = y) = false := by simp; omega
    simp only [findA, veq_i, this]
    exact ih fun z hz => hl z (List.mem_cons_of_mem _ hz)
theorem put_no {l : List (AVal × AVal)} {a : Int} {v : AVal} (hl : ∀ x ∈ l, ∃ y, x.1 = I y ∧ y ≠ a) : putA false [.num .i64] (I a) v l = some (l ++ [(I a, v)]) := by
  induction l with
  | nil => rfl
  | cons x l ih =>
    obtain ⟨x1, x2⟩ := x
    obtain ⟨y, e, hy⟩ := hl _ (List.mem_cons_self ..)
    simp only at e
    subst e
    have : decide (a = y) = false := by simp; omega
    simp only [putA, veq_i, this, ih fun z hz => hl z (List.mem_cons_of_mem _ hz)]
    rfl
theorem keyI (a : Int) : keyOk false [.num .i64] (I a) = true := by simp [keyOk, veq_i]
section
variable {h : Heap} {Y : HLay} {Z : HS}
theorem one00_w {M : Pos} {Q : AVal → Heap → Prop} (hq : Q (.bool true) h) : Cal X n_law19_match_one [.ptr M 0, I 0, I 0] h Q := by
  refine Cal.go (u_law19_match_one _ _ rfl) ?_
  rw [b_law19_match_one]
  simp
  exact hq
theorem u64_word {bits : Int} (h0 : 0 ≤ bits) (h1 : bits < 18446744073709551616) : IntKind.u64.wrap (IntKind.i64.wrap bits) = bits := by
  have e1 : IntKind.i64.signed = true := rfl
  have e2 : IntKind.u64.signed = false := rfl
  have e3 : (2 : Int) ^ IntKind.i64.bits = 18446744073709551616 := by decide
  have e4 : (2 : Int) ^ (IntKind.i64.bits - 1) = 9223372036854775808 := by decide
  have e5 : (2 : Int) ^ IntKind.u64.bits = 18446744073709551616 := by decide
  simp only [IntKind.wrap, e1, e2, e3, e4, e5, Bool.true_and, Bool.false_and, Bool.false_eq_true, if_false, decide_eq_true_eq]
  split <;> omega
end
end Go.Tw
end

section
open Go Go.Av Go.Ck
namespace Go.Tw
set_option linter.unusedSimpArgs false
set_option linter.unusedVariables false
def HS.tk (Z : HS) (a : AS) : HS := { Z with a := a }
structure Tk (a a' : AS) : Prop where
  ws : a'.ws = a.ws
  n : a'.n = a.n
theorem Tk.refl (a : AS) : Tk a a := ⟨rfl, rfl⟩
theorem Tk.tick {a a' : AS} (t : Tk a a') : Tk a a'.tick := ⟨t.ws, t.n⟩
theorem Tk.trans {a b c : AS} (t : Tk a b) (s : Tk b c) : Tk a c := ⟨s.ws.trans t.ws, s.n.trans t.n⟩
theorem ObjAt.tk {a a' : AS} {at_ kind size aux mark : Int} (o : ObjAt a at_ kind size aux mark) (t : Tk a a') : ObjAt a' at_ kind size aux mark :=
  ⟨o.ok, o.lo, by rw [t.n]; exact o.hi, by rw [t.ws]; exact o.hd⟩
section
variable {h : Heap} {Y : HLay} {Z : HS}
theorem object_w {M V m1 m2 : Pos} {N : Pos → Prop} {o : GObj} {bits at_ : Int} {c : List AVal} (k : HeapAt h Y Z) (oa : ObjAt Z.a at_ o.kind o.size o.aux 0) (hw : o.size = 1 → Z.a.ws (at_ + 3).toNat = o.word)
    (hM : h.get M = some (Blk.ofL [.ptr Y.H 0, .ptr V 0, .map m1, .map m2])) (lM : M.val < h.next.val) (nM : ¬ MA Y.A Y.W M) (ro : RObj N h o bits c) (hN : ∀ q, MA Y.A Y.W q → N q) (hb0 : 0 ≤ bits) (hb1 : bits < 18446744073709551616) (hw2 : o.kind = 2 → o.word = 0) {Q : AVal → Heap → Prop}
    (hq : ∀ h' a', HeapAt h' Y (Z.tk a') → Tk Z.a a' → Fm (MA Y.A Y.W) h h' → Q (.bool true) h') : Cal X n_law19_match_object [.ptr M 0, I at_, .agg c] h Q := by
  refine Cal.go (u_law19_match_object _ _ rfl) ?_
  rw [b_law19_match_object]
  obtain ⟨kind, aux, size, word⟩ := o
  obtain ⟨row, w, rfl, ro⟩ := ro
  simp only at *
  have k1 : Kept h (h.new (Blk.ofL [I kind, I aux, row, .int .u64 w])) := (Kept.refl h).new _
  have n1 : (h.new (Blk.ofL [I kind, I aux, row, .int .u64 w])).next.val = h.next.val + 1 := by simp [pv]
  have gx1 : (h.new (Blk.ofL [I kind, I aux, row, .int .u64 w])).get h.next = some (Blk.ofL [I kind, I aux, row, .int .u64 w]) := by simp
  have hM1 := k1.get _ lM
  rw [hM] at hM1
  have hA := k.ar.la
  have hW := k.ar.lw
  simp [hM1]
  generalize h.new (Blk.ofL [I kind, I aux, row, .int .u64 w]) = g1 at *
  refine hCell_w (k.kept k1) oa fun g2 k2 f2 => ?_
  have hM2 := f2.get _ (by omega) nM
  rw [hM1] at hM2
  have gx2 := f2.get h.next (by omega) (by simp only [MA]; omega)
  rw [gx1] at gx2
  have n2 := f2.next
  simp
  have kc : Kept g2 ((g2.new (Blk.ofL [I 0, I 0, I 0, I 0])).put g2.next (Blk.ofL [I kind, I size, I aux, I 0])) := ((Kept.refl g2).new _).put _ (Nat.le_refl _)
  have gc3 : ((g2.new (Blk.ofL [I 0, I 0, I 0, I 0])).put g2.next (Blk.ofL [I kind, I size, I aux, I 0])).get g2.next = some (Blk.ofL [I kind, I size, I aux, I 0]) := by simp
  have n3 : ((g2.new (Blk.ofL [I 0, I 0, I 0, I 0])).put g2.next (Blk.ofL [I kind, I size, I aux, I 0])).next.val = g2.next.val + 1 := by simp [pv]
  have kd3 : ((g2.new (Blk.ofL [I 0, I 0, I 0, I 0])).put g2.next (Blk.ofL [I kind, I size, I aux, I 0])).get h.next = some (Blk.ofL [I kind, I aux, row, .int .u64 w]) := (kc.get _ (by omega)).trans gx2
  have hM3 : ((g2.new (Blk.ofL [I 0, I 0, I 0, I 0])).put g2.next (Blk.ofL [I kind, I size, I aux, I 0])).get M = some (Blk.ofL [.ptr Y.H 0, .ptr V 0, .map m1, .map m2]) := (kc.get _ (by omega)).trans hM2
  have k3 := k2.kept kc
  have f3 : Fm (MA Y.A Y.W) h ((g2.new (Blk.ofL [I 0, I 0, I 0, I 0])).put g2.next (Blk.ofL [I kind, I size, I aux, I 0])) := (Fm.trans (k1.fm _) f2).trans (kc.fm _)
  generalize (g2.new (Blk.ofL [I 0, I 0, I 0, I 0])).put g2.next (Blk.ofL [I kind, I size, I aux, I 0]) = g3 at *
  simp [gc3, kd3]
  rcases ro with ⟨r1, r2, b, r3, r4, r5, r6⟩ | ⟨r1, r2, b, r3⟩ | ⟨r1, r2, r3, r4, r5, r6⟩
  · subst r1 r2 r3
    have hw0 := hw2 rfl
    subst hw0
    simp [gc3, kd3, lenSlA]
    generalize hL : XCode.loop b_law19_match_object_L0 = L
    have hW : ∀ {e : Env} {h : Heap} {Q : XExit → Env → Heap → Prop}, Run X b_law19_match_object_L0 e h (seqC X L Q) → Run X L e h Q := by
      rw [← hL]; exact w_loop
    refine hW ?_
    rw [b_law19_match_object_L0]
    simp [hM3]
    refine hGet_w k3 (oa.tk (Tk.refl _).tick) (by omega) (by omega) fun g4 k4 f4 => ?_
    have hM4 := f4.get _ (by omega) nM
    rw [hM3] at hM4
    have kd4 := f4.get h.next (by omega) (by simp only [MA]; omega)
    rw [kd3] at kd4
    have f14 := f3.trans f4
    have rb := f14.get _ r4 (fun e => r5 (hN _ e))
    have r6' : rdB (g4.get b) 0 1 = some [I 0] := by rw [rb]; exact r6
    have hwd : Z.a.tick.ws (at_ + 3).toNat = 0 := hw rfl
    simp [hwd, kd4, addrSlA, r6']
    refine one00_w ?_
    simp
    refine hW ?_
    rw [b_law19_match_object_L0]
    have w1 : IntKind.i64.wrap 1 = 1 := by decide
    simp [w1]
    exact hq _ _ k4 (Tk.refl _).tick.tick.tick f14
  · subst r1 r2 r3
    simp [gc3, kd3, lenSlA]
    refine w_loop ?_
    rw [b_law19_match_object_L0]
    simp
    exact hq _ _ k3 (Tk.refl _).tick f3
  · subst r2 r3 r5 r6
    have hwd : Z.a.tick.ws (at_ + 3).toNat = word := hw rfl
    have hwb : IntKind.u64.wrap word = w := by rw [r4]; exact u64_word hb0 hb1
    have fin : ∀ {g4 : Heap}, HeapAt g4 Y { { Z with a := Z.a.tick } with a := Z.a.tick.tick.tick } → Fm (MA Y.A Y.W) g3 g4 → Q (.bool true) g4 := fun k4 f4 => hq _ _ k4 (Tk.refl _).tick.tick.tick (f3.trans f4)
    rcases r1 with rfl | rfl
    · simp [gc3, kd3, hM3]
      refine hGet_w k3 (oa.tk (Tk.refl _).tick) (by omega) (by omega) fun g4 k4 f4 => ?_
      have kd4 := f4.get h.next (by omega) (by simp only [MA]; omega)
      rw [kd3] at kd4
      simp [kd4, hwd, hwb]
      exact fin k4 f4
    · simp [gc3, kd3, hM3]
      refine hGet_w k3 (oa.tk (Tk.refl _).tick) (by omega) (by omega) fun g4 k4 f4 => ?_
      have kd4 := f4.get h.next (by omega) (by simp only [MA]; omega)
      rw [kd3] at kd4
      simp [kd4, hwd, hwb]
      exact fin k4 f4
end
end Go.Tw
end

section
open Go Go.Av Go.Ck
namespace Go.Tw
set_option linter.unusedSimpArgs false
set_option linter.unusedVariables false
def toM (k : Nat) : List (AVal × AVal) := (List.range k).map fun (j : Nat) => (I (1 + 4 * (j : Int)), I ((j : Int) + 1))
def frM (k : Nat) : List (AVal × AVal) := (List.range k).map fun (j : Nat) => (I ((j : Int) + 1), I (1 + 4 * (j : Int)))
theorem toM_succ (k : Nat) : toM (k + 1) = toM k ++ [(I (1 + 4 * (k : Int)), I ((k : Int) + 1))] := by simp [toM, List.range_succ]
theorem frM_succ (k : Nat) : frM (k + 1) = frM k ++ [(I ((k : Int) + 1), I (1 + 4 * (k : Int)))] := by simp [frM, List.range_succ]
theorem toM_no (k : Nat) : ∀ x ∈ toM k, ∃ y, x.1 = I y ∧ y ≠ 1 + 4 * (k : Int) := by
  intro x hx
  obtain ⟨j, hj, rfl⟩ := List.mem_map.1 hx
  have := List.mem_range.1 hj
  exact ⟨_, rfl, by omega⟩
theorem frM_no (k : Nat) : ∀ x ∈ frM k, ∃ y, x.1 = I y ∧ y ≠ (k : Int) + 1 := by
  intro x hx
  obtain ⟨j, hj, rfl⟩ := List.mem_map.1 hx
  have := List.mem_range.1 hj
  exact ⟨_, rfl, by omega⟩
structure AL (lo mid : Nat) (h : Heap) (Y : HLay) (Z : HS) (W : Nat) (r : RS) (p : PProg) (V B : Pos) (ex : Bool) (gl : AVal) (l : List AVal) (M m1 m2 : Pos) (k : Nat) : Prop where
  hp : HeapAt h Y Z
  li : LInv W (p.globals.list.map (objOf p)) p.globals.list.length Z r
  hY : ∀ q, (MH Y q ∨ q.val = Y.C.val ∨ q.val = Y.G.val) → q.val < lo
  gV : h.get V = some (refB p (.slice B 0 (p.globals.list.length + 1) ex (p.globals.list.length + 1) 4) gl)
  gB : h.get B = some (Blk.ofL l)
  ln : l.length = 4 * (p.globals.list.length + 1)
  lV : lo ≤ V.val ∧ V.val < mid
  lB : lo ≤ B.val ∧ B.val < mid
  ro : ∀ (j : Nat) g, p.globals.list[j]? = some g → RObj (fun q => q.val < lo ∨ mid ≤ q.val) h (objOf p g) g.bits ((l.drop (4 * (j + 1))).take 4)
  lm : mid ≤ M.val ∧ M.val < h.next.val ∧ mid ≤ m1.val ∧ m1.val < h.next.val ∧ mid ≤ m2.val ∧ m2.val < h.next.val
  ne : M.val ≠ m1.val ∧ M.val ≠ m2.val ∧ m1.val ≠ m2.val
  gM : h.get M = some (Blk.ofL [.ptr Y.H 0, .ptr V 0, .map m1, .map m2])
  g1 : h.get m1 = some (.map (toM k))
  g2 : h.get m2 = some (.map (frM k))
section
variable {lo mid : Nat} {h h' : Heap} {Y : HLay} {Z : HS} {W : Nat} {r : RS} {p : PProg} {V B : Pos} {ex : Bool} {gl : AVal} {l : List AVal} {M m1 m2 : Pos} {k : Nat}
theorem LInv.tk {os : List GObj} {n : Nat} (i : LInv W os n Z r) {a' : AS} (t : Tk Z.a a') : LInv W os n (Z.tk a') r :=
  ⟨i.cls, i.edge, i.top, by show a'.n = _; rw [t.n]; exact i.n, i.par, i.rings, i.r0, by show 0 < n → r.first = 1 ∧ a'.ws 3 = _; rw [t.ws]; exact i.first, i.kl, i.room, fun j o h1 h2 => ⟨(i.objs j o h1 h2).1.tk t, by show o.size = 1 → a'.ws _ = _; rw [t.ws]; exact (i.objs j o h1 h2).2⟩⟩
theorem AL.tk (a : AL lo mid h Y Z W r p V B ex gl l M m1 m2 k) (hlm : lo ≤ mid) (hmid : mid ≤ h.next.val) {a' : AS} (hp : HeapAt h' Y (Z.tk a')) (t : Tk Z.a a') (f : Fm (MA Y.A Y.W) h h') : AL lo mid h' Y (Z.tk a') W r p V B ex gl l M m1 m2 k := by
  have hA : Y.A.val < lo := a.hY _ (.inl (.inl rfl))
  have hW : Y.W.val < lo := a.hY _ (.inl (.inr (.inl rfl)))
  have nM : ∀ q : Pos, lo ≤ q.val → ¬ MA Y.A Y.W q := fun q hq => by simp only [MA]; omega
  obtain ⟨l1, l2, l3, l4, l5, l6⟩ := a.lm
  have n1 := f.next
  refine ⟨hp, a.li.tk t, a.hY, ?_, ?_, a.ln, a.lV, a.lB, fun j g hg => (a.ro j g hg).mono n1 fun q hq hn => ⟨hn, f.get _ hq (nM _ (by omega))⟩, by omega, a.ne, ?_, ?_, ?_⟩
  · rw [f.get _ (by have := a.lV; omega) (nM _ a.lV.1)]; exact a.gV
  · rw [f.get _ (by have := a.lB; omega) (nM _ a.lB.1)]; exact a.gB
  · rw [f.get _ (by omega) (nM _ (by omega))]; exact a.gM
  · rw [f.get _ (by omega) (nM _ (by omega))]; exact a.g1
  · rw [f.get _ (by omega) (nM _ (by omega))]; exact a.g2
/-- one more pair -/
theorem AL.put (a : AL lo mid h Y Z W r p V B ex gl l M m1 m2 k) (hlm : lo ≤ mid) : AL lo mid ((h.put m1 (.map (toM (k + 1)))).put m2 (.map (frM (k + 1)))) Y Z W r p V B ex gl l M m1 m2 (k + 1) := by
  obtain ⟨l1, l2, l3, l4, l5, l6⟩ := a.lm
  obtain ⟨e1, e2, e3⟩ := a.ne
  have f : Fm (fun q => q.val = m1.val ∨ q.val = m2.val) h ((h.put m1 (.map (toM (k + 1)))).put m2 (.map (frM (k + 1)))) := ((Fm.refl _ h).put _ (.inr (.inl rfl))).put _ (.inr (.inr rfl))
  have lV := a.lV
  have lB := a.lB
  have hy : ∀ q, (MH Y q ∨ q.val = Y.C.val ∨ q.val = Y.G.val) → ¬ (q.val = m1.val ∨ q.val = m2.val) := fun q hq => by have := a.hY q hq; omega
  refine ⟨a.hp.fm f (fun q hq => hy q (.inl hq)) (hy _ (.inr (.inl rfl))) (hy _ (.inr (.inr rfl))), a.li, a.hY, ?_, ?_, a.ln, a.lV, a.lB, fun j g hg => (a.ro j g hg).mono (Nat.le_refl _) fun q hq hn => ⟨hn, f.get _ hq (by omega)⟩, ⟨l1, l2, l3, l4, l5, l6⟩, ⟨e1, e2, e3⟩, ?_, ?_, by simp⟩
  · rw [f.get _ (by omega) (by omega)]; exact a.gV
  · rw [f.get _ (by omega) (by omega)]; exact a.gB
  · rw [f.get _ (by omega) (by omega)]; exact a.gM
  · rw [S.get_put_ne _ _ _ _ (by omega)]; simp
theorem one_w (a : AL lo mid h Y Z W r p V B ex gl l M m1 m2 k) (hlm : lo ≤ mid) (hmid : mid ≤ h.next.val) {g : PGlobal} (hk : p.globals.list[k]? = some g) (hgl : p.globals.list.length ≤ 200) (hb0 : 0 ≤ g.bits) (hb1 : g.bits < 18446744073709551616) (hw2 : (objOf p g).kind = 2 → (objOf p g).word = 0) {Q : AVal → Heap → Prop}
    (hq : ∀ h' Z', AL lo mid h' Y Z' W r p V B ex gl l M m1 m2 (k + 1) → Fm (fun q => MA Y.A Y.W q ∨ q.val = m1.val ∨ q.val = m2.val) h h' → Q (.bool true) h') : Cal X n_law19_match_one [.ptr M 0, I (1 + 4 * k), I (k + 1)] h Q := by
  refine Cal.go (u_law19_match_one _ _ rfl) ?_
  rw [b_law19_match_one]
  obtain ⟨l1, l2, l3, l4, l5, l6⟩ := a.lm
  obtain ⟨e1, e2, e3⟩ := a.ne
  have z1 : ¬ (1 + 4 * (k : Int)) = 0 := by omega
  have z2 : ¬ ((k : Int) + 1) = 0 := by omega
  have gM := a.gM
  have g1 := a.g1
  have g2 := a.g2
  have fi1 := find_no (toM_no k)
  have fi2 := find_no (frM_no k)
  have pu1 := put_no (v := I ((k : Int) + 1)) (toM_no k)
  have pu2 := put_no (v := I (1 + 4 * (k : Int))) (frM_no k)
  rw [← toM_succ] at pu1
  rw [← frM_succ] at pu2
  have b := a.put hlm
  have gM1 : (h.put m1 (.map (toM (k + 1)))).get M = some (Blk.ofL [.ptr Y.H 0, .ptr V 0, .map m1, .map m2]) := by rw [S.get_put_ne _ _ _ _ (by omega)]; exact gM
  have g21 : (h.put m1 (.map (toM (k + 1)))).get m2 = some (.map (frM k)) := by rw [S.get_put_ne _ _ _ _ (by omega)]; exact g2
  have gM2 := b.gM
  have gV2 := b.gV
  have gB2 := b.gB
  simp only [refB] at gV2
  have hkl := (List.getElem?_eq_some_iff.1 hk).1
  have hrd : rdB (some (Blk.ofL l)) (4 * (k + 1)) 4 = some ((l.drop (4 * (k + 1))).take 4) := rdB_ofL' (by have := a.ln; omega)
  have had : addrSlA 4 (.slice B 0 (p.globals.list.length + 1) ex (p.globals.list.length + 1) 4) (some (k + 1)) = some (.ptr B (4 * (k + 1))) := by
    have : k + 1 < p.globals.list.length + 1 := by omega
    simp [addrSlA, this, Nat.mul_comm]
  have hasn : asNat (I ((k : Int) + 1)) = some (k + 1) := rfl
  have ro := b.ro k g hk
  obtain ⟨row, w, hcs, ro'⟩ := ro
  simp only [hcs] at hrd
  obtain ⟨oa, hwd⟩ := b.li.objs k (objOf p g) (by rw [List.getElem?_map, hk]; rfl) hkl
  have hA : Y.A.val < lo := a.hY _ (.inl (.inl rfl))
  have hW : Y.W.val < lo := a.hY _ (.inl (.inr (.inl rfl)))
  have hwd' : (objOf p g).size = 1 → Z.a.ws ((1 + 4 * (k : Int)) + 3).toNat = (objOf p g).word := by
    intro h1; rw [← hwd h1]; congr 1
  simp [z1, z2, gM, g1, g2, keyI, fi1, fi2, pu1, gM1, g21, pu2, gM2, gV2, hasn, had, gB2, hrd]
  refine object_w (N := fun q => q.val < lo ∨ mid ≤ q.val) b.hp oa hwd' gM2 (by simp; omega) (by simp only [MA]; omega) ⟨row, w, rfl, ro'⟩ (fun q hq => .inl (by simp only [MA] at hq; omega)) hb0 hb1 hw2 fun h' a' hp' t' f' => ?_
  simp
  refine hq h' (Z.tk a') (b.tk hlm (by simp; exact hmid) hp' t' f') ?_
  exact ((((Fm.refl _ h).put _ (.inr (.inr (.inl rfl)))).put _ (.inr (.inr (.inr rfl)))).trans (f'.mono fun q _ hq => .inl hq))
end
end Go.Tw
end

section
open Go Go.Av Go.Ck
namespace Go.Tw
set_option linter.unusedSimpArgs false
set_option linter.unusedVariables false
def aL (n : Nat) : List Int := (List.range n).map fun (j : Nat) => 1 + 4 * (j : Int)
def bL (n : Nat) : List Int := (List.range n).map fun (j : Nat) => (j : Int) + 1
theorem aL_get {n i : Nat} (h : i < n) : (aL n)[i]? = some (1 + 4 * (i : Int)) := by simp [aL, h]
theorem bL_get {n i : Nat} (h : i < n) : (bL n)[i]? = some ((i : Int) + 1) := by simp [bL, h]
theorem aL_len (n : Nat) : (aL n).length = n := by simp [aL]
theorem bL_len (n : Nat) : (bL n).length = n := by simp [bL]
theorem obj_word {p : PProg} {g : PGlobal} (hok : 0 ≤ g.code → ∃ (j : Nat) (y : PCode), g.code = j ∧ p.codes.list[j]? = some y ∧ y.free = 0 ∧ objOf p g = objCode j y) : (objOf p g).kind = 2 → (objOf p g).word = 0 := by
  intro hk
  by_cases h0 : 0 ≤ g.code
  · obtain ⟨j, y, _, _, _, ho⟩ := hok h0
    rw [ho]; rfl
  · have ho : objOf p g = objNum g.float g.bits := by simp only [objOf, if_neg h0]
    rw [ho] at hk
    cases hf : g.float <;> simp [objNum, hf] at hk
section
variable {lo : Nat} {h : Heap} {Y : HLay} {Z : HS} {W : Nat} {r : RS} {p : PProg} {V B : Pos} {ex : Bool} {gl : AVal} {l : List AVal} {a b : AVal}
theorem alike_loop {mid : Nat} {M m1 m2 : Pos} (hgo : ∀ g ∈ p.globals.list, globalOk p g = true) (hc : len p.codes ≤ 200) (hb : ∀ g ∈ p.globals.list, 0 ≤ g.bits ∧ g.bits < 18446744073709551616) (hgl : p.globals.list.length ≤ 200) (hlm : lo ≤ mid) (hmid : mid ≤ h.next.val)
    (al : AL lo mid h Y Z W r p V B ex gl l M m1 m2 0)
    (ra : RowAt (fun q => MA Y.A Y.W q ∨ q.val = m1.val ∨ q.val = m2.val) h a (aL p.globals.list.length)) (rb : RowAt (fun q => MA Y.A Y.W q ∨ q.val = m1.val ∨ q.val = m2.val) h b (bL p.globals.list.length))
    {e : Env} {Q : XExit → Env → Heap → Prop} (e1 : getE e (tt 1) = a) (e3 : getE e (tt 3) = b) (e9 : getE e (tt 9) = .ptr M 0) (e10 : getE e (tt 10) = I 0)
    (hq : ∀ e' h' Z', AL lo mid h' Y Z' W r p V B ex gl l M m1 m2 p.globals.list.length → Fm (fun q => MA Y.A Y.W q ∨ q.val = m1.val ∨ q.val = m2.val) h h' → Q (.exit 0) e' h') : Run X (.loop b_law19_Alike_L0) e h Q := by
  obtain ⟨J, hJ⟩ : ∃ J : Nat → Env → Heap → Prop, ∀ k e1 h1, J k e1 h1 ↔ ∃ (i : Nat) (Z' : HS), k = p.globals.list.length - i ∧ i ≤ p.globals.list.length ∧ getE e1 (tt 10) = I i ∧ AL lo mid h1 Y Z' W r p V B ex gl l M m1 m2 i ∧ Fm (fun q => MA Y.A Y.W q ∨ q.val = m1.val ∨ q.val = m2.val) h h1 ∧ (∀ t : Nat, t = 1 ∨ t = 3 ∨ t = 9 → getE e1 (tt t) = getE e (tt t)) := ⟨_, fun _ _ _ => Iff.rfl⟩
  refine Run.loop J (fun k e1' h1 hk => ?_) p.globals.list.length ((hJ _ _ _).2 ⟨0, Z, by omega, by omega, e10, al, Fm.refl _ _, fun _ _ => rfl⟩)
  obtain ⟨i, Z', rfl, hi, g10, al1, f1, ge⟩ := (hJ _ _ _).1 hk
  rw [b_law19_Alike_L0]
  have ra1 := ra.fm f1
  have rb1 := rb.fm f1
  have la := ra1.len
  rw [aL_len] at la
  by_cases hil : i < p.globals.list.length
  · obtain ⟨x, hx, hd⟩ := drop_at hil
    obtain ⟨ba, oa, aa, _, _, ca⟩ := ra1.at_ i _ (aL_get hil)
    obtain ⟨bb, ob, ab, _, _, cb⟩ := rb1.at_ i _ (bL_get hil)
    obtain ⟨okx, hcode⟩ := glob_obj hgo hc hx
    have hxb := hb x (List.mem_of_getElem? hx)
    have hi' : (i : Int) < (p.globals.list.length : Int) := by omega
    have hw : IntKind.i64.wrap ((i : Int) + 1) = ((i + 1 : Nat) : Int) := by rw [wrap_small (by omega) (by omega)]; omega
    simp [g10, ge, e1, e3, e9, la, hi', aa, ab, ca, cb]
    refine one_w al1 hlm (by have := f1.next; omega) hx hgl hxb.1 hxb.2 (obj_word hcode) fun h2 Z2 al2 f2 => ?_
    simp [g10, hw]
    refine ⟨p.globals.list.length - (i + 1), by omega, (hJ _ _ _).2 ⟨i + 1, Z2, rfl, by omega, by simp, al2, f1.trans f2, fun t ht => ?_⟩⟩
    simp
    repeat rw [if_neg (by omega)]
    exact ge t ht
  · have hil' : i = p.globals.list.length := by omega
    subst hil'
    simp [g10, ge, e1, la]
    exact hq _ _ _ al1 f1
theorem alike_w (hgo : ∀ g ∈ p.globals.list, globalOk p g = true) (hc : len p.codes ≤ 200) (hb : ∀ g ∈ p.globals.list, 0 ≤ g.bits ∧ g.bits < 18446744073709551616) (hgl : p.globals.list.length ≤ 200)
    (hp : HeapAt h Y Z) (li : LInv W (p.globals.list.map (objOf p)) p.globals.list.length Z r) (hY : ∀ q, (MH Y q ∨ q.val = Y.C.val ∨ q.val = Y.G.val) → q.val < lo) (hlo : lo ≤ h.next.val)
    (gV : h.get V = some (refB p (.slice B 0 (p.globals.list.length + 1) ex (p.globals.list.length + 1) 4) gl)) (gB : h.get B = some (Blk.ofL l)) (ln : l.length = 4 * (p.globals.list.length + 1)) (lV : lo ≤ V.val ∧ V.val < h.next.val) (lB : lo ≤ B.val ∧ B.val < h.next.val)
    (ro : ∀ (j : Nat) g, p.globals.list[j]? = some g → RObj (fun q => q.val < lo) h (objOf p g) g.bits ((l.drop (4 * (j + 1))).take 4))
    (ra : RowAt (MA Y.A Y.W) h a (aL p.globals.list.length)) (rb : RowAt (MA Y.A Y.W) h b (bL p.globals.list.length)) {Q : AVal → Heap → Prop} (hq : ∀ h', Q (.bool true) h') : Cal X n_law19_Alike [.ptr Y.H 0, a, .ptr V 0, b] h Q := by
  refine Cal.go (u_law19_Alike _ _ rfl) ?_
  rw [b_law19_Alike]
  have la := ra.len
  have lb := rb.len
  rw [aL_len] at la
  rw [bL_len] at lb
  simp [la, lb]
  obtain ⟨M, hM⟩ : ∃ M, h.next.succ.succ = M := ⟨_, rfl⟩
  obtain ⟨m2, hm2⟩ : ∃ m, h.next.succ = m := ⟨_, rfl⟩
  have v2 : m2.val = h.next.val + 1 := by rw [← hm2]; simp [pv]
  have vM : M.val = h.next.val + 2 := by rw [← hM]; simp [pv]
  rw [hm2] at hM ⊢
  rw [hM]
  obtain ⟨g3, h3⟩ : ∃ g3, ((h.new (.map [])).new (.map [])).new (Blk.ofL [.ptr Y.H 0, .ptr V 0, .map h.next, .map m2]) = g3 := ⟨_, rfl⟩
  simp only [h3]
  have k3 : Kept h g3 := by rw [← h3]; exact (((Kept.refl h).new _).new _).new _
  have n3 : g3.next.val = h.next.val + 3 := by rw [← h3]; simp [pv]
  have gM3 : g3.get M = some (Blk.ofL [.ptr Y.H 0, .ptr V 0, .map h.next, .map m2]) := by
    rw [← h3, show M = ((h.new (.map [])).new (.map [])).next by rw [← hM, ← hm2]; simp]; exact S.get_new_self _ _
  have g23 : g3.get m2 = some (.map []) := by
    rw [← h3, S.get_new_ne _ _ _ (by simp [pv]; omega), show m2 = (h.new (.map [])).next by rw [← hm2]; simp]; exact S.get_new_self _ _
  have g13 : g3.get h.next = some (.map []) := by
    rw [← h3, S.get_new_ne _ _ _ (by simp [pv]; omega), S.get_new_ne _ _ _ (by simp [pv])]; exact S.get_new_self _ _
  have al : AL lo h.next.val g3 Y Z W r p V B ex gl l M h.next m2 0 := by
    refine ⟨hp.kept k3, li, hY, by rw [k3.get _ lV.2]; exact gV, by rw [k3.get _ lB.2]; exact gB, ln, lV, lB, fun j g hg => (ro j g hg).mono k3.next fun q hq hn => ⟨by omega, k3.get q hq⟩, by omega, by omega, gM3, g13, g23⟩
  have row : ∀ {v : AVal} {x : List Int}, RowAt (MA Y.A Y.W) h v x → RowAt (fun q => MA Y.A Y.W q ∨ q.val = h.next.val ∨ q.val = m2.val) g3 v x := fun rv => by
    refine ⟨rv.len, fun i x hx => ?_⟩
    obtain ⟨b, o, h1, h2, h3, h4⟩ := rv.at_ i x hx
    exact ⟨b, o, h1, by omega, by omega, by rw [k3.get b h2]; exact h4⟩
  refine alike_loop hgo hc hb hgl hlo (by omega) al (row ra) (row rb) (by simp) (by simp) (by simp) (by simp) fun e' h' Z' al' f' => ?_
  simp
  exact hq h'
end
end Go.Tw
end

section
open Go Go.Av Go.Ck
namespace Go.Tw
set_option linter.unusedSimpArgs false
set_option linter.unusedVariables false
section
variable {h : Heap} {Y : HLay} {Z : HS} {V : Pos} {p : PProg} {gl c : AVal} {words weaks : Int} {M : Pos → Prop}
theorem row_ofL {b : Pos} {ex : Bool} {c : Nat} {l : List Int} (hb : h.get b = some (Blk.ofL (l.map fun x => I x))) (lb : b.val < h.next.val) (nm : ¬ M b) : RowAt M h (.slice b 0 l.length ex c 1) l := by
  refine ⟨by simp [lenSlA], fun i x hx => ⟨b, i, ?_, lb, nm, ?_⟩⟩
  · have := (List.getElem?_eq_some_iff.1 hx).1
    simp [addrSlA, this]
  · obtain ⟨hi, hx⟩ := List.getElem?_eq_some_iff.1 hx
    rw [hb, rdB_ofL' (by rw [List.length_map]; omega)]
    rw [List.drop_eq_getElem_cons (by rw [List.length_map]; omega)]
    simp [hx]
theorem gaddr_aL (k : Nat) : gaddr k = (aL k).map fun x => I x := by simp [gaddr, aL]
theorem rid_bL (k : Nat) : rid k = (bL k).map fun x => I x := by simp [rid, bL]
theorem Words_w (w : WorldAt h V Y Z p gl c words weaks) {Q : AVal → Heap → Prop} (hq : Q (I words) h) : Cal X n_machine_World_Words [.ptr V 0] h Q := by
  refine Cal.go (u_machine_World_Words _ _ rfl) ?_
  rw [b_machine_World_Words]
  have gV := w.gV
  simp [gV, wB]
  exact hq
theorem Globals_w {lo k : Nat} (w : WorldAt h V Y Z p gl c words weaks) (g : GlAt M lo h gl k) (hk : k ≤ 1000) {Q : AVal → Heap → Prop} (hq : ∀ h' v, Kept h h' → lenSlA v = some (I k) → RowAt (fun q => q.val < h.next.val) h' v (aL k) → Q v h') : Cal X n_machine_World_Globals [.ptr V 0] h Q := by
  refine Cal.go (u_machine_World_Globals _ _ rfl) ?_
  rw [b_machine_World_Globals]
  have gV1 := (w.kept ((Kept.refl h).new (Blk.ofL []))).gV
  simp only [wB] at gV1
  have fb : (h.new (Blk.ofL [])).get h.next = some (Blk.ofL []) := by simp
  rcases g with ⟨rfl, rfl⟩ | ⟨h0, b, rfl, h1, h2, h3, h4⟩
  · have ha := append_empty fb
    simp [repl, gV1, ha]
    refine hq _ _ (((Kept.refl h).new _).put _ (Nat.le_refl _)) (by simp [lenSlA]) ⟨by simp [lenSlA, aL_len], fun i x hx => ?_⟩
    simp [aL] at hx
  · have hl := gaddr_len k
    have h4' : (h.new (Blk.ofL [])).get b = some (Blk.ofL (gaddr k)) := by rw [S.get_new_ne _ _ _ h2]; exact h4
    have ha := append_row (h := h.new (Blk.ofL [])) (b := h.next) fb h4' (gaddr_scalar k) (by omega) (by omega)
    rw [hl] at ha
    simp [repl, gV1, ha]
    have hn : (h.new (Blk.ofL [])).next = h.next.succ := by simp
    have hr := row_ofL (M := fun q => q.val < h.next.val) (h := (h.new (Blk.ofL [])).new (Blk.ofL (gaddr k))) (b := h.next.succ) (ex := false) (c := k) (l := aL k) (by rw [← hn, S.get_new_self, gaddr_aL]) (by simp [pv]) (by simp [pv])
    rw [aL_len] at hr
    exact hq _ _ (((Kept.refl h).new _).new _) (by simp [lenSlA]) hr
theorem slots_w (hi : PIn p) (hz : chk p ≠ 0) {Q : AVal → Heap → Prop} (hq : ∀ h', Kept h h' → Q .nils h') : Cal X n_code_Slots [.agg p.enc] h Q := by
  refine Cal.go (u_code_Slots _ _ rfl) ?_
  rw [b_code_Slots]
  have hpe : p.enc = [p.cons.val PCon.enc, p.codes.val PCode.enc, p.nodes.val PNode.enc, p.globals.val PGlobal.enc, I p.main] := rfl
  simp [hpe]
  rw [← hpe]
  refine check_w hi fun h1 j k1 _ => ?_
  simp [hz]
  exact hq _ (((Kept.refl h).new _).trans k1)
theorem needs_w (hi : PIn p) (hz : chk p ≠ 0) {Q : AVal → Heap → Prop} (hq : ∀ h', Kept h h' → Q (I 0) h') : Cal X n_machine_Needs [.agg p.enc] h Q := by
  refine Cal.go (u_machine_Needs _ _ rfl) ?_
  rw [b_machine_Needs]
  have hpe : p.enc = [p.cons.val PCon.enc, p.codes.val PCode.enc, p.nodes.val PNode.enc, p.globals.val PGlobal.enc, I p.main] := rfl
  have gb : (h.new (Blk.ofL p.enc)).get h.next = some (Blk.ofL p.enc) := by simp
  have n1 : h.next.val < (h.new (Blk.ofL p.enc)).next.val := by simp [pv]
  simp [hpe]
  rw [← hpe]
  refine slots_w hi hz fun h1 k1 => ?_
  have gb1 := k1.get _ n1
  rw [gb, hpe] at gb1
  simp [lenSlA]
  refine w_loop ?_
  rw [b_machine_Needs_L0]
  simp [gb1]
  rw [← hpe]
  refine check_w hi fun h2 j k2 _ => ?_
  simp [hz]
  exact hq _ (((Kept.refl h).new _).trans (k1.trans k2))
end
end Go.Tw
end

section
open Go Go.Av Go.Ck
namespace Go.Av
section
variable {c : CallFn} {n : Nat → Bool} {e : Env} {h : Heap}
theorem op_g {t : Nat} {b : Bool} {o : XOper} (ho : o.guard = none) (hg : getE e (tt t) = .bool b) : operA c n (gO t b o) e h = operA c n o e h := by
  have h1 : goes e (gO t b o).guard = true := by
    have h2 : goes e (gO t b o).guard = (match getE e (tt t) with | .bool b' => b' == b | _ => false) := S.goS e t b
    rw [h2, hg]; simp
  simp only [operA, h1, ho, S.goN, cond_true]; rfl
theorem op_gp {t : Nat} {b : Bool} {d : Nat} {x : XPure} (hg : getE e (tt t) = .bool b) : operA c n (gO t b (pO d x)) e h = operA c n (pO d x) e h := op_g rfl hg
theorem op_gr {t : Nat} {b : Bool} {d : Nat} {x : XRead} (hg : getE e (tt t) = .bool b) : operA c n (gO t b (rO d x)) e h = operA c n (rO d x) e h := op_g rfl hg
theorem op_gc {t : Nat} {b : Bool} {d : Nat} {f : XOpd} {a : List XOpd} (hg : getE e (tt t) = .bool b) : operA c n (gO t b (cO d f a)) e h = operA c n (cO d f a) e h := op_g rfl hg
theorem do_gread {t : Nat} {b : Bool} (full : List (Env × Heap)) (d : Nat) (x : XRead) (k : Nat) (ks : List Nat) (l : List XDop) (tr : List (Env × Heap)) (hg : getE e (tt t) = .bool b) : dopsOk full (⟨gO t b (rO d x), k :: ks⟩ :: l) ((e, h) :: tr) = dopsOk full (⟨rO d x, k :: ks⟩ :: l) ((e, h) :: tr) := by
  have h1 : goes e (gO t b (rO d x)).guard = true := by
    have h2 : goes e (gO t b (rO d x)).guard = (match getE e (tt t) with | .bool b' => b' == b | _ => false) := S.goS e t b
    rw [h2, hg]; simp
  have h2 : goes e (rO d x).guard = true := rfl
  have h3 : (gO t b (rO d x)).op = .r x := rfl
  have h4 : (rO d x).op = .r x := rfl
  simp only [dopsOk, dopOk, h1, h2, h3, h4]
end
end Go.Av
namespace Go.Tw
set_option linter.unusedSimpArgs false
set_option linter.unusedVariables false
structure PLaw (p : PProg) : Prop where
  cons : len p.cons < 4611686018427387904
  codes : len p.codes < 4611686018427387904
  nodes : len p.nodes < 4611686018427387904
  globals : len p.globals < 4611686018427387904
  cl : ∀ n ∈ p.nodes.list, len n.clos ≤ 140737488355328
  ag : ∀ n ∈ p.nodes.list, len n.args < 4611686018427387904
  br : ∀ n ∈ p.nodes.list, len n.brs < 4611686018427387904
  cp : ∀ n ∈ p.nodes.list, ∀ x ∈ n.clos.list, len x.caps < 4611686018427387904
  bits : ∀ g ∈ p.globals.list, 0 ≤ g.bits ∧ g.bits < 18446744073709551616
section
variable {h : Heap} {p : PProg}
theorem MachineLoads_w (hl : PLaw p) {words : Int} {Q : AVal → Heap → Prop} (hq : ∀ h', Q (.bool true) h') : Cal X n_law19_MachineLoads [.agg p.enc, I words] h Q := by
  refine Cal.go (u_law19_MachineLoads _ _ rfl) ?_
  rw [b_law19_MachineLoads]
  have hpe : p.enc = [p.cons.val PCon.enc, p.codes.val PCode.enc, p.nodes.val PNode.enc, p.globals.val PGlobal.enc, I p.main] := rfl
  have gb : (h.new (Blk.ofL p.enc)).get h.next = some (Blk.ofL p.enc) := by simp
  have n1 : (h.new (Blk.ofL p.enc)).next.val = h.next.val + 1 := by simp [pv]
  obtain ⟨pb, hpb⟩ : ∃ pb, h.next = pb := ⟨_, rfl⟩
  simp [hpe]
  rw [← hpe]
  refine ⟨_, _, u_law19_awake _, ?_⟩
  rw [hpb] at gb ⊢
  have lpb : pb.val < (h.new (Blk.ofL p.enc)).next.val := by rw [n1, hpb]; omega
  generalize h.new (Blk.ofL p.enc) = g0 at *
  have gb' := gb
  rw [hpe] at gb'
  by_cases c1 : 200 < len p.codes
  · simp [gb', lenSl_val, c1]
    exact hq _
  by_cases c2 : 600 < len p.nodes
  · simp [gb', lenSl_val, c1, c2]
    exact hq _
  by_cases c3 : 200 < len p.globals
  · simp [gb', lenSl_val, c1, c2, c3]
    exact hq _
  by_cases c4 : words < 1
  · simp [gb', lenSl_val, c1, c2, c3, c4]
    exact hq _
  by_cases c5 : 3000 < words
  · simp [gb', lenSl_val, c1, c2, c3, c4, c5]
    exact hq _
  have hi : PIn p := ⟨hl.cons, hl.codes, by omega, hl.globals, hl.cl, hl.ag, hl.br, hl.cp⟩
  simp [gb', lenSl_val, c1, c2, c3, c4, c5, repl]
  obtain ⟨W, rfl⟩ : ∃ W : Nat, words = W := ⟨words.toNat, by omega⟩
  have kb : Kept g0 (g0.new (Blk.ofL [I 1])) := (Kept.refl g0).new _
  have kbn := kb.next
  refine heap_New_w (os := p.globals.list.map (objOf p)) (by omega) (by omega) (b := g0.next) (by simp) (by simp [pv]) fun g1 Y Z r k1 hp li hY => ?_
  have k01 := kb.trans k1
  have gb1 := k01.get _ lpb
  rw [gb'] at gb1
  have nY : ∀ q : Pos, q.val < g0.next.val → ¬ MH Y q := fun q hq hm => absurd hq (Nat.not_lt.2 (Nat.le_trans kbn (hY q (.inl hm))))
  simp [gb1, nilEq]
  rw [← hpe]
  have w4 : IntKind.i64.wrap (4 * len p.globals) = 4 * len p.globals := wrap_small (by simp only [len]; omega) (by omega)
  have w5 : IntKind.i64.wrap (1 + 4 * len p.globals) = 1 + 4 * len p.globals := wrap_small (by simp only [len]; omega) (by omega)
  refine load_world hi (by omega) (by omega) (by omega) hp li (fun hz g2 k2 => ?_) (fun hz hr g2 f2 => ?_) (fun hz hr g2 V Z2 r2 gl cv hV w2 l2 ga2 f2 => ?_)
  · have gb2 := k2.get _ (Nat.lt_of_lt_of_le lpb k01.next)
    rw [gb1] at gb2
    simp [gb2]
    rw [← hpe]
    refine check14_w hi fun g3 j k3 _ => ?_
    have gb3 := k3.get _ (Nat.lt_of_lt_of_le lpb (k01.trans k2).next)
    rw [gb2] at gb3
    simp [gb3, hz, nilEq]
    rw [← hpe]
    refine needs_w hi hz fun g4 k4 => ?_
    simp
    exact hq _
  · have gb2 := f2.get _ (Nat.lt_of_lt_of_le lpb k01.next) (nY _ lpb)
    rw [gb1] at gb2
    simp [gb2]
    rw [← hpe]
    refine check14_w hi fun g3 j k3 _ => ?_
    have gb3 := k3.get _ (Nat.lt_of_lt_of_le (Nat.lt_of_lt_of_le lpb k01.next) f2.next)
    rw [gb2] at gb3
    have hr' : (W : Int) < 1 + 4 * len p.globals := by simp only [len]; omega
    simp [gb3, hz, lenSl_val, w4, w5, hr', nilEq]
    exact hq _
  · have gb2 := f2.get _ (Nat.lt_of_lt_of_le lpb k01.next) (nY _ lpb)
    rw [gb1] at gb2
    simp [gb2]
    rw [← hpe]
    refine check14_w hi fun g3 j k3 _ => ?_
    have gb3 := k3.get _ (Nat.lt_of_lt_of_le (Nat.lt_of_lt_of_le lpb k01.next) f2.next)
    rw [gb2] at gb3
    have hr' : ¬ (W : Int) < 1 + 4 * len p.globals := by simp only [len]; omega
    simp [gb3, hz, lenSl_val, w4, w5, hr']
    have l03 : pb.val < g3.next.val := Nat.lt_of_lt_of_le (Nat.lt_of_lt_of_le (Nat.lt_of_lt_of_le lpb k01.next) f2.next) k3.next
    have hgo : ∀ g ∈ p.globals.list, globalOk p g = true := by
      have h0 : chkRoots p 0 = 0 := Classical.byContradiction fun hne => by simp [chk, hne] at hz
      have := chkMain_zero h0
      exact chkGlobals_zero _ this
    have w3 := w2.kept k3
    have ga3 := ga2.fm (k3.fm _)
    have hn200 : p.globals.list.length ≤ 200 := by simp only [len] at c3; omega
    obtain ⟨v1, h1, cc1, kk1, lv1, row1⟩ := Globals_w w3 ga3 (by omega) (Q := fun v h' => Kept g3 h' ∧ lenSlA v = some (I p.globals.list.length) ∧ RowAt (fun q => q.val < g3.next.val) h' v (aL p.globals.list.length)) (fun h' v a b c => ⟨a, b, c⟩)
    have w4' := w3.kept kk1
    have ga4 := ga3.fm (kk1.fm _)
    obtain ⟨v2, h2, cc2, rfl, rfl⟩ := Words_w w4' (Q := fun v h' => v = I (4 * len p.globals) ∧ h' = h1) ⟨rfl, rfl⟩
    obtain ⟨v3, h3, cc3, kk3, lv3, row3⟩ := Globals_w w4' ga4 (by omega) (Q := fun v h' => Kept h2 h' ∧ lenSlA v = some (I p.globals.list.length) ∧ RowAt (fun q => q.val < h2.next.val) h' v (aL p.globals.list.length)) (fun h' v a b c => ⟨a, b, c⟩)
    obtain ⟨v4, h4, cc4, VR, B, ex, gr, l, G, rfl, i4, kk4⟩ := rNew_w (h := h3) hgo (by omega) (by omega) (Q := fun v h' => ∃ V B ex gl l G, v = .ptr V 0 ∧ RInv h3.next.val h' V p p.globals.list.length B ex gl l G ∧ Kept h3 h') (fun h' V B ex gl l G a b => ⟨V, B, ex, gl, l, G, rfl, a, b⟩)
    obtain ⟨v5, h5, cc5, V5, B5, ex5, gr5, l5, G5, rfl, i5, kk5⟩ := rNew_w (h := h4) hgo (by omega) (by omega) (Q := fun v h' => ∃ V B ex gl l G, v = .ptr V 0 ∧ RInv h4.next.val h' V p p.globals.list.length B ex gl l G ∧ Kept h4 h') (fun h' V B ex gl l G a b => ⟨V, B, ex, gl, l, G, rfl, a, b⟩)
    have i4' := i4.kept kk5
    have gV5 := i5.r.gV
    have wh3 := w4'.hp.kept kk3
    have gp1 := kk1.get _ l03
    rw [gb3] at gp1
    have gp3 := kk3.get _ (Nat.lt_of_lt_of_le l03 kk1.next)
    rw [gp1] at gp3
    have gp4 := kk4.get _ (Nat.lt_of_lt_of_le (Nat.lt_of_lt_of_le l03 kk1.next) kk3.next)
    rw [gp3] at gp4
    have hMHlt : ∀ q, (MH Y q ∨ q.val = Y.C.val ∨ q.val = Y.G.val) → q.val < h3.next.val := by
      rintro q ((h | h | h | ⟨R, hR, h⟩) | h | h)
      · have := wh3.ar.la; omega
      · have := wh3.ar.lw; omega
      · have := wh3.lH; omega
      · obtain ⟨i, hi⟩ := List.getElem?_of_mem hR
        have hl := (List.getElem?_eq_some_iff.1 hi).1
        have hl2 : i < Z2.rings.length := by rw [wh3.l2]; exact hl
        have := (wh3.rg i R _ hi (List.getElem?_eq_getElem hl2)).lr
        omega
      · have := wh3.lC; omega
      · have := wh3.lG; omega
    have hMA2 : ∀ q, MA Y.A Y.W q → q.val < h2.next.val := by
      have h1 := w4'.hp.ar.la
      have h2 := w4'.hp.ar.lw
      rintro q (h | h) <;> omega
    have kk35 := kk4.trans kk5
    have ra : RowAt (MA Y.A Y.W) h5 v3 (aL p.globals.list.length) := by
      refine ⟨row3.len, fun i x hx => ?_⟩
      obtain ⟨b, o, e1, e2, e3, e4⟩ := row3.at_ i x hx
      exact ⟨b, o, e1, Nat.lt_of_lt_of_le e2 kk35.next, fun hm => e3 (hMA2 _ hm), by rw [kk35.get _ e2]; exact e4⟩
    have rb : RowAt (MA Y.A Y.W) h5 gr5 (bL p.globals.list.length) := by
      rcases i5.g.or with ⟨h0, rfl, _⟩ | ⟨h0, rfl, h1', h2'⟩
      · refine ⟨by rw [h0]; rfl, fun i x hx => ?_⟩
        rw [h0] at hx; simp [bL] at hx
      · have hr := row_ofL (M := MA Y.A Y.W) (h := h5) (b := G5) (ex := false) (c := p.globals.list.length) (l := bL p.globals.list.length) (by rw [h2', rid_bL]) i5.g.lt (fun hm => by have := hMA2 _ hm; have := i5.g.lo; have := kk3.next; have := kk4.next; omega)
        rw [bL_len] at hr
        exact hr
    obtain ⟨v6, h6, cc6, rfl⟩ := alike_w (lo := h3.next.val) hgo (by omega) hl.bits hn200 (wh3.kept kk35) l2 hMHlt kk35.next i4'.r.gV i4'.r.gB i4'.r.ln ⟨i4'.vl, i4'.r.lV⟩ ⟨i4'.bl, i4'.r.lB⟩ (fun j g hg => (i4'.o j g hg (List.getElem?_eq_some_iff.1 hg).1).mono (Nat.le_refl _) fun q hq hn => ⟨fun h => hn (.inl h), rfl⟩) ra rb (Q := fun v _ => v = .bool true) (fun _ => rfl)
    have gb3' : rdB (g3.get pb) 0 5 = some p.enc := by rw [gb3]; rfl
    simp only [refB] at gV5
    simp only [hpe] at cc4 cc5
    have hlen : len p.globals = (p.globals.list.length : Int) := rfl
    have w4b : IntKind.i64.wrap (4 * (p.globals.list.length : Int)) = 4 * (p.globals.list.length : Int) := w4
    refine w_dreg (by simp only [tr_cons, tr_nil]; simp [op_p, op_r, op_c, op_gp, op_gr, op_gc, nilEq, gb3, gp1, gp3, gp4, cc1, cc2, cc3, cc4, cc5, cc6, lv1, lv3, lenSl_val, w4b, gV5, hlen]; rfl) (by simp [do_nil, do_skip, do_read, do_gread, gb3, gp1, gp3, gp4, same_iff]) rfl ?_
    simp
    exact hq _
end
end Go.Tw
end
