/- A world is loaded just if its program is right and there is room for its globals, else the checker's error or ErrFull is told (the law MachineLoads, whatever the input). Conditions: none. This file: part B. -/
import Derived.Laws.Cells
import Derived.Test.YtgghlkikgebipaaGreatA
set_option linter.all false

section
/- All operations that touch no memory. -/
namespace Go.Av
section
variable {P : Program} {w : World} {g : Gh} {ev : XOpd → AVal} {η : Operand → Value}

theorem addr_add (R o n : Nat) : Addr.add ⟨R, o, none⟩ n = ⟨R, o + n, none⟩ := by
  unfold Addr.add; split
  · rename_i h; subst h; rfl
  · rfl

theorem CR.drop {g : Gh} : ∀ (n : Nat) {cs : List AVal} {R o : Nat}, CR g cs R o → CR g (cs.drop n) R (o + n)
  | 0, _, _, _, h => by simpa using h
  | n + 1, [], _, _, _ => by simp [CR]
  | n + 1, c :: cs, R, o, h => by
    simp only [CR] at h
    have := CR.drop n h.2
    rw [show o + (n + 1) = o + 1 + n from by omega]
    simpa using this

theorem CR.take {g : Gh} : ∀ (n : Nat) {cs : List AVal} {R o : Nat}, CR g cs R o → CR g (cs.take n) R o
  | 0, _, _, _, _ => by simp [CR]
  | n + 1, [], _, _, _ => by simp [CR]
  | n + 1, c :: cs, R, o, h => by
    simp only [CR] at h
    simp only [List.take_succ_cons, CR]
    exact ⟨h.1, CR.take n h.2⟩

theorem run_sliceBound {k : IntKind} {n y : Nat} (h : n ≤ y) (c : BoundsCode) : (Instr.sliceBound (.int k (n : Int)) y c).run P w = .ok n w := by
  have h' : (0 : Int) ≤ (n : Int) ∧ (n : Int) ≤ (y : Int) := by omega
  simp [Instr.sliceBound, asIntOf, h']

theorem optNat_inv {o : Option XOpd} {o' : Option Operand} (hE : OR g ev η) (ho : xopdO o' = some o) {d n : Nat} (h : sliceA.optNat (o.map ev) d = some n) :
    (o' = none ∧ o = none ∧ n = d) ∨ (∃ y k, o' = some y ∧ η y = .int k (n : Int)) := by
  unfold xopdO at ho
  split at ho
  · injection ho with ho; subst ho; simp [sliceA.optNat] at h; exact .inl ⟨rfl, rfl, h.symm⟩
  · split at ho
    · rename_i x a ha
      injection ho with ho; subst ho
      simp only [Option.map_some, sliceA.optNat] at h
      obtain ⟨k, hk⟩ := asNat_inv h (hE _ _ ha)
      exact .inr ⟨_, k, rfl, hk⟩
    · cases ho

theorem run_sliceBounds (hE : OR g ev η) {lo hi : Option XOpd} {lo' hi' : Option Operand} (hlo : xopdO lo' = some lo) (hhi : xopdO hi' = some hi) {len cap l h : Nat} {isS : Bool}
    (e1 : sliceA.optNat (lo.map ev) 0 = some l) (e2 : sliceA.optNat (hi.map ev) len = some h) (hl : l ≤ h) (hh : h ≤ cap) :
    (Instr.sliceBounds isS len cap (lo'.map η) (hi'.map η) none).run P w = .ok (l, h, cap) w := by
  have H : ∀ c, (match hi'.map η with | some v => Instr.sliceBound v cap c | none => pure len : Sem Nat).run P w = .ok h w := by
    intro c
    rcases optNat_inv hE hhi e2 with ⟨rfl, _, rfl⟩ | ⟨y, k, rfl, hy⟩
    · simp
    · simp only [Option.map_some, hy]; exact run_sliceBound hh c
  have L : ∀ c, (match lo'.map η with | some v => Instr.sliceBound v h c | none => pure 0 : Sem Nat).run P w = .ok l w := by
    intro c
    rcases optNat_inv hE hlo e1 with ⟨rfl, _, rfl⟩ | ⟨y, k, rfl, hy⟩
    · simp
    · simp only [Option.map_some, hy]; exact run_sliceBound hl c
  unfold Instr.sliceBounds
  simp only [Sem.run_bind, Sem.run_pure, Result.andThen_ok]
  have H' := H (if isS = true then BoundsCode.sliceAcap else BoundsCode.sliceAlen)
  have L' := L BoundsCode.sliceB
  cases hh' : hi'.map η <;> cases ll' : lo'.map η <;> simp only [hh', ll'] at H' L' ⊢ <;> simp_all

theorem run_sliceBounds3 (hE : OR g ev η) {lo hi : Option XOpd} {lo' hi' : Option Operand} (hlo : xopdO lo' = some lo) (hhi : xopdO hi' = some hi) {len cap l h m : Nat} {k : IntKind}
    (e1 : sliceA.optNat (lo.map ev) 0 = some l) (e2 : sliceA.optNat (hi.map ev) len = some h) (hhs : hi' ≠ none) (hl : l ≤ h) (hh : h ≤ m) (hm : m ≤ cap) :
    (Instr.sliceBounds true len cap (lo'.map η) (hi'.map η) (some (.int k (m : Int)))).run P w = .ok (l, h, m) w := by
  have H : ∃ v, hi'.map η = some v ∧ ∀ c, (Instr.sliceBound v m c).run P w = .ok h w := by
    rcases optNat_inv hE hhi e2 with ⟨rfl, _, rfl⟩ | ⟨y, k, rfl, hy⟩
    · exact absurd rfl hhs
    · exact ⟨_, rfl, fun c => by rw [hy]; exact run_sliceBound hh c⟩
  have L : ∀ c, (match lo'.map η with | some v => Instr.sliceBound v h c | none => pure 0 : Sem Nat).run P w = .ok l w := by
    intro c
    rcases optNat_inv hE hlo e1 with ⟨rfl, _, rfl⟩ | ⟨y, k, rfl, hy⟩
    · simp
    · simp only [Option.map_some, hy]; exact run_sliceBound hl c
  obtain ⟨v, hv, H⟩ := H
  unfold Instr.sliceBounds
  rw [hv]
  simp only [Sem.run_bind, run_sliceBound hm, Result.andThen_ok, H]
  have L' := L BoundsCode.slice3C
  cases ll' : lo'.map η <;> simp only [ll'] at L' ⊢ <;> simp_all

theorem room_le {w : World} {R m n : Nat} (h : room w R n) (hm : m ≤ n) : room w R m := by
  obtain ⟨c, e, f, h1, h2⟩ := h; exact ⟨c, e, f, h1, by omega⟩

/-- slices -/
theorem slice_sound (hE : OR g ev η) {t : TypeId} {x : Operand} {lo hi mx : Option Operand} {xx : XOpd} {lo' hi' mx' : Option XOpd} {k : SK}
    (hx : xopd x = some xx) (hlo : xopdO lo = some lo') (hhi : xopdO hi = some hi') (hmx : xopdO mx = some mx')
    (hk : (P.underlying t = some .string ∧ k = .str ∧ mx' = none) ∨ (∃ e es, P.underlying t = some (.slice e) ∧ sizeT P e = some es ∧ k = .sl es)) (hmh : mx ≠ none → hi ≠ none)
    {a : AVal} (h : sliceA k (ev xx) (lo'.map ev) (hi'.map ev) (mx'.map ev) = some a) :
    ∃ v, (Instr.sliceAt t (η x) (lo.map η) (hi.map η) (mx.map η)).run P w = .ok v w ∧ VR g a v := by
  have hv := hE _ _ hx
  have mxnone : mx' = none → mx = none := by
    intro e; subst e; unfold xopdO at hmx
    split at hmx
    · rfl
    · split at hmx <;> cases hmx
  rcases hk with ⟨hu, rfl, hm0⟩ | ⟨e, es, hu, hs, rfl⟩
  · subst hm0
    have hm1 := mxnone rfl
    subst hm1
    cases hxx : ev xx <;> rw [hxx] at h hv <;> simp only [sliceA, reduceCtorEq, Option.map_none] at h
    rename_i s
    simp only [VR] at hv
    obtain ⟨bs, e1, rfl⟩ := hv
    rw [e1]
    split at h
    · rename_i l hh hm hl e2
      cases hb : Nat.ble l hh && Nat.ble hh (strBytes bs).length with
      | false => simp [hb] at h
      | true =>
        simp only [hb, cond_true, Option.some.injEq] at h
        subst h
        simp only [Bool.and_eq_true] at hb
        have h1 := Nat.le_of_ble_eq_true hb.1
        have h2 := Nat.le_of_ble_eq_true hb.2
        have hlen : (strBytes bs).length = bs.size := by simp [strBytes]
        rw [hlen] at h2 e2
        have hb2 := run_sliceBounds (P := P) (w := w) (isS := false) (len := bs.size) (cap := bs.size) hE hlo hhi hl e2 h1 h2
        refine ⟨.string (bs.extract l hh), ?_, ?_⟩
        · simp only [Instr.sliceAt, Sem.run_bind, run_underlying hu, Result.andThen_ok, Instr.slice, Option.map_none, Option.isSome_none, Bool.false_eq_true, if_false, Sem.run_pure, hb2]
        · simp only [VR]
          refine ⟨_, rfl, ?_⟩
          simp only [strBytes, ByteArray.data_extract, Array.toList_extract, List.extract_eq_take_drop, List.map_take, List.map_drop]
          rw [List.drop_take]
    · cases h
  · cases hxx : ev xx <;> rw [hxx] at h hv <;> simp only [sliceA, reduceCtorEq] at h
    · -- nil
      simp only [VR] at hv
      rw [hv]
      split at h
      · rename_i hm hl hh
        injection h with h; subst h
        refine ⟨.slice none 0 0, ?_, by simp only [VR]⟩
        rcases optNat_inv hE hmx hm with ⟨rfl, _, _⟩ | ⟨y, k, rfl, hy⟩
        · have hb2 := run_sliceBounds (P := P) (w := w) (isS := true) (len := 0) (cap := 0) hE hlo hhi hl hh (Nat.le_refl _) (Nat.le_refl _)
          simp only [Instr.sliceAt, Sem.run_bind, run_underlying hu, Result.andThen_ok, Instr.slice, Option.map_none, hb2, run_sizeT hs]
          simp
        · have hb2 := run_sliceBounds3 (P := P) (w := w) (len := 0) (cap := 0) (m := 0) (k := k) hE hlo hhi hl hh (hmh (by simp)) (Nat.le_refl _) (Nat.le_refl _) (Nat.le_refl _)
          simp only [Instr.sliceAt, Sem.run_bind, run_underlying hu, Result.andThen_ok, Instr.slice, Option.map_some, hy, hb2, run_sizeT hs]
          simp
      · cases h
    · -- a slice of the call's own
      rename_i b o n ex c es'
      simp only [VR] at hv
      obtain ⟨R, O, rc, hr, e1, hex, hc, hn, hroom⟩ := hv
      rw [e1]
      split at h
      · rename_i l hh hl e2
        cases hb : Nat.beq es es' && Nat.ble l hh && Nat.ble hh (bif ex then c else n) with
        | false => simp [hb] at h
        | true =>
          simp only [hb, cond_true] at h
          simp only [Bool.and_eq_true] at hb
          obtain rfl := Nat.eq_of_beq_eq_true hb.1.1
          have h1 := Nat.le_of_ble_eq_true hb.1.2
          have h2 := Nat.le_of_ble_eq_true hb.2
          have h2' : hh ≤ c := by cases ex <;> simp at h2 <;> omega
          have hmul : ∀ m, l ≤ m → m ≤ rc → O + (o + l * es) + (m - l) * es ≤ O + o + rc * es := by
            intro m hm1 hm2
            have : l * es + (m - l) * es = m * es := by rw [← Nat.add_mul]; congr 1; omega
            have := Nat.mul_le_mul_right es hm2
            omega
          split at h
          · have hm1 := mxnone (by rename_i hmm; cases mx' <;> simp at hmm; rfl)
            subst hm1
            have hb2 := run_sliceBounds (P := P) (w := w) (isS := true) (len := n) (cap := rc) hE hlo hhi hl e2 h1 (by omega)
            simp only [Instr.sliceAt, Sem.run_bind, run_underlying hu, Result.andThen_ok, Instr.slice, Option.map_none, hb2, run_sizeT hs, Sem.run_pure]
            refine ⟨_, rfl, ?_⟩
            cases hcl : Nat.beq c l && !(Nat.beq l 0) with
            | true =>
              simp only [hcl, cond_true] at h
              simp only [Bool.and_eq_true] at hcl
              obtain rfl := Nat.eq_of_beq_eq_true hcl.1
              cases ex with
              | false =>
                simp only [cond_false] at h
                cases hhl : Nat.beq hh c with
                | false => simp [hhl] at h
                | true =>
                simp only [hhl, cond_true] at h
                injection h with h; subst h
                obtain rfl := Nat.eq_of_beq_eq_true hhl
                simp only [VR, Nat.sub_self]
                by_cases hrc : rc = hh
                · simp only [hrc, if_true]; exact ⟨R, _, _, none, rfl, Nat.zero_le _, by simp, by simp [CR], .inr rfl⟩
                · simp only [hrc, if_false, Option.map_some, addr_add]; exact ⟨R, _, _, none, rfl, Nat.zero_le _, by simp, by simp [CR], .inr rfl⟩
              | true =>
                simp at h; subst h
                have hrc := hex rfl
                subst hrc
                simp only [VR, if_true]
                exact ⟨R, O, _, hr, rfl, fun _ => by omega, by omega, by omega, room_le hroom (by simp)⟩
            | false =>
              simp only [hcl, cond_false, Option.some.injEq] at h
              subst h
              have hne : ¬ rc = l ∨ l = 0 := by
                by_cases hl0 : l = 0
                · exact .inr hl0
                · left
                  intro hrl
                  have hlb : Nat.beq l 0 = false := beq_no hl0
                  have : c = l := by omega
                  subst this
                  simp [hlb] at hcl
              have haddr : (if rc = l then some (⟨R, O + o, none⟩ : Addr) else (some (⟨R, O + o, none⟩ : Addr)).map (·.add (l * es))) = some ⟨R, O + (o + l * es), none⟩ := by
                rcases hne with hne | rfl
                · simp only [if_neg hne, Option.map_some, addr_add]; simp [Nat.add_assoc]
                · simp [addr_add]
              simp only [VR]
              rw [haddr]
              exact ⟨R, O, _, hr, rfl, fun h => by rw [hex h], by omega, by omega, room_le hroom (hmul rc (by omega) (Nat.le_refl _))⟩
          · rename_i mo hmm
            obtain ⟨mxx, rfl⟩ : ∃ q, mx' = some q := by cases mx' <;> simp at hmm; exact ⟨_, rfl⟩
            simp only [Option.map_some, Option.some.injEq] at hmm
            split at h
            · rename_i m hm
              unfold xopdO at hmx
              split at hmx
              · cases hmx
              · rename_i xm
                split at hmx
                · rename_i am ham
                  injection hmx with hmx; injection hmx with hmx; subst hmx
                  rw [← hmm] at hm
                  obtain ⟨km, hkm⟩ := asNat_inv hm (hE _ _ ham)
                  cases hb3 : Nat.ble hh m && Nat.ble m c with
                  | false => simp [hb3] at h
                  | true =>
                    simp only [hb3, cond_true] at h
                    simp only [Bool.and_eq_true] at hb3
                    have h3 := Nat.le_of_ble_eq_true hb3.1
                    have h4 := Nat.le_of_ble_eq_true hb3.2
                    have hb2 := run_sliceBounds3 (P := P) (w := w) (len := n) (cap := rc) (m := m) (k := km) hE hlo hhi hl e2 (hmh (by simp)) h1 h3 (by omega)
                    simp only [Instr.sliceAt, Sem.run_bind, run_underlying hu, Result.andThen_ok, Instr.slice, Option.map_some, hkm, hb2, run_sizeT hs, Sem.run_pure]
                    refine ⟨_, rfl, ?_⟩
                    by_cases hml : m = l
                    · subst hml
                      have : Nat.beq m m = true := by simp
                      simp only [this, cond_true, Option.some.injEq] at h
                      subst h
                      simp only [VR, if_true]
                      exact ⟨R, O, _, hr, rfl, fun _ => rfl, Nat.le_refl _, by omega, room_le hroom (by simp)⟩
                    · have : Nat.beq m l = false := beq_no hml
                      simp only [this, cond_false, Option.some.injEq] at h
                      subst h
                      simp only [VR, if_neg hml, addr_add]
                      exact ⟨R, O, _, hr, by simp [Nat.add_assoc], fun _ => rfl, Nat.le_refl _, by omega, room_le hroom (hmul m (by omega) (by omega))⟩
                · cases hmx
            · cases h
      · cases h
    · -- an immutable one
      rename_i n cs
      simp only [VR] at hv
      obtain ⟨R, o, rc, sp, e1, hrc, him, hcr, hsp⟩ := hv
      rw [e1]
      split at h
      · rename_i l hh hm hl e2
        have hm1 := mxnone (by cases mx' <;> simp at hm; rfl)
        subst hm1
        cases hb : Nat.ble l hh && Nat.ble hh n && Nat.ble (n * es) cs.length with
        | false => simp [hb] at h
        | true =>
          simp only [hb, cond_true, Option.some.injEq] at h
          subst h
          simp only [Bool.and_eq_true] at hb
          have h1 := Nat.le_of_ble_eq_true hb.1.1
          have h2 := Nat.le_of_ble_eq_true hb.1.2
          have h3 := Nat.le_of_ble_eq_true hb.2
          have hb2 := run_sliceBounds (P := P) (w := w) (isS := true) (len := n) (cap := rc) hE hlo hhi hl e2 h1 (by omega)
          simp only [Instr.sliceAt, Sem.run_bind, run_underlying hu, Result.andThen_ok, Instr.slice, Option.map_none, hb2, run_sizeT hs, Sem.run_pure]
          refine ⟨_, rfl, ?_⟩
          simp only [VR]
          by_cases hrl : rc = l
          · refine ⟨R, o, rc - l, sp, by simp [hrl], by omega, him.imp (fun e => by simp [e]) id, ?_, hsp.imp (fun e => by omega) id⟩
            have : hh - l = 0 := by omega
            rw [this]; simp [CR]
          · by_cases hn0 : n = 0
            · have hl0 : l = 0 := by omega
              have hh0 : hh = 0 := by omega
              subst hl0 hh0
              exact ⟨R, o, rc - 0, sp, by simp [hrl, Addr.add], by omega, him.imp (fun e => by simp [e]) id, by simp [CR], .inl rfl⟩
            · obtain rfl := hsp.resolve_left hn0
              exact ⟨R, o + l * es, rc - l, none, by simp [hrl, addr_add], by omega, him.imp (fun e => by simp [e]) id, CR.take _ (CR.drop _ hcr), .inr rfl⟩
      · cases h

/-! structs, arrays, strings -/
def PR (g : Gh) (place : Nat → Option (Nat × Nat)) : List (Nat × Nat × AVal) → List (Nat × Value) → Prop
  | [], [] => True
  | p :: ps, q :: qs => (place q.1 = some (p.1, p.2.1) ∧ VR g p.2.2 q.2) ∧ PR g place ps qs
  | _, _ => False
theorem fill_fills {g : Gh} : ∀ (ps : List (Nat × Nat × AVal)) (qs : List (Nat × Value)) (place : Nat → Option (Nat × Nat)) (cs : List AVal) (ds : Array Value) (r : List AVal),
    PR g place ps qs → VRs g cs ds.toList → fills cs ps = some r →
    ∃ d : Array Value, Instr.fill place ds qs = some d ∧ VRs g r d.toList
  | [], [], place, cs, ds, r, _, hc, h => by
    simp only [fills, Option.some.injEq] at h; subst h
    exact ⟨ds, by simp [Instr.fill], hc⟩
  | [], _ :: _, place, cs, ds, r, hp, _, _ => by simp [PR] at hp
  | _ :: _, [], place, cs, ds, r, hp, _, _ => by simp [PR] at hp
  | (off, n, v) :: ps, (i, u) :: qs, place, cs, ds, r, hp, hc, h => by
      obtain ⟨⟨hpl, hv⟩, h2⟩ := hp
      simp only at hpl hv
      simp only [fills] at h
      cases hb : Nat.beq v.cells.length n && Nat.ble (off + n) cs.length with
      | false => simp [hb] at h
      | true =>
        simp only [hb, cond_true] at h
        simp only [Bool.and_eq_true] at hb
        have e1 := Nat.eq_of_beq_eq_true hb.1
        have e2 := Nat.le_of_ble_eq_true hb.2
        have hvc := VR.cells hv
        have hl1 := VRs.length hvc
        have hl2 := VRs.length hc
        simp only [Array.length_toList] at hl1 hl2
        have key : ∀ (us : List Value) (j : Nat) (ds : Array Value), off + j + us.length ≤ ds.size →
            ((us.zipIdx j).foldl (fun cs x => cs.setIfInBounds (off + x.2) x.1) ds).toList = ds.toList.take (off + j) ++ us ++ ds.toList.drop (off + j + us.length) := by
          intro us
          induction us with
          | nil => intro j ds _; simp
          | cons c us ih =>
            intro j ds hle
            simp only [List.length_cons] at hle
            simp only [List.zipIdx_cons, List.foldl_cons]
            rw [ih (j + 1) _ (by simp; omega)]
            have hlt : off + j < ds.toList.length := by simp; omega
            simp only [Array.toList_setIfInBounds]
            rw [show off + (j + 1) = off + j + 1 from by omega, List.take_set, List.drop_set_of_lt (by omega), List.take_succ_eq_append_getElem hlt]
            have hset : ∀ y : Value, (List.take (off + j) ds.toList ++ [y]).set (off + j) c = List.take (off + j) ds.toList ++ [c] := by
              intro y
              have hmin : (List.take (off + j) ds.toList).length = off + j := by rw [List.length_take]; omega
              rw [List.set_append, hmin]
              simp
            rw [hset, List.length_cons, show off + j + 1 + us.length = off + j + (us.length + 1) from by omega]
            simp
        have hfold : (u.cells.zipIdx.foldl (fun cs x => cs.setIfInBounds (off + x.2) x.1) ds).toList = ds.toList.take off ++ u.cells.toList ++ ds.toList.drop (off + n) := by
          have := key u.cells.toList 0 ds (by simp; omega)
          rw [← Array.foldl_toList, Array.toList_zipIdx, this]
          simp [← hl1, e1]
        have hrec := fill_fills ps qs place _ (u.cells.zipIdx.foldl (fun cs x => cs.setIfInBounds (off + x.2) x.1) ds) r h2 (by
          rw [hfold]; exact VRs.append (VRs.append (VRs.take off hc) hvc) (VRs.drop (off + n) hc)) h
        obtain ⟨d, hd, hr⟩ := hrec
        refine ⟨d, ?_, hr⟩
        simp only [Instr.fill, hpl]
        have c1 : ¬ ((u.cells.size ≠ n || decide (off + u.cells.size > ds.size)) = true) := by
          simp; omega
        simp only [c1, Bool.false_eq_true, if_false]
        exact hd

end
end Go.Av
end

section
/- What each operation that touches no memory comes to: the whole. -/
namespace Go.Av
section
variable {P : Program} {w : World} {g : Gh} {ev : XOpd → AVal} {η : Operand → Value}

theorem run_places (fs : Array Field) (h : (fs.toList.all fun f => (sizeT P f.type).isSome) = true) :
    (fs.mapM fun f => do pure (f.offset, ← sizeOf f.type) : Sem (Array (Nat × Nat))).run P w = .ok (fs.map fun f => (f.offset, (sizeT P f.type).getD 0)) w := by
  have key : ∀ l : List Field, (l.all fun f => (sizeT P f.type).isSome) = true →
      (l.mapM fun f => do pure (f.offset, ← sizeOf f.type) : Sem (List (Nat × Nat))).run P w = .ok (l.map fun f => (f.offset, (sizeT P f.type).getD 0)) w := by
    intro l
    induction l with
    | nil => intro _; simp
    | cons f l ih =>
      intro hl
      simp only [List.all_cons, Bool.and_eq_true] at hl
      have h1 := ih hl.2
      obtain ⟨n, hn⟩ := Option.isSome_iff_exists.1 hl.1
      simp only [List.mapM_cons, Sem.run_bind, run_sizeT hn, Result.andThen_ok, Sem.run_pure, h1, List.map_cons, hn, Option.getD_some]
  rw [Array.mapM_eq_mapM_toList, Sem.run_map, key _ h]
  simp only [Result.andThen_ok]
  congr 1
  apply Array.ext'
  simp

theorem xparts_PR (hE : OR g ev η) {t : TypeId} {place : Nat → Option (Nat × Nat)} (hp : ∀ p q, xpart P t p = some q → place p.1 = some (q.1, q.2.1)) :
    ∀ {ps : List (Nat × Operand)} {qs : List (Nat × Nat × XOpd)}, xparts P t ps = some qs → PR g place (qs.map fun q => (q.1, q.2.1, ev q.2.2)) (ps.map fun p => (p.1, η p.2))
  | [], qs, h => by simp only [xparts, Option.some.injEq] at h; subst h; simp [PR]
  | p :: ps, qs, h => by
    simp only [xparts] at h
    split at h
    · rename_i a m ha hm
      injection h with h; subst h
      simp only [List.map_cons, PR]
      refine ⟨⟨hp _ _ ha, ?_⟩, xparts_PR hE hp hm⟩
      unfold xpart at ha
      split at ha
      · rename_i x fs hx hu
        split at ha
        · split at ha
          · injection ha with ha; subst ha; exact hE _ _ hx
          · cases ha
        · cases ha
      · rename_i x n e hx hu
        split at ha
        · injection ha with ha; subst ha; exact hE _ _ hx
        · cases ha
      · rename_i x e hx hu
        split at ha
        · injection ha with ha; subst ha; exact hE _ _ hx
        · cases ha
      · cases ha
    · cases h

theorem build_sound (hE : OR g ev η) {t : TypeId} {ps : List (Nat × Operand)} {z : AVal} {qs : List (Nat × Nat × XOpd)} {cs : List AVal} (hag : isAggT P t = true) (hsz : allSized P t = true)
    (hz : zeroT P t = some z) (hq : xparts P t ps = some qs) (h : fills z.cells (qs.map fun q => (q.1, q.2.1, ev q.2.2)) = some cs) :
    ∃ v, (Instr.build t (ps.toArray.map fun p => (p.1, η p.2))).run P w = .ok v w ∧ VR g (.agg cs) v := by
  obtain ⟨zv, hzr, hzo⟩ := run_zeroT' (w := w) hz
  have hzv := ofValue_VR g zv z hzo
  have hzc := VR.cells hzv
  unfold Instr.build
  simp only [Sem.run_bind, hzr, Result.andThen_ok]
  unfold isAggT at hag
  split at hag
  · rename_i fs hu
    simp only [run_underlying hu, Result.andThen_ok]
    have hsz' : (fs.toList.all fun f => (sizeT P f.type).isSome) = true := by simpa only [allSized, hu] using hsz
    simp only [Sem.run_bind, run_places fs hsz', Result.andThen_ok]
    have hpr := xparts_PR (place := fun i => (fs.map fun f => (f.offset, (sizeT P f.type).getD 0))[i]?) hE (t := t) (P := P) (g := g) (by
      intro p q hpq
      unfold xpart at hpq
      simp only [hu] at hpq
      split at hpq
      · rename_i x fs' hx hfs
        injection hfs with hfs; injection hfs with hfs; subst hfs
        split at hpq
        · rename_i f hf
          split at hpq
          · rename_i n hn
            injection hpq with hpq; subst hpq
            simp [hf, hn]
          · cases hpq
        · cases hpq
      · rename_i hfs; cases hfs
      · rename_i hfs; cases hfs
      · cases hpq) hq
    obtain ⟨d, hd, hr⟩ := fill_fills _ _ _ _ zv.cells _ hpr hzc h
    have : ((ps.toArray.map fun p => (p.1, η p.2)) : Array (Nat × Value)).toList = ps.map fun p => (p.1, η p.2) := by simp
    rw [this, hd]
    exact ⟨.agg d, by simp, by simp only [VR]; exact ⟨d, rfl, hr⟩⟩
  · rename_i n e hu
    simp only [run_underlying hu, Result.andThen_ok]
    have hse : (sizeT P e).isSome = true := by simpa only [allSized, hu] using hsz
    · obtain ⟨es, hes⟩ := Option.isSome_iff_exists.1 hse
      simp only [Sem.run_bind, run_sizeT hes, Result.andThen_ok]
      have hpr := xparts_PR (place := fun i => some (i * es, es)) hE (t := t) (P := P) (g := g) (by
        intro p q hpq
        unfold xpart at hpq
        simp only [hu] at hpq
        split at hpq
        · rename_i hfs; cases hfs
        · rename_i x n' e' hx hfs
          injection hfs with hfs; injection hfs with hfs1 hfs2; subst hfs2
          split at hpq
          · rename_i m hm
            injection hpq with hpq; subst hpq
            rw [hes] at hm; injection hm with hm; subst hm; rfl
          · cases hpq
        · rename_i hfs; cases hfs
        · cases hpq) hq
      obtain ⟨d, hd, hr⟩ := fill_fills _ _ _ _ zv.cells _ hpr hzc h
      have : ((ps.toArray.map fun p => (p.1, η p.2)) : Array (Nat × Value)).toList = ps.map fun p => (p.1, η p.2) := by simp
      rw [this, hd]
      exact ⟨.agg d, by simp, by simp only [VR]; exact ⟨d, rfl, hr⟩⟩
  · cases hag

theorem OR.none_slice {o : Option Operand} {o' : Option XOpd} (h : xopdO o = some o') : o'.isSome = o.isSome := by
  unfold xopdO at h
  split at h
  · injection h with h; subst h; rfl
  · split at h
    · injection h with h; subst h; rfl
    · cases h

theorem wrapA_inv {ag : Bool} {cs : List AVal} {a : AVal} (h : wrapA ag cs = some a) : (ag = true ∧ a = .agg cs) ∨ (ag = false ∧ cs = [a]) := by
  cases ag
  · simp only [wrapA] at h
    split at h
    · injection h with h; subst h; exact .inr ⟨rfl, rfl⟩
    · cases h
  · simp [wrapA] at h; exact .inl ⟨rfl, h.symm⟩

theorem part_sound {t : TypeId} {n off : Nat} (hag : isAggT P t = true ∨ n = 1) (hn : sizeT P t = some n) (hu : ∃ u, P.underlying t = some u) {cs : List AVal} {ds : Array Value} (hc : VRs g cs ds.toList)
    (hl : off + n ≤ cs.length) {a : AVal} (h : wrapA (isAggT P t) ((cs.drop off).take n) = some a) : ∃ v, (part t ds off).run P w = .ok v w ∧ VR g a v := by
  obtain ⟨u, hu⟩ := hu
  have hlen := VRs.length hc
  have hr := VRs.take n (VRs.drop off hc)
  have := run_part' (w := w) hu hn hag ds.toList off (by omega)
  refine ⟨mkV P t ((ds.toList.drop off).take n), by simpa using this, ?_⟩
  unfold mkV
  rcases wrapA_inv h with ⟨h1, rfl⟩ | ⟨h1, h2⟩
  · rw [h1]; simp only [if_true, VR]; exact ⟨_, rfl, hr⟩
  · rw [h1]; simp only [Bool.false_eq_true, if_false]
    rw [h2] at hr
    obtain ⟨v, hv, hvr⟩ := VRs.of_one hr
    rw [hv]; exact hvr

theorem xbuiltin_p {c : Call} {b : Builtin} {args : List XOpd} {px : XPure} (hb : c.callee = .builtin b) (ha : xopds c.args.toList = some args) (hx : xbuiltin P c b args = some (.p px)) (hE : OR g ev η)
    {a : AVal} (h : pureA ev px = some a) (ty : TypeId) : ∃ v, (do let d ← resolve η c ty; invoke d.target d.args : Sem Next).run P w = .ok (.value v) w ∧ VR g a v := by
  have hargs := OR.list hE ha
  have hres : ∃ cs, (resolve η c ty).run P w = .ok { target := .builtin b c.argTypes ty cs, args := c.args.map η } w := by
    exact ⟨_, by simp only [resolve, hb]; rfl⟩
  obtain ⟨cs, hres⟩ := hres
  simp only [Sem.run_bind, hres, Result.andThen_ok, invoke]
  have hal : (c.args.map η).toList = c.args.toList.map η := by simp
  have two : ∀ {x y : XOpd}, args = [x, y] → ∃ u v, c.args.map η = #[u, v] ∧ VR g (ev x) u ∧ VR g (ev y) v := by
    intro x y e
    subst e
    simp only [List.map_cons, List.map_nil, VRs] at hargs
    obtain ⟨u, us, e1, h1, v, vs, e2, h2, e3⟩ := hargs
    subst e3; subst e2
    exact ⟨u, v, Array.ext' (by rw [hal, e1]), h1, h2⟩
  have mm : ∀ {mx : Bool} {k : IntKind} {x y : XOpd}, args = [x, y] → px = .minmax mx k x y → b = (if mx then .max else .min) →
      ∃ v, (builtin b c.argTypes ty cs (c.args.map η)).run P w = .ok (.value v) w ∧ VR g a v := by
    intro mx k x y e1 e2 e3
    subst e2
    obtain ⟨u, v, hav, hu, hv⟩ := two e1
    simp only [pureA] at h
    split at h
    · rename_i j m j' n hm hn
      rw [hm] at hu; rw [hn] at hv
      have hu' := VR.int_inv hu
      have hv' := VR.int_inv hv
      subst hu'; subst hv'
      cases hjk : (j == k) && (j' == k) with
      | false => simp [hjk] at h
      | true =>
        simp only [hjk, cond_true, Option.some.injEq] at h
        simp only [Bool.and_eq_true, beq_iff_eq] at hjk
        obtain ⟨rfl, rfl⟩ := hjk
        subst h
        rw [hav]
        cases mx
        · simp at e3; subst e3
          refine ⟨.int j' (if n < m then n else m), by simp [builtin, Builtin.min_, Builtin.min2], ?_⟩
          simp only [VR, cond_false]
          by_cases hlt : n < m <;> simp [hlt]
        · simp at e3; subst e3
          refine ⟨.int j' (if m < n then n else m), by simp [builtin, Builtin.max_, Builtin.max2], ?_⟩
          simp only [VR, cond_true]
          by_cases hlt : m < n <;> simp [hlt]
    · cases h
  unfold xbuiltin at hx
  split at hx
  · -- len
    rename_i x
    simp only [List.map_cons, List.map_nil] at hargs
    obtain ⟨v, hv, hvr⟩ := VRs.of_one hargs
    have hav : c.args.map η = #[v] := Array.ext' (by rw [hal, hv])
    split at hx
    · rename_i t ht
      split at hx
      · rename_i n e hu
        injection hx with hx; injection hx with hx; subst hx
        simp only [pureA, Option.some.injEq] at h; subst h
        exact ⟨.int .i64 n, by simp [builtin, Builtin.len_, ht, hav, run_underlying hu, goInt], by simp only [VR]; rfl⟩
      · rename_i hu
        injection hx with hx; injection hx with hx; subst hx
        simp only [pureA] at h
        split at h <;> (try (cases h; done)) <;> rename_i hev <;> rw [hev] at hvr <;> simp only [VR] at hvr
        obtain ⟨s, rfl, rfl⟩ := hvr
        injection h with h; subst h
        exact ⟨.int .i64 s.size, by simp [builtin, Builtin.len_, ht, hav, run_underlying hu, goInt], by simp [VR, strBytes]⟩
      · rename_i e hu
        injection hx with hx; injection hx with hx; subst hx
        simp only [pureA] at h
        unfold lenSlA at h
        split at h <;> (try (cases h; done)) <;> rename_i hev <;> rw [hev] at hvr <;> simp only [VR] at hvr <;> injection h with h <;> subst h
        · subst hvr
          exact ⟨.int .i64 0, by simp [builtin, Builtin.len_, ht, hav, run_underlying hu, goInt], by simp [VR]⟩
        · obtain ⟨R, O, rc, _, rfl, _⟩ := hvr
          exact ⟨.int .i64 _, by simp [builtin, Builtin.len_, ht, hav, run_underlying hu, goInt]; rfl, by simp [VR]⟩
        · obtain ⟨R, O, rc, sp, rfl, _⟩ := hvr
          exact ⟨.int .i64 _, by simp [builtin, Builtin.len_, ht, hav, run_underlying hu, goInt]; rfl, by simp [VR]⟩
      · injection hx with hx; cases hx
      · cases hx
    · cases hx
  · repeat' (split at hx)
    all_goals first | (cases hx; done) | (injection hx with hx; cases hx; done)
  · repeat' (split at hx)
    all_goals first | (cases hx; done) | (injection hx with hx; cases hx; done)
  · repeat' (split at hx)
    all_goals first | (cases hx; done) | (injection hx with hx; cases hx; done)
  · split at hx
    · injection hx with hx; injection hx with hx; exact mm rfl hx.symm rfl
    · cases hx
  · split at hx
    · injection hx with hx; injection hx with hx; exact mm rfl hx.symm rfl
    · cases hx
  · cases hx

end
end Go.Av
end

section
/- Operations that touch no memory are as the evaluator says. -/
namespace Go.Av
section
variable {P : Program} {w : World} {g : Gh} {ev : XOpd → AVal} {η : Operand → Value}

theorem ptr_inv {b : Pos} {o : Nat} {v : Value} (h : VR g (.ptr b o) v) : ∃ R O, g.ρ b = some (R, O) ∧ v = .pointer (some ⟨R, O + o, none⟩) := by simpa only [VR] using h
theorem cptr_inv {cs : List AVal} {v : Value} (h : VR g (.cptr cs) v) : ∃ R o, v = .pointer (some ⟨R, o, none⟩) ∧ (cs = [] ∨ g.im R) ∧ CR g cs R o := by simpa only [VR] using h

theorem fieldAt_sound {t : TypeId} {fs : Array Field} {i : Nat} {f : Field} {n : Nat} (hu : P.underlying t = some (.struct fs)) (hf : fs[i]? = some f) (hn : sizeT P f.type = some (n + 1)) (R o : Nat) :
    (Instr.fieldAt t (.pointer (some ⟨R, o, none⟩)) i).run P w = .ok (.pointer (some ⟨R, o + f.offset, none⟩)) w := by
  simp [Instr.fieldAt, run_underlying hu, hf, Instr.sureAddr, fieldPlace, run_sizeT hn, addr_add]

theorem partOk_inv {t : TypeId} {n : Nat} (h : partOk P t n = true) : (∃ u, P.underlying t = some u) ∧ (isAggT P t = true ∨ n = 1) := by
  unfold partOk at h
  split at h
  · rename_i fs hu; exact ⟨⟨_, hu⟩, .inl (by simp [isAggT, hu])⟩
  · rename_i m e hu; exact ⟨⟨_, hu⟩, .inl (by simp [isAggT, hu])⟩
  · rename_i u _ _ hu; exact ⟨⟨_, hu⟩, .inr (Nat.eq_of_beq_eq_true h)⟩
  · cases h

theorem cond_some {α : Type} {c : Bool} {x : Option α} {a : α} (h : (bif c then x else none) = some a) : c = true ∧ x = some a := by
  cases c
  · simp at h
  · exact ⟨rfl, by simpa using h⟩

theorem run_asIntOf (k : IntKind) (n : Int) : (asIntOf (.int k n)).run P w = .ok (k, n) w := rfl

theorem pure_sound (hE : OR g ev η) {o : Oper} {x : XPure} (hx : xop P o = some (.p x)) {a : AVal} (h : pureA ev x = some a) :
    ∃ v, (execOp η o).run P w = .ok (.value v) w ∧ VR g a v := by
  obtain ⟨dst, op, ty, pos, after, guard⟩ := o
  have mv : ∀ y : Operand, (match xopd y with | some x => some (XOp.p (.mv x)) | none => none) = some (.p x) → ∃ v, (Sem.pure (Next.value (η y)) : Sem Next).run P w = .ok (.value v) w ∧ VR g a v := by
    intro y hy
    split at hy
    · rename_i z hz
      injection hy with hy; injection hy with hy; subst hy
      simp only [pureA, Option.some.injEq] at h; subst h
      exact ⟨η y, rfl, hE _ _ hz⟩
    · cases hy
  cases op
  case move y => simp only [xop] at hx; exact mv y hx
  case assign y => simp only [xop] at hx; exact mv y hx
  case pick c y z =>
    simp only [xop] at hx
    split at hx
    · rename_i c' y' z' hc hy hz
      injection hx with hx; injection hx with hx; subst hx
      simp only [pureA] at h
      have hvc := hE _ _ hc
      split at h <;> (try (cases h; done)) <;> rename_i hev <;> rw [hev] at hvc <;> have hvc' := VR.bool_inv hvc <;> injection h with h <;> subst h
      · exact ⟨η y, by simp [execOp, hvc', asBool], hE _ _ hy⟩
      · exact ⟨η z, by simp [execOp, hvc', asBool], hE _ _ hz⟩
    · cases hx
  case build t ps =>
    simp only [xop] at hx
    split at hx
    · rename_i hc
      split at hx
      · rename_i z l hz hl
        injection hx with hx; injection hx with hx; subst hx
        simp only [pureA] at h
        split at h
        · rename_i cs hcs
          injection h with h; subst h
          obtain ⟨v, hv, hvr⟩ := build_sound (w := w) hE hc.1 hc.2 hz hl hcs
          refine ⟨v, ?_, hvr⟩
          simp only [execOp, Sem.run_bind]
          have : (ps.toList.toArray.map fun p => (p.1, η p.2)) = ps.map fun p => (p.1, η p.2) := by simp
          rw [this] at hv
          have e2 : (ps.map fun x => match x with | (i, x) => (i, η x)) = ps.map fun p => (p.1, η p.2) := rfl
          rw [e2, hv]; rfl
        · cases h
      · cases hx
    · cases hx
  case nilCheck y =>
    simp only [xop] at hx
    split at hx
    · rename_i y' hy
      injection hx with hx; injection hx with hx; subst hx
      simp only [pureA] at h
      have hv := hE _ _ hy
      split at h <;> (try (cases h; done)) <;> rename_i hev <;> rw [hev] at hv <;> injection h with h <;> subst h
      · obtain ⟨R, O, hr, e⟩ := ptr_inv hv
        exact ⟨_, by simp only [execOp, e]; rfl, by simp only [VR]; exact ⟨R, O, hr, rfl⟩⟩
      · obtain ⟨R, O, e, h1, h2⟩ := cptr_inv hv
        exact ⟨_, by simp only [execOp, e]; rfl, by simp only [VR]; exact ⟨R, O, rfl, h1, h2⟩⟩
      · have hv' := hv
        simp only [VR] at hv'
        obtain ⟨a', c', e, h1, h2⟩ := hv'
        exact ⟨_, by simp only [execOp, e]; rfl, by simp only [VR]; exact ⟨a', c', rfl, h1, h2⟩⟩
    · cases hx
  case binOp op t y z yt =>
    simp only [xop] at hx
    obtain ⟨v, hv, hvr⟩ := bin_sound (w := w) hE hx h
    refine ⟨v, ?_, hvr⟩
    simp only [execOp, Sem.run_bind]
    simp only [Sem.run_bind] at hv
    rw [hv]; rfl
  case unOp op t y =>
    cases op <;> simp only [xop, reduceCtorEq] at hx
    · -- neg
      split at hx
      · rename_i k y' hu hy
        injection hx with hx; injection hx with hx; subst hx
        simp only [pureA] at h
        have hv := hE _ _ hy
        split at h
        · rename_i j n hev
          rw [hev] at hv
          cases hjk : j == k with
          | false => simp [hjk] at h
          | true =>
            have hjk' : j = k := by simpa using hjk
            subst hjk'
            simp at h; subst h
            have hv' := VR.int_inv hv
            exact ⟨.int j (j.wrap (0 - n)), by simp [execOp, hv', Op.unary, Op.intArith], by simp [VR]⟩
        · cases h
      · cases hx
    · split at hx
      · rename_i y' hy
        injection hx with hx; injection hx with hx; subst hx
        simp only [pureA] at h
        have hv := hE _ _ hy
        split at h
        · rename_i b hev
          rw [hev] at hv
          injection h with h; subst h
          have hv' := VR.bool_inv hv
          exact ⟨.bool (!b), by simp [execOp, hv', Op.unary], by simp [VR]⟩
        · cases h
      · cases hx
  case convert s d y =>
    simp only [xop] at hx
    split at hx
    · rename_i k' k y' hs hd hy
      injection hx with hx; injection hx with hx; subst hx
      simp only [pureA] at h
      have hv := hE _ _ hy
      split at h
      · rename_i j n hev
        rw [hev] at hv
        injection h with h; subst h
        have hv' := VR.int_inv hv
        exact ⟨.int k (k.wrap n), by simp [execOp, hv', convert, run_underlying hs, run_underlying hd, Conv.intToInt], by simp [VR]⟩
      · cases h
    · cases hx
  case makeInterface t y =>
    simp only [xop] at hx
    split at hx
    · cases hx
    · rename_i d y' hni hu hy
      injection hx with hx; injection hx with hx; subst hx
      simp only [pureA, Option.some.injEq] at h; subst h
      refine ⟨.iface t (η y), ?_, by simp only [VR]; exact ⟨_, rfl, hE _ _ hy⟩⟩
      simp only [execOp, Instr.makeInterface, Sem.run_bind, run_underlying hu, Result.andThen_ok]
      cases d <;> first | rfl | (rename_i m; exact absurd rfl (hni m)) | skip
    · cases hx
  case makeFunc fn fi ca =>
    cases fn <;> simp only [xop, reduceCtorEq] at hx
    split at hx
    · rename_i a' b' ha hb
      injection hx with hx; injection hx with hx; subst hx
      simp only [pureA, Option.some.injEq] at h; subst h
      refine ⟨_, by simp only [execOp, Instr.makeFunc, Sem.run_bind, Sem.run_pure, Result.andThen_ok]; rfl, ?_⟩
      simp only [VR]
      exact ⟨_, _, rfl, by simpa using OR.list hE ha, by simpa using OR.list hE hb⟩
    · cases hx
  case slice t y lo hi mx =>
    simp only [xop] at hx
    split at hx
    · rename_i y' lo' hi' hu hy hlo hhi hmx
      injection hx with hx; injection hx with hx; subst hx
      simp only [pureA] at h
      have hm : mx = none := by have := OR.none_slice hmx; cases mx <;> simp_all
      obtain ⟨v, hv, hvr⟩ := slice_sound (P := P) (w := w) (t := t) hE hy hlo hhi hmx (.inl ⟨hu, rfl, rfl⟩) (by simp [hm]) h
      exact ⟨v, by simp only [execOp, Sem.run_bind, hv]; rfl, hvr⟩
    · rename_i e y' lo' hi' mx' hu hy hlo hhi hmx
      split at hx
      · rename_i es hes
        split at hx
        · cases hx
        · rename_i hc
          injection hx with hx; injection hx with hx; subst hx
          simp only [pureA] at h
          have h1 := OR.none_slice hmx
          have h2 := OR.none_slice hhi
          obtain ⟨v, hv, hvr⟩ := slice_sound (P := P) (w := w) (t := t) hE hy hlo hhi hmx (.inr ⟨e, es, hu, hes, rfl⟩) (by
            intro hm hh; subst hh
            cases mx with
            | none => exact hm rfl
            | some m =>
              cases hi' with
              | some q => simp at h2
              | none => cases mx' with
                | none => simp at h1
                | some q => exact hc ⟨rfl, rfl⟩) h
          exact ⟨v, by simp only [execOp, Sem.run_bind, hv]; rfl, hvr⟩
      · cases hx
    · cases hx
  case fieldAddr t y i =>
    simp only [xop] at hx
    split at hx
    · rename_i fs y' hu hy
      split at hx
      · rename_i f hf
        split at hx
        · rename_i n hn
          injection hx with hx; injection hx with hx; subst hx
          simp only [pureA] at h
          have hv := hE _ _ hy
          split at h
          · rename_i b o hev
            rw [hev] at hv
            injection h with h; subst h
            obtain ⟨R, O, hr, e⟩ := ptr_inv hv
            refine ⟨_, by simp only [execOp, e, Sem.run_bind, fieldAt_sound hu hf hn, Result.andThen_ok, Sem.run_pure]; rfl, ?_⟩
            simp only [VR]; exact ⟨R, O, hr, by rw [Nat.add_assoc]⟩
          · rename_i cs hev
            rw [hev] at hv
            obtain ⟨_, h⟩ := cond_some h
            injection h with h; subst h
            obtain ⟨R, o, e, h1, h2⟩ := cptr_inv hv
            refine ⟨_, by simp only [execOp, e, Sem.run_bind, fieldAt_sound hu hf hn, Result.andThen_ok, Sem.run_pure]; rfl, ?_⟩
            simp only [VR]; exact ⟨R, _, rfl, h1.imp (fun e => by simp [e]) id, CR.drop _ h2⟩
          · cases h
        · cases hx
      · cases hx
    · cases hx
  case field t y i =>
    simp only [xop] at hx
    split at hx
    · rename_i fs y' hu hy
      split at hx
      · rename_i f hf
        split at hx
        · rename_i n hn
          split at hx
          · rename_i hag
            injection hx with hx; injection hx with hx; subst hx
            simp only [pureA] at h
            have hv := hE _ _ hy
            split at h
            · rename_i cs hev
              rw [hev] at hv
              obtain ⟨hc, h⟩ := cond_some h
              simp only [VR] at hv
              obtain ⟨c, e, hcs⟩ := hv
              have hle := Nat.le_of_ble_eq_true hc
              obtain ⟨hun, hag⟩ := partOk_inv hag
              obtain ⟨v, hv, hvr⟩ := part_sound (w := w) hag hn hun hcs hle h
              refine ⟨v, ?_, hvr⟩
              simp only [execOp, Instr.field, Sem.run_bind, run_underlying hu, Result.andThen_ok, hf, e, asAgg, Sem.run_pure, hv]
            · cases h
          · cases hx
        · cases hx
      · cases hx
    · cases hx
  case indexAddr t y i =>
    simp only [xop] at hx
    split at hx
    · rename_i n e y' i' hu hy hi
      split at hx
      · rename_i es hes
        injection hx with hx; injection hx with hx; subst hx
        simp only [pureA] at h
        have hv := hE _ _ hy
        have hvi := hE _ _ hi
        split at h
        · rename_i b o k hev hk
          rw [hev] at hv
          obtain ⟨hc, h⟩ := cond_some h
          injection h with h; subst h
          obtain ⟨R, O, hr, e1⟩ := ptr_inv hv
          obtain ⟨kk, e2⟩ := asNat_inv hk hvi
          have hlt := Nat.le_of_ble_eq_true hc
          have hin : (0 : Int) ≤ (k : Int) ∧ (k : Int) < (n : Int) := by omega
          refine ⟨.pointer (some ⟨R, O + o + k * es, none⟩), ?_, ?_⟩
          · simp only [execOp, Instr.indexAt, e1, e2, run_asIntOf, Sem.run_bind, run_underlying hu, Result.andThen_ok, Instr.sureAddr, Sem.run_pure, if_pos hin, run_sizeT hes, Int.toNat_natCast, addr_add]
          · simp only [VR]; exact ⟨R, O, hr, by rw [Nat.add_assoc]⟩
        · rename_i cs k hev hk
          rw [hev] at hv
          obtain ⟨hc, h⟩ := cond_some h
          injection h with h; subst h
          simp only [Bool.and_eq_true] at hc
          obtain ⟨R, o, e1, h1, h2⟩ := cptr_inv hv
          obtain ⟨kk, e2⟩ := asNat_inv hk hvi
          have hlt := Nat.le_of_ble_eq_true hc.1
          have hin : (0 : Int) ≤ (k : Int) ∧ (k : Int) < (n : Int) := by omega
          refine ⟨.pointer (some ⟨R, o + k * es, none⟩), ?_, ?_⟩
          · simp only [execOp, Instr.indexAt, e1, e2, run_asIntOf, Sem.run_bind, run_underlying hu, Result.andThen_ok, Instr.sureAddr, Sem.run_pure, if_pos hin, run_sizeT hes, Int.toNat_natCast, addr_add]
          · simp only [VR]; exact ⟨R, _, rfl, h1.imp (fun e => by simp [e]) id, CR.drop _ h2⟩
        · cases h
      · cases hx
    · rename_i e y' i' hu hy hi
      split at hx
      · rename_i es hes
        injection hx with hx; injection hx with hx; subst hx
        simp only [pureA] at h
        have hv := hE _ _ hy
        have hvi := hE _ _ hi
        unfold addrSlA at h
        split at h
        · rename_i b o n ex c es' k hev hk
          rw [hev] at hv
          obtain ⟨hc, h⟩ := cond_some h
          injection h with h; subst h
          simp only [VR] at hv
          obtain ⟨R, O, rc, hr, e1, _⟩ := hv
          obtain ⟨kk, e2⟩ := asNat_inv hk hvi
          have hlt := Nat.le_of_ble_eq_true hc
          have hin : (0 : Int) ≤ (k : Int) ∧ (k : Int) < (n : Int) := by omega
          refine ⟨.pointer (some ⟨R, O + o + k * es, none⟩), ?_, ?_⟩
          · simp only [execOp, Instr.indexAt, e1, e2, run_asIntOf, Sem.run_bind, run_underlying hu, Result.andThen_ok, Sem.run_pure, if_pos hin, run_sizeT hes, Int.toNat_natCast, addr_add]
          · simp only [VR]; exact ⟨R, O, hr, by rw [Nat.add_assoc]⟩
        · rename_i n cs k hev hk
          rw [hev] at hv
          obtain ⟨hc, h⟩ := cond_some h
          injection h with h; subst h
          simp only [Bool.and_eq_true] at hc
          simp only [VR] at hv
          obtain ⟨R, o, rc, sp, e1, _, h1, h2, hsp⟩ := hv
          obtain ⟨kk, e2⟩ := asNat_inv hk hvi
          have hlt := Nat.le_of_ble_eq_true hc.1
          obtain rfl := hsp.resolve_left (by omega)
          have hin : (0 : Int) ≤ (k : Int) ∧ (k : Int) < (n : Int) := by omega
          refine ⟨.pointer (some ⟨R, o + k * es, none⟩), ?_, ?_⟩
          · simp only [execOp, Instr.indexAt, e1, e2, run_asIntOf, Sem.run_bind, run_underlying hu, Result.andThen_ok, Sem.run_pure, if_pos hin, run_sizeT hes, Int.toNat_natCast, addr_add]
          · simp only [VR]; exact ⟨R, _, rfl, h1.imp (fun e => by simp [e]) id, CR.drop _ h2⟩
        · cases h
      · cases hx
    · cases hx
  case index t y i =>
    simp only [xop] at hx
    split at hx
    · rename_i n e y' i' hu hy hi
      split at hx
      · rename_i es hes
        split at hx
        · rename_i hag
          injection hx with hx; injection hx with hx; subst hx
          simp only [pureA] at h
          have hv := hE _ _ hy
          have hvi := hE _ _ hi
          split at h
          · rename_i cs k hev hk
            rw [hev] at hv
            obtain ⟨hc, h⟩ := cond_some h
            simp only [Bool.and_eq_true] at hc
            simp only [VR] at hv
            obtain ⟨c, e1, hcs⟩ := hv
            obtain ⟨kk, e2⟩ := asNat_inv hk hvi
            have hlt := Nat.le_of_ble_eq_true hc.1
            have hle := Nat.le_of_ble_eq_true hc.2
            have hin : (0 : Int) ≤ (k : Int) ∧ (k : Int) < (n : Int) := by omega
            obtain ⟨hun, hag⟩ := partOk_inv hag
            obtain ⟨v, hv, hvr⟩ := part_sound (w := w) hag hes hun hcs hle h
            refine ⟨v, ?_, hvr⟩
            simp only [execOp, Instr.index, e1, e2, run_asIntOf, Sem.run_bind, run_underlying hu, Result.andThen_ok, if_pos hin, run_sizeT hes, Int.toNat_natCast, hv, Sem.run_pure]
          · cases h
        · cases hx
      · cases hx
    · rename_i y' i' hu hy hi
      injection hx with hx; injection hx with hx; subst hx
      simp only [pureA] at h
      have hv := hE _ _ hy
      have hvi := hE _ _ hi
      split at h
      · rename_i l k hev hk
        rw [hev] at hv
        simp only [VR] at hv
        obtain ⟨s, e1, rfl⟩ := hv
        obtain ⟨kk, e2⟩ := asNat_inv hk hvi
        split at h
        · rename_i b hb
          injection h with h; subst h
          simp only [strBytes, List.getElem?_map, Option.map_eq_some_iff] at hb
          obtain ⟨c, hc, rfl⟩ := hb
          have hc' : s[k]? = some c := by
            have hlt : k < s.data.toList.length := (List.getElem?_eq_some_iff.1 hc).1
            have hlt' : k < s.size := by simpa using hlt
            rw [getElem?_pos s k hlt']
            congr 1
            obtain ⟨_, h2⟩ := List.getElem?_eq_some_iff.1 hc
            have e3 : s[k] = s.data[k] := rfl
            rw [e3]; simpa using h2
          refine ⟨.int .u8 c.toNat, ?_, by simp [VR]⟩
          simp only [execOp, Instr.index, e1, e2, run_asIntOf, Sem.run_bind, run_underlying hu, Result.andThen_ok, Int.toNat_natCast]
          have : (0 : Int) ≤ (k : Int) := by omega
          simp only [if_pos this, hc', Sem.run_pure, Result.andThen_ok]
        · cases h
      · cases h
    · cases hx
  case extract y i =>
    simp only [xop] at hx
    split at hx
    · rename_i y' hy
      injection hx with hx; injection hx with hx; subst hx
      simp only [pureA] at h
      have hv := hE _ _ hy
      split at h
      · rename_i vs hev
        rw [hev] at hv
        simp only [VR] at hv
        obtain ⟨c, e1, hcs⟩ := hv
        obtain ⟨v, hv, hvr⟩ := VRs.get hcs h
        refine ⟨v, ?_, hvr⟩
        have : c[i]? = some v := by simpa using hv
        simp only [execOp, Instr.extract, e1, Sem.run_bind, this, Sem.run_pure, Result.andThen_ok]
      · cases h
    · cases hx
  case call c =>
    simp only [xop] at hx
    split at hx
    · rename_i args ha
      split at hx
      · rename_i b hb
        obtain ⟨v, hv, hvr⟩ := xbuiltin_p (w := w) hb ha hx hE h ty
        exact ⟨v, by simp only [execOp]; exact hv, hvr⟩
      · split at hx
        · injection hx with hx; cases hx
        · cases hx
      · cases hx
    · cases hx
  case makeMap t r => cases r <;> simp only [xop, Option.some.injEq, reduceCtorEq] at hx
  all_goals first
    | (simp only [xop, reduceCtorEq] at hx; done)
    | (simp only [xop] at hx; repeat' (split at hx)
       all_goals first | (cases hx; done) | (injection hx with hx; cases hx; done))

end
end Go.Av
end

section
/- Operations that look into memory. -/
namespace Go.Av
section
variable {P : Program} {g : Gh} {h : Heap} {ev : XOpd → AVal} {η : Operand → Value}

theorem slice_inv {α : Type} {t : Bt α} : ∀ {n i : Nat} {l : List α}, t.slice i n = some l → l.length = n ∧ ∀ j a, l[j]? = some a → t.get (i + j) = some a
  | 0, i, l, h => by simp only [Bt.slice, Option.some.injEq] at h; subst h; simp
  | n + 1, i, l, h => by
    simp only [Bt.slice] at h
    split at h
    · cases h
    · rename_i x hx
      split at h
      · cases h
      · rename_i m hm
        injection h with h; subst h
        obtain ⟨h1, h2⟩ := slice_inv hm
        refine ⟨by simp [h1], ?_⟩
        intro j a hj
        cases j with
        | zero => simp at hj; subst hj; simpa using hx
        | succ j => simp at hj; have := h2 j a hj; rw [show i + (j + 1) = i + 1 + j from by omega]; exact this

theorem CR_of {g : Gh} {R : Nat} : ∀ {cs : List AVal} {o : Nat}, (∀ j a, cs[j]? = some a → ∃ v, g.w.cell? ⟨R, o + j, none⟩ = some v ∧ VR g a v) → CR g cs R o
  | [], _, _ => by simp [CR]
  | c :: cs, o, hh => by
    simp only [CR]
    refine ⟨by simpa using hh 0 c (by simp), CR_of fun j a hj => ?_⟩
    have := hh (j + 1) a (by simpa using hj)
    rwa [show o + 1 + j = o + (j + 1) from by omega]

theorem CR_vals {g : Gh} {R : Nat} : ∀ {cs : List AVal} {o : Nat}, CR g cs R o → ∃ ds : List Value, VRs g cs ds ∧ ∀ j v, ds[j]? = some v → g.w.cell? ⟨R, o + j, none⟩ = some v
  | [], _, _ => ⟨[], by simp [VRs], by simp⟩
  | c :: cs, o, hc => by
    simp only [CR] at hc
    obtain ⟨⟨v, h1, h2⟩, hr⟩ := hc
    obtain ⟨ds, h3, h4⟩ := CR_vals hr
    refine ⟨v :: ds, by simp only [VRs]; exact ⟨v, ds, rfl, h2, h3⟩, ?_⟩
    intro j u hj
    cases j with
    | zero => simp at hj; subst hj; simpa using h1
    | succ j => simp at hj; have := h4 j u hj; rwa [show o + (j + 1) = o + 1 + j from by omega]

theorem cell_of_cells {w : World} {R i : Nat} {c : Array Value} {e : TypeId} {f : Nat × Nat} (hw : w.heap[R]? = some (Obj.cells c e f)) : w.cell? ⟨R, i, none⟩ = c[i]? := by
  simp [World.cell?, hw]

theorem cells_CR (hS : Sim g h) {b : Pos} {n : Nat} {t : Bt AVal} (hb : h.get b = some (.cells n t)) {R O : Nat} (hr : g.ρ b = some (R, O)) {o m : Nat} {cs : List AVal} (hs : t.slice o m = some cs) :
    CR g cs R (O + o) ∧ cs.length = m := by
  obtain ⟨h1, h2⟩ := slice_inv hs
  refine ⟨CR_of fun j a hj => ?_, h1⟩
  obtain ⟨R', O', c, e, hr', hw, hc⟩ := hS.blk _ _ hb
  rw [hr] at hr'; injection hr' with hr'; injection hr' with e1 e2; subst e1; subst e2
  obtain ⟨v, hv, hvr⟩ := hc _ _ (h2 j a hj)
  exact ⟨v, by rw [cell_of_cells hw, Nat.add_assoc]; exact hv, hvr⟩

theorem cellsAt_CR (hS : Sim g h) {a : AVal} {n : Nat} {cs : List AVal} (hc : cellsAt h a n = some cs) {v : Value} (hv : VR g a v) :
    ∃ R o, v = .pointer (some ⟨R, o, none⟩) ∧ CR g cs R o ∧ cs.length = n := by
  unfold cellsAt at hc
  split at hc
  · rename_i b o
    obtain ⟨R, O, hr, e⟩ := ptr_inv hv
    split at hc
    · rename_i m t hb
      obtain ⟨h1, h2⟩ := cells_CR hS hb hr hc
      exact ⟨R, O + o, e, h1, h2⟩
    · cases hc
  · rename_i l
    obtain ⟨R, o, e, h1, h2⟩ := cptr_inv hv
    obtain ⟨hb, hc⟩ := cond_some hc
    injection hc with hc; subst hc
    have := Nat.le_of_ble_eq_true hb
    exact ⟨R, o, e, CR.take _ h2, by simp; omega⟩
  · cases hc

theorem loadVar_sound {t : TypeId} {n : Nat} (hn : sizeT P t = some n) (hok : partOk P t n = true) {cs : List AVal} {R o : Nat} (hc : CR g cs R o) (hl : cs.length = n) {a : AVal} (ha : wrapA (isAggT P t) cs = some a) :
    ∃ v, (loadVar t ⟨R, o, none⟩).run P g.w = .ok v g.w ∧ VR g a v := by
  obtain ⟨⟨u, hu⟩, hag⟩ := partOk_inv hok
  obtain ⟨ds, hd, hcell⟩ := CR_vals hc
  have hlen := VRs.length hd
  simp only [loadVar, Sem.run_bind, run_isAggT hu, Result.andThen_ok]
  rcases wrapA_inv ha with ⟨h1, rfl⟩ | ⟨h1, h2⟩
  · simp only [h1, if_true, Sem.run_bind, run_sizeT hn, Result.andThen_ok]
    obtain rfl : n = ds.length := by omega
    rw [run_loadCells_list (P := P) g.w ⟨R, o, none⟩ ds (fun j v hj => by rw [addr_add]; exact hcell j v hj)]
    exact ⟨.agg ds.toArray, rfl, by simp only [VR]; exact ⟨_, rfl, by simpa using hd⟩⟩
  · subst h2
    obtain ⟨v, rfl, hv⟩ := VRs.of_one hd
    simp only [h1, Bool.false_eq_true, if_false]
    have := hcell 0 v (by simp)
    exact ⟨v, by rw [run_load]; simp only [Nat.add_zero] at this; rw [this], hv⟩

/-! keys -/
theorem valEq_cells {ag : Bool} {ks : List Scal} {a b : AVal} {r : Bool} (h : valEq ag ks a b = some r) :
    (ag = true ∧ ∃ l m, a = .agg l ∧ b = .agg m ∧ cellsEq ks l m = some r) ∨ (ag = false ∧ cellsEq ks [a] [b] = some r) := by
  unfold valEq at h
  split at h
  · exact .inl ⟨rfl, _, _, rfl, rfl, h⟩
  · exact .inr ⟨rfl, h⟩
  · cases h

theorem scalEq_ok {k : Scal} {a b : AVal} {r : Bool} (h : scalEq k a b = some r) : (∃ x y, k = .boo ∧ a = .bool x ∧ b = .bool y ∧ r = (x == y)) ∨
    (∃ j x y, k = .num j ∧ a = .int j x ∧ b = .int j y ∧ r = (x == y)) ∨ (∃ x y, k = .txt ∧ a = .str x ∧ b = .str y ∧ r = (x == y)) := by
  unfold scalEq at h
  split at h
  · rename_i x y; injection h with h; exact .inl ⟨x, y, rfl, rfl, rfl, h.symm⟩
  · rename_i k j x j' y
    obtain ⟨hc, h1⟩ := cond_some h
    injection h1 with h1
    simp only [Bool.and_eq_true, beq_iff_eq] at hc
    obtain ⟨rfl, rfl⟩ := hc
    have h := h1
    exact .inr (.inl ⟨_, x, y, rfl, rfl, rfl, h.symm⟩)
  · rename_i x y; injection h with h; exact .inr (.inr ⟨x, y, rfl, rfl, rfl, h.symm⟩)
  · cases h

/-- what is held to be the same is the same -/
theorem cellsEq_true {g : Gh} : ∀ {ks : List Scal} {a b : List AVal} {x y : List Value}, cellsEq ks a b = some true → VRs g a x → VRs g b y → x = y
  | [], [], [], x, y, _, ha, hb => by simp only [VRs] at ha hb; rw [ha, hb]
  | [], _ :: _, _, _, _, h, _, _ => by simp [cellsEq] at h
  | [], [], _ :: _, _, _, h, _, _ => by simp [cellsEq] at h
  | _ :: _, [], _, _, _, h, _, _ => by simp [cellsEq] at h
  | _ :: _, _ :: _, [], _, _, h, _, _ => by simp [cellsEq] at h
  | k :: ks, a :: l, b :: m, x, y, h, ha, hb => by
    simp only [cellsEq] at h
    split at h
    · rename_i p q hp hq
      injection h with h
      simp only [Bool.and_eq_true] at h
      obtain ⟨rfl, rfl⟩ := h
      simp only [VRs] at ha hb
      obtain ⟨u, us, rfl, hu, hus⟩ := ha
      obtain ⟨v, vs, rfl, hv, hvs⟩ := hb
      rw [cellsEq_true hq hus hvs]
      congr 1
      rcases scalEq_ok hp with ⟨x, y, _, rfl, rfl, e⟩ | ⟨j, x, y, _, rfl, rfl, e⟩ | ⟨x, y, _, rfl, rfl, e⟩
      · have : x = y := by simpa using e.symm
        subst this; rw [VR.bool_inv hu, VR.bool_inv hv]
      · have : x = y := by simpa using e.symm
        subst this; rw [VR.int_inv hu, VR.int_inv hv]
      · have : x = y := by simpa using e.symm
        subst this
        simp only [VR] at hu hv
        obtain ⟨s, rfl, hs⟩ := hu
        obtain ⟨t, rfl, ht⟩ := hv
        rw [strBytes_inj.1 (hs.trans ht.symm)]
    · cases h

theorem valEq_true {g : Gh} {ag : Bool} {ks : List Scal} {a b : AVal} {x y : Value} (h : valEq ag ks a b = some true) (ha : VR g a x) (hb : VR g b y) : x = y := by
  rcases valEq_cells h with ⟨_, l, m, rfl, rfl, h1⟩ | ⟨_, h1⟩
  · simp only [VR] at ha hb
    obtain ⟨c, rfl, hc⟩ := ha
    obtain ⟨d, rfl, hd⟩ := hb
    have := cellsEq_true h1 hc hd
    congr 1; exact Array.ext' this
  · have := cellsEq_true h1 (VRs.one ha) (VRs.one hb)
    injection this

theorem valEq_run {w : World} {t : TypeId} {ks : List Scal} {ag r : Bool} {a b : AVal} {x y : Value} (hf : flat P 6 t = some ks) (hag : isAggT P t = ag) (h : valEq ag ks a b = some r) (ha : VR g a x) (hb : VR g b y) :
    (Op.equal t x y).run P w = .ok r w := by
  rcases valEq_cells h with ⟨rfl, l, m, rfl, rfl, h⟩ | ⟨rfl, h⟩
  · simp only [VR] at ha hb
    obtain ⟨c, rfl, hc⟩ := ha
    obtain ⟨d, rfl, hd⟩ := hb
    have := run_eq_flat (w := w) 6 t ks hf 9994 _ _ _ _ r hc hd h
    simp only [mkV, hag, if_true] at this
    exact this
  · have := run_eq_flat (w := w) 6 t ks hf 9994 _ _ _ _ r (VRs.one ha) (VRs.one hb) h
    simp only [mkV, hag, Bool.false_eq_true, if_false, List.headD_cons] at this
    exact this

/-- a key of a flat type is fine -/
theorem run_check_flat {w : World} {em : Bool} : ∀ (d : Nat) (t : TypeId) (ks : List Scal), flat P d t = some ks → ∀ (D : Nat) (xs : List Value), xs.length = ks.length →
    (Instr.checkKey em (D + d) t (mkV P t xs)).run P w = .ok () w
  | 0, t, ks, h => by simp [flat] at h
  | d + 1, t, ks, h => by
    intro D xs hl
    unfold flat at h
    split at h
    · rename_i fs hu
      have hag : isAggT P t = true := by simp [isAggT, hu]
      split at h
      · cases h
      · rw [show D + (d + 1) = (D + d) + 1 from rfl, mkV, hag, if_pos rfl, Instr.checkKey]
        simp only [Sem.run_bind, run_underlying hu, Result.andThen_ok]
        rw [← Array.forIn_toList]
        have key : ∀ (fs : List Field) (off : Nat) (ks : List Scal), flat.flatFields P (flat P d) fs off = some ks → off + ks.length ≤ xs.length →
            (forIn fs PUnit.unit (fun f (_ : PUnit) => (if f.name ≠ "_" then do Instr.checkKey em (D + d) f.type (← part f.type ⟨xs⟩ f.offset); pure (ForInStep.yield PUnit.unit) else pure (ForInStep.yield PUnit.unit) : Sem (ForInStep PUnit)))).run P w = .ok PUnit.unit w := by
          intro fs
          induction fs with
          | nil => intro off ks _ _; simp
          | cons f fs ih =>
            intro off ks hf hle
            simp only [flat.flatFields] at hf
            split at hf
            · rename_i k1 m hk hm
              split at hf
              · rename_i hc
                obtain ⟨hn, ho, hmk⟩ := hc
                split at hf
                · rename_i r hr
                  injection hf with hf; subst hf; subst hmk
                  obtain ⟨⟨u, hu'⟩, hg⟩ := flat_size hk
                  simp only [List.length_append] at hle
                  have hp : (part f.type ⟨xs⟩ off).run P w = .ok (mkV P f.type ((xs.drop off).take k1.length)) w := by
                    by_cases hk0 : k1.length = 0
                    · have hagg : isAggT P f.type = true := hg.resolve_right (by omega)
                      simp only [part, Sem.run_bind, run_isAggT hu', Result.andThen_ok, hagg, if_true, run_sizeT hm, Sem.run_pure, mkV, hk0]
                      congr 2
                      simp
                    · exact run_part' hu' hm hg xs off (by omega)
                  have h2 := run_check_flat (w := w) (em := em) d f.type k1 hk D ((xs.drop off).take k1.length) (by simp; omega)
                  simp only [List.forIn_cons, Sem.run_bind, hn, ne_eq, not_false_eq_true, if_true, ho, hp, Result.andThen_ok, h2, Sem.run_pure]
                  exact ih _ r hr (by omega)
                · cases hf
              · cases hf
            · cases hf
        rw [key fs.toList 0 ks h (by omega)]; rfl
    · rename_i n e hu
      have hag : isAggT P t = true := by simp [isAggT, hu]
      split at h
      · rename_i k1 m hk hm
        split at h
        · rename_i hmk
          injection h with h; subst h; subst hmk
          rw [show D + (d + 1) = (D + d) + 1 from rfl, mkV, hag, if_pos rfl, Instr.checkKey]
          simp only [Sem.run_bind, run_underlying hu, Result.andThen_ok]
          simp only [Std.Legacy.Range.forIn_eq_forIn_range', Std.Legacy.Range.size, Nat.sub_zero, Nat.add_one_sub_one, Nat.div_one]
          obtain ⟨⟨u, hu'⟩, hg⟩ := flat_size hk
          have hrep : ∀ n, (flat.rep n k1).length = n * k1.length := by
            intro n; induction n with
            | zero => simp [flat.rep]
            | succ n ih => simp [flat.rep, ih, Nat.add_mul]; omega
          rw [hrep] at hl
          have key : ∀ (n i : Nat), (i + n) * k1.length ≤ xs.length →
              (forIn (List.range' i n) PUnit.unit (fun j (_ : PUnit) => (do Instr.checkKey em (D + d) e (← part e ⟨xs⟩ (j * (← sizeOf e))); pure (ForInStep.yield PUnit.unit) : Sem (ForInStep PUnit)))).run P w = .ok PUnit.unit w := by
            intro n
            induction n with
            | zero => intro i _; simp
            | succ n ih =>
              intro i hle
              have hle1 : i * k1.length + k1.length ≤ xs.length := by
                have : (i + 1) * k1.length ≤ (i + (n + 1)) * k1.length := Nat.mul_le_mul_right _ (by omega)
                rw [Nat.add_mul] at this; omega
              have hp : (part e ⟨xs⟩ (i * k1.length)).run P w = .ok (mkV P e ((xs.drop (i * k1.length)).take k1.length)) w := by
                by_cases hk0 : k1.length = 0
                · have hagg : isAggT P e = true := hg.resolve_right (by omega)
                  simp only [part, Sem.run_bind, run_isAggT hu', Result.andThen_ok, hagg, if_true, run_sizeT hm, Sem.run_pure, mkV, hk0]
                  congr 2
                  simp
                · exact run_part' hu' hm hg xs _ hle1
              have h2 := run_check_flat (w := w) (em := em) d e k1 hk D ((xs.drop (i * k1.length)).take k1.length) (by simp; omega)
              simp only [List.range'_succ, List.forIn_cons, Sem.run_bind, run_sizeT hm, Result.andThen_ok, hp, h2, Sem.run_pure]
              exact ih (i + 1) (by rw [show i + 1 + n = i + (n + 1) from by omega]; exact hle)
          rw [key n 0 (by simp; omega)]; rfl
        · cases h
      · cases h
    · rename_i s hn1 hn2 hu
      split at h
      · rename_i sc hs
        have hag : isAggT P t = false := by
          rcases scalT_underlying hs with ⟨rfl, rfl⟩ | ⟨k, rfl, rfl⟩ | ⟨rfl, rfl⟩ <;> simp [isAggT, hu]
        rw [show D + (d + 1) = (D + d) + 1 from rfl, mkV, hag, Instr.checkKey]
        simp only [Sem.run_bind, run_underlying hu, Result.andThen_ok]
        rcases scalT_underlying hs with ⟨rfl, rfl⟩ | ⟨k, rfl, rfl⟩ | ⟨rfl, rfl⟩ <;> simp
      · cases h
    · cases h

end
end Go.Av
end

section
/- Maps: looked up. -/
namespace Go.Av

def idxA (ag : Bool) (ks : List Scal) (k : AVal) : List (AVal × AVal) → Option (Option Nat)
  | [] => some none
  | (k', _) :: l => match valEq ag ks k k' with
    | some true => some (some 0)
    | some false => match idxA ag ks k l with
      | some (some j) => some (some (j + 1))
      | some none => some none
      | none => none
    | none => none

theorem findA_idx {ag : Bool} {ks : List Scal} {k : AVal} : ∀ {l : List (AVal × AVal)} {r : Option AVal}, findA ag ks k l = some r →
    (r = none ∧ idxA ag ks k l = some none) ∨ (∃ j k' v, r = some v ∧ idxA ag ks k l = some (some j) ∧ l[j]? = some (k', v))
  | [], r, h => by simp only [findA, Option.some.injEq] at h; exact .inl ⟨h.symm, rfl⟩
  | (k', v) :: l, r, h => by
    simp only [findA] at h
    split at h
    · rename_i he
      injection h with h; subst h
      exact .inr ⟨0, k', v, rfl, by simp [idxA, he], by simp⟩
    · rename_i he
      rcases findA_idx h with ⟨h1, h2⟩ | ⟨j, k'', v', h1, h2, h3⟩
      · exact .inl ⟨h1, by simp [idxA, he, h2]⟩
      · exact .inr ⟨j + 1, k'', v', h1, by simp [idxA, he, h2], by simpa using h3⟩
    · cases h

theorem putA_idx {ag : Bool} {ks : List Scal} {k v : AVal} : ∀ {l l' : List (AVal × AVal)}, putA ag ks k v l = some l' →
    (idxA ag ks k l = some none ∧ l' = l ++ [(k, v)]) ∨ (∃ j x, idxA ag ks k l = some (some j) ∧ l[j]? = some x ∧ valEq ag ks k x.1 = some true ∧ l' = l.set j (k, v))
  | [], l', h => by simp only [putA, Option.some.injEq] at h; exact .inl ⟨rfl, h.symm⟩
  | (k', v') :: l, l', h => by
    simp only [putA] at h
    split at h
    · rename_i he
      injection h with h; subst h
      exact .inr ⟨0, (k', v'), by simp [idxA, he], by simp, he, by simp⟩
    · rename_i he
      split at h
      · rename_i m hm
        injection h with h; subst h
        rcases putA_idx hm with ⟨h1, h2⟩ | ⟨j, x, h1, h2, h3, h4⟩
        · exact .inl ⟨by simp [idxA, he, h1], by simp [h2]⟩
        · exact .inr ⟨j + 1, x, by simp [idxA, he, h1], by simpa using h2, h3, by simp [h4]⟩
      · cases h
    · cases h

section
variable {P : Program} {g : Gh} {w : World}

theorem beq_bytes (a b : ByteArray) : (a == b) = (strBytes a == strBytes b) := by rw [beq_toListBytes, beq_strBytes]

theorem sameNow_sound {u : TypeDesc} {s : Scal} (hs : scalT u = some s) {a b : AVal} {x y : Value} {r : Bool} (h : valEq false [s] a b = some r) (ha : VR g a x) (hb : VR g b y) : Instr.sameNow u x y = some r := by
  simp only [valEq, cellsEq] at h
  split at h
  · rename_i p q hp hq
    injection hq with hq; subst hq
    simp at h; subst h
    rcases scalT_underlying hs with ⟨rfl, rfl⟩ | ⟨k, rfl, rfl⟩ | ⟨rfl, rfl⟩ <;>
    rcases scalEq_ok hp with ⟨m, n, e, rfl, rfl, rfl⟩ | ⟨j, m, n, e, rfl, rfl, rfl⟩ | ⟨m, n, e, rfl, rfl, rfl⟩ <;> (try (cases e; done)) <;> simp only [VR] at ha hb
    · subst ha; subst hb; rfl
    · subst ha; subst hb; simp [Instr.sameNow]
    · obtain ⟨s1, rfl, rfl⟩ := ha; obtain ⟨s2, rfl, rfl⟩ := hb
      simp only [Instr.sameNow, beq_bytes]
  · cases h

theorem findNow_sound {u : TypeDesc} {s : Scal} (hs : scalT u = some s) {k : AVal} {key : Value} (hk : VR g k key) : ∀ {l : List (AVal × AVal)} {es : List MapEntry} {r : Option Nat} (i : Nat),
    MR g l es → idxA false [s] k l = some r → ∃ res, Instr.findNow u key es i = some res ∧ (r = none → res = none) ∧ (∀ j, r = some j → ∃ e, es[j]? = some e ∧ res = some (i + j, e.val))
  | [], es, r, i, hm, h => by
    simp only [MR] at hm; subst hm
    simp only [idxA, Option.some.injEq] at h; subst h
    exact ⟨none, rfl, fun _ => rfl, by simp⟩
  | (k', v) :: l, es, r, i, hm, h => by
    obtain ⟨e, es', rfl, h1, h2, h3⟩ := hm
    simp only [idxA] at h
    split at h
    · rename_i he
      injection h with h; subst h
      refine ⟨some (i, e.val), by simp [Instr.findNow, sameNow_sound hs he hk h1], by simp, ?_⟩
      intro j hj; injection hj with hj; subst hj; exact ⟨e, by simp, by simp⟩
    · rename_i he
      have hsn := sameNow_sound hs he hk h1
      split at h
      · rename_i j hj
        injection h with h; subst h
        obtain ⟨res, g1, g2, g3⟩ := findNow_sound hs hk (i + 1) h3 hj
        refine ⟨res, by simp [Instr.findNow, hsn, g1], by simp, ?_⟩
        intro j' hj'; injection hj' with hj'; subst hj'
        obtain ⟨e', g4, g5⟩ := g3 j rfl
        exact ⟨e', by simpa using g4, by rw [g5, show i + 1 + j = i + (j + 1) from by omega]⟩
      · rename_i hj
        injection h with h; subst h
        obtain ⟨res, g1, g2, g3⟩ := findNow_sound hs hk (i + 1) h3 hj
        exact ⟨res, by simp [Instr.findNow, hsn, g1], g2, by simp⟩
      · cases h
    · cases h

theorem findAsking_sound {t : TypeId} {ks : List Scal} {ag : Bool} (hf : flat P 6 t = some ks) (hag : isAggT P t = ag) {k : AVal} {key : Value} (hk : VR g k key) :
    ∀ {l : List (AVal × AVal)} {es : List MapEntry} {r : Option Nat} (i : Nat), MR g l es → idxA ag ks k l = some r →
      ∃ res, (Instr.findAsking t key es i).run P w = .ok res w ∧ (r = none → res = none) ∧ (∀ j, r = some j → ∃ e, es[j]? = some e ∧ res = some (i + j, e.val))
  | [], es, r, i, hm, h => by
    simp only [MR] at hm; subst hm
    simp only [idxA, Option.some.injEq] at h; subst h
    exact ⟨none, by simp [Instr.findAsking], fun _ => rfl, by simp⟩
  | (k', v) :: l, es, r, i, hm, h => by
    obtain ⟨e, es', rfl, h1, h2, h3⟩ := hm
    simp only [idxA] at h
    split at h
    · rename_i he
      injection h with h; subst h
      refine ⟨some (i, e.val), by simp [Instr.findAsking, valEq_run (w := w) hf hag he hk h1], by simp, ?_⟩
      intro j hj; injection hj with hj; subst hj; exact ⟨e, by simp, by simp⟩
    · rename_i he
      have hsn := valEq_run (w := w) hf hag he hk h1
      split at h
      · rename_i j hj
        injection h with h; subst h
        obtain ⟨res, g1, g2, g3⟩ := findAsking_sound hf hag hk (i + 1) h3 hj
        refine ⟨res, by simp [Instr.findAsking, hsn, g1], by simp, ?_⟩
        intro j' hj'; injection hj' with hj'; subst hj'
        obtain ⟨e', g4, g5⟩ := g3 j rfl
        exact ⟨e', by simpa using g4, by rw [g5, show i + 1 + j = i + (j + 1) from by omega]⟩
      · rename_i hj
        injection h with h; subst h
        obtain ⟨res, g1, g2, g3⟩ := findAsking_sound hf hag hk (i + 1) h3 hj
        exact ⟨res, by simp [Instr.findAsking, hsn, g1], g2, by simp⟩
      · cases h
    · cases h

theorem findKey_sound {t : TypeId} {ks : List Scal} {ag : Bool} (hf : flat P 6 t = some ks) (hag : isAggT P t = ag) {k : AVal} {key : Value} (hk : VR g k key)
    {l : List (AVal × AVal)} {es : List MapEntry} {r : Option Nat} (hm : MR g l es) (h : idxA ag ks k l = some r) :
    ∃ res, (Instr.findKey t key es).run P w = .ok res w ∧ (r = none → res = none) ∧ (∀ j, r = some j → ∃ e, es[j]? = some e ∧ res = some (j, e.val)) := by
  obtain ⟨⟨u, hu⟩, _⟩ := flat_size hf
  simp only [Instr.findKey, Sem.run_bind, run_underlying hu, Result.andThen_ok]
  have ask := findAsking_sound (w := w) hf hag hk 0 hm h
  simp only [Nat.zero_add] at ask
  cases hfn : Instr.findNow u key es 0 with
  | none => simpa using ask
  | some res0 =>
    simp only [Sem.run_pure]
    cases hs : scalT u with
    | some s =>
      have hks : ks = [s] ∧ ag = false := by
        unfold flat at hf
        rw [hu] at hf
        rcases scalT_underlying hs with ⟨rfl, rfl⟩ | ⟨k, rfl, rfl⟩ | ⟨rfl, rfl⟩ <;> simp [scalT] at hf <;> exact ⟨hf.symm, by rw [← hag]; simp [isAggT, hu]⟩
      obtain ⟨rfl, rfl⟩ := hks
      obtain ⟨res, g1, g2, g3⟩ := findNow_sound hs hk 0 hm h
      rw [hfn] at g1; injection g1 with g1; subst g1
      exact ⟨res0, rfl, g2, fun j hj => by obtain ⟨e, h1, h2⟩ := g3 j hj; exact ⟨e, h1, by simpa using h2⟩⟩
    | none =>
      cases es with
      | nil =>
        simp only [Instr.findNow, Option.some.injEq] at hfn; subst hfn
        cases l with
        | nil => simp only [idxA, Option.some.injEq] at h; subst h; exact ⟨none, rfl, fun _ => rfl, by simp⟩
        | cons x l => simp [MR] at hm
      | cons e es' =>
        exfalso
        simp only [Instr.findNow] at hfn
        have : Instr.sameNow u key e.key = none := by
          unfold Instr.sameNow
          cases u <;> simp [scalT] at hs <;> simp
        rw [this] at hfn; simp at hfn

theorem checkKey_sound {t : TypeId} {ks : List Scal} {ag em : Bool} (hf : flat P 6 t = some ks) (hag : isAggT P t = ag) {k : AVal} {key : Value} (hk : VR g k key) (hok : keyOk ag ks k = true) :
    (Instr.checkKey em 10000 t key).run P w = .ok () w := by
  unfold keyOk at hok
  split at hok
  · rename_i r hr
    rcases valEq_cells hr with ⟨rfl, l, m, rfl, _, h⟩ | ⟨rfl, h⟩
    · simp only [VR] at hk
      obtain ⟨c, rfl, hc⟩ := hk
      have hl := (cellsEq_len h).1
      have := run_check_flat (w := w) (em := em) 6 t ks hf 9994 c.toList (by rw [← VRs.length hc]; exact hl)
      simp only [mkV, hag, if_true] at this
      exact this
    · have hl := (cellsEq_len h).1
      have := run_check_flat (w := w) (em := em) 6 t ks hf 9994 [key] (by simpa using hl)
      simp only [mkV, hag, Bool.false_eq_true, if_false, List.headD_cons] at this
      exact this
  · cases hok

theorem MR.get : ∀ {l : List (AVal × AVal)} {es : List MapEntry} {j : Nat} {x : AVal × AVal} {e : MapEntry}, MR g l es → l[j]? = some x → es[j]? = some e → VR g x.1 e.key ∧ VR g x.2 e.val
  | [], es, j, x, e, h, hx, he => by simp at hx
  | (k, v) :: l, es, j, x, e, h, hx, he => by
    obtain ⟨e0, es', rfl, h1, h2, h3⟩ := h
    cases j with
    | zero => simp at hx he; subst hx; subst he; exact ⟨h1, h2⟩
    | succ j => simp at hx he; exact MR.get h3 hx he
theorem MR.length : ∀ {l : List (AVal × AVal)} {es : List MapEntry}, MR g l es → l.length = es.length
  | [], es, h => by simp only [MR] at h; simp [h]
  | (k, v) :: l, es, h => by obtain ⟨e0, es', rfl, h1, h2, h3⟩ := h; simp [MR.length h3]

end
end Go.Av
end

section
/- Operations that look into memory are as the evaluator says. -/
namespace Go.Av
section
variable {P : Program} {g : Gh} {h : Heap} {ev : XOpd → AVal} {η : Operand → Value}

theorem map_of (hS : Sim g h) {m : Pos} {es : List (AVal × AVal)} (hm : h.get m = some (.map es)) {v : Value} (hv : VR g (.map m) v) :
    ∃ (R : Nat) (es' : Array MapEntry) (clock : Nat), v = .map (some R) ∧ g.w.heap[R]? = some (Obj.map es' clock) ∧ MR g es es'.toList ∧ ∃ O, g.ρ m = some (R, O) := by
  obtain ⟨R, O, es', clock, hr, hw, hm'⟩ := hS.blk _ _ hm
  simp only [VR] at hv
  obtain ⟨R', O', hr', rfl⟩ := hv
  rw [hr] at hr'; injection hr' with hr'; injection hr' with e1 e2; subst e1; subst e2
  exact ⟨R, es', clock, rfl, hw, hm', O, hr⟩

theorem run_getObj_map {w : World} {R : Nat} {es : Array MapEntry} {clock : Nat} (hw : w.heap[R]? = some (Obj.map es clock)) : (getObj R).run P w = .ok (.map es clock) w := by
  simp [getObj, Sem.run, hw]

theorem xbin_eq_p {t : TypeId} {x y : Operand} {neg : Bool} {d : TypeDesc} {p q : XOpd} {r : XOp} (h : xbin.eq P t x y neg d p q = some r) : ∃ px, r = .p px := by
  have e1 : ∀ {c : Option (List Scal)}, (match c with | some ks => if P.eqGuardType P.depth t then none else some (XOp.p (.eqs neg (isAggT P t) ks p q)) | none => none) = some r → ∃ px, r = .p px := by
    intro c hc
    split at hc
    · split at hc
      · cases hc
      · injection hc with hc; exact ⟨_, hc.symm⟩
    · cases hc
  cases d <;> simp only [xbin.eq, reduceCtorEq, Option.some.injEq] at h <;> first
    | exact ⟨_, h.symm⟩
    | exact e1 h

theorem xbin_p {op : BinOp} {t : TypeId} {x y : Operand} {r : XOp} (h : xbin P op t x y = some r) : ∃ px, r = .p px := by
  unfold xbin at h
  repeat' (split at h)
  all_goals first
    | (cases h; done)
    | (injection h with h; exact ⟨_, h.symm⟩)
    | exact xbin_eq_p h

theorem run_lookup {w : World} {t kt e : TypeId} (hu : P.underlying t = some (.map kt e)) {v key zv : Value} {es' : Array MapEntry}
    (hmap : (v = .map none ∧ es' = #[]) ∨ ∃ R clock, v = .map (some R) ∧ w.heap[R]? = some (Obj.map es' clock))
    (hck : (Instr.checkKey es'.isEmpty 10000 kt key).run P w = .ok () w) {res : Option (Nat × Value)} (hf : (Instr.findKey kt key es'.toList).run P w = .ok res w) (hz : (zeroValue e).run P w = .ok zv w) (ok : Bool) :
    (Instr.lookup t v key ok).run P w = .ok (match res with | some (_, x) => (if ok then .tuple #[x, .bool true] else x) | none => (if ok then .tuple #[zv, .bool false] else zv)) w := by
  rcases hmap with ⟨rfl, rfl⟩ | ⟨R, clock, rfl, hw⟩
  · simp only [Instr.lookup, Sem.run_bind, run_underlying hu, Result.andThen_ok, Sem.run_pure, hck, hf]
    cases res <;> simp [hz]
  · simp only [Instr.lookup, Sem.run_bind, run_underlying hu, Result.andThen_ok, run_getObj_map hw, Sem.run_pure, hck, hf]
    cases res <;> simp [hz]

theorem read_sound (hS : Sim g h) (hE : OR g ev η) {o : Oper} {x : XRead} (hx : xop P o = some (.r x)) {a : AVal} (ha : readA h ev x = some a) :
    ∃ v, (execOp η o).run P g.w = .ok (.value v) g.w ∧ VR g a v := by
  obtain ⟨dst, op, ty, pos, after, guard⟩ := o
  cases op
  case load t y =>
    simp only [xop] at hx
    split at hx
    · rename_i n y' hn hy
      split at hx
      · rename_i hok
        injection hx with hx; injection hx with hx; subst hx
        simp only [readA] at ha
        split at ha
        · rename_i cs hcs
          obtain ⟨R, o, e, hc, hl⟩ := cellsAt_CR hS hcs (hE _ _ hy)
          obtain ⟨v, hv, hvr⟩ := loadVar_sound hn hok hc hl ha
          exact ⟨v, by simp only [execOp, Instr.loadAt, e, Instr.sureAddr, Sem.run_bind, Sem.run_pure, Result.andThen_ok, hv], hvr⟩
        · cases ha
      · cases hx
    · cases hx
  case lookup t m k ok =>
    simp only [xop] at hx
    split at hx
    · rename_i kt e m' k' hu hm hk
      split at hx
      · rename_i ks z hks hz
        injection hx with hx; injection hx with hx; subst hx
        simp only [readA] at ha
        obtain ⟨hok, ha⟩ := cond_some ha
        have hvm := hE _ _ hm
        have hvk := hE _ _ hk
        obtain ⟨zv, hzr, hzo⟩ := run_zeroT' (w := g.w) hz
        have hzv := ofValue_VR g zv z hzo
        split at ha
        · cases ha
        · rename_i es hes
          have hmap : ∃ es' : Array MapEntry, ((η m = .map none ∧ es' = #[]) ∨ ∃ R clock, η m = .map (some R) ∧ g.w.heap[R]? = some (Obj.map es' clock)) ∧ MR g es es'.toList := by
            split at hes
            · rename_i hev
              injection hes with hes; subst hes
              rw [hev] at hvm
              simp only [VR] at hvm
              exact ⟨#[], .inl ⟨hvm, rfl⟩, by simp [MR]⟩
            · rename_i mm hev
              split at hes
              · rename_i es0 hg
                injection hes with hes; subst hes
                rw [hev] at hvm
                obtain ⟨R, es', clock, e1, hw, hmr, _⟩ := map_of hS hg hvm
                exact ⟨es', .inr ⟨R, clock, e1, hw⟩, hmr⟩
              · cases hes
            · cases hes
          obtain ⟨es', hrun, hmr⟩ := hmap
          split at ha
          · cases ha
          · rename_i r hr
            have hck := checkKey_sound (w := g.w) (em := es'.isEmpty) hks rfl hvk hok
            rcases findA_idx hr with ⟨rfl, hi⟩ | ⟨j, k'', v, rfl, hi, hj⟩
            · obtain ⟨res, h1, h2, h3⟩ := findKey_sound (w := g.w) hks rfl hvk hmr hi
              have hres := h2 rfl
              subst hres
              cases ok
              · injection ha with ha; subst ha
                refine ⟨zv, ?_, hzv⟩
                simp [execOp, run_lookup hu hrun hck h1 hzr]
              · injection ha with ha; subst ha
                refine ⟨.tuple #[zv, .bool false], ?_, by simp only [VR]; exact ⟨_, rfl, by simp only [VRs]; exact ⟨zv, _, rfl, hzv, .bool false, [], rfl, by simp only [VR], rfl⟩⟩⟩
                simp [execOp, run_lookup hu hrun hck h1 hzr]
            · obtain ⟨res, h1, h2, h3⟩ := findKey_sound (w := g.w) hks rfl hvk hmr hi
              obtain ⟨e', h4, h5⟩ := h3 j rfl
              subst h5
              have hval := (MR.get hmr hj h4).2
              cases ok
              · injection ha with ha; subst ha
                refine ⟨e'.val, ?_, hval⟩
                simp [execOp, run_lookup hu hrun hck h1 hzr]
              · injection ha with ha; subst ha
                refine ⟨.tuple #[e'.val, .bool true], ?_, by simp only [VR]; exact ⟨_, rfl, by simp only [VRs]; exact ⟨e'.val, _, rfl, hval, .bool true, [], rfl, by simp only [VR], rfl⟩⟩⟩
                simp [execOp, run_lookup hu hrun hck h1 hzr]
      · cases hx
    · cases hx
  case call c =>
    simp only [xop] at hx
    split at hx
    · rename_i args hargs
      split at hx
      · rename_i b hb
        have hargs' := OR.list hE hargs
        have hres : ∃ cs, (resolve η c ty).run P g.w = .ok { target := .builtin b c.argTypes ty cs, args := c.args.map η } g.w := ⟨_, by simp only [resolve, hb]; rfl⟩
        obtain ⟨cs, hres⟩ := hres
        have hal : (c.args.map η).toList = c.args.toList.map η := by simp
        unfold xbuiltin at hx
        split at hx
        · rename_i y
          simp only [List.map_cons, List.map_nil] at hargs'
          obtain ⟨v, hv, hvr⟩ := VRs.of_one hargs'
          have hav : c.args.map η = #[v] := Array.ext' (by rw [hal, hv])
          split at hx
          · rename_i t ht
            split at hx
            · injection hx with hx; cases hx
            · injection hx with hx; cases hx
            · injection hx with hx; cases hx
            · rename_i kt e hu
              injection hx with hx; injection hx with hx; subst hx
              simp only [readA] at ha
              split at ha
              · rename_i hev
                injection ha with ha; subst ha
                rw [hev] at hvr; simp only [VR] at hvr; subst hvr
                exact ⟨.int .i64 0, by simp [execOp, hres, invoke, builtin, Builtin.len_, ht, hav, run_underlying hu, goInt], by simp [VR]⟩
              · rename_i m hev
                split at ha
                · rename_i es hg
                  injection ha with ha; subst ha
                  rw [hev] at hvr
                  obtain ⟨R, es', clock, e1, hw, hmr, _⟩ := map_of hS hg hvr
                  subst e1
                  refine ⟨.int .i64 es'.size, by simp [execOp, hres, invoke, builtin, Builtin.len_, ht, hav, run_underlying hu, goInt, run_getObj_map hw], ?_⟩
                  simp [VR, MR.length hmr]
                · cases ha
              · cases ha
            · cases hx
          · cases hx
        all_goals
          repeat' (split at hx)
          all_goals first | (cases hx; done) | (injection hx with hx; cases hx; done)
      · split at hx
        · injection hx with hx; cases hx
        · cases hx
      · cases hx
    · cases hx
  case binOp op t y z yt =>
    simp only [xop] at hx
    obtain ⟨px, hp⟩ := xbin_p hx
    cases hp
  case makeMap t r => cases r <;> simp only [xop, Option.some.injEq, reduceCtorEq] at hx
  case unOp u t y =>
    cases u <;> simp only [xop, reduceCtorEq] at hx <;> (repeat' (split at hx))
    all_goals first | (cases hx; done) | (injection hx with hx; cases hx; done)
  case makeFunc fn b c =>
    cases fn <;> simp only [xop, reduceCtorEq] at hx <;> (repeat' (split at hx))
    all_goals first | (cases hx; done) | (injection hx with hx; cases hx; done)
  all_goals first
    | (simp only [xop, reduceCtorEq] at hx; done)
    | (simp only [xop] at hx; repeat' (split at hx)
       all_goals first | (cases hx; done) | (injection hx with hx; cases hx; done))

end
end Go.Av
end
