/- Regions that draw their order in which two steps of the heap wait for one another in no way. -/
import Derived.Test.YthdamnemoaaigaaCmDraw
set_option linter.unusedVariables false
set_option linter.unusedSimpArgs false
namespace Go.Proofs.Ythdamnemoaaigaa.Cm
open Go.RowKit Go.Proofs.YthdamnemoaaigaaW.PrintLast
section
variable {P : Program} {T : Tab} {σ : Heap} {ops : Array Oper} {ts0 : List DV} {KK0 : List DV → Heap → Prop}
/-- One order's state. -/
def Ist (P : Program) (T : Tab) (ops : Array Oper) (ts0 : List DV) (K : List DV → Heap → Prop) (B : List (List Nat)) (sched : List Nat) (c : Cf) (b : Nat → Bool) (a : Act) (w : World) : Prop := ∃ pre rest fl ts' σ' c', Stage P T ops B ts0 K sched pre rest fl ts' σ' b ∧ HeadCore T ops ts' rest ∧ Ok P c' ∧ c'.σ = σ' ∧ c'.w = w ∧ Ev c c' ∧ TR c' (sel ops ts0 ts' b) a
theorem Ist.step (hT : TOk P T) {B : List (List Nat)} {sched : List Nat} (hd : DrawOk T ops sched B) {c : Cf} {b : Nat → Bool} {a : Act} {w : World} {i : Nat} {oi : Oper} (hI : Ist P T ops ts0 KK0 B sched c b a w) (hoi : ops[i]? = some oi) (hbi : b i = false)
    (hon : ∀ j, j < ops.size → bitOf B i j = true → b j = true) (hoff : ∀ d, d < ops.size → bitOf B d i = true → b d = false) {Q : Exit → Act → World → Prop} (KK : Act → World → Prop) (hKK : ∀ a' w', Ist P T ops ts0 KK0 B sched c (up b i) a' w' → KK a' w') :
    if Region.wanted oi (yielded ops a.tmps) = true then Oper.wp P oi a w KK Q else KK (a.put oi.dst undef) w := by
  have hin : i < ops.size := (Array.getElem?_eq_some_iff.1 hoi).1
  obtain ⟨pre, rest, fl, ts', σ', c', hst, hhead, hok', rfl, rfl, hev', hTR'⟩ := hI
  have hmem := hd.perm i hin
  rw [hst.split] at hmem
  rcases List.mem_append.1 hmem with hpre | hrest
  · -- it was taken ahead: slots as they were told
    obtain ⟨p, q, hpq⟩ := List.append_of_mem hpre
    obtain ⟨g, hg, hgf, hgt⟩ := hst.recs p i q oi hpq hbi hoi
    have hag := sel_agree (b := b) (ts0 := ts0) hd hst.len (by rw [hst.split, hpq, List.append_assoc]; rfl) hoi hbi hon hoff
    have hir : i ∉ rest := fun hm => by
      have := hst.rest_off i hm
      have hnd := hd.nodup
      rw [hst.split] at hnd
      exact (List.nodup_append.1 hnd).2.2 i hpre i hm rfl
    have hgb : gon ops (sel ops ts0 ts' b) oi.guard = some g := by rw [hag.gon]; exact hg
    have hwant := wanted_gon hTR' hgb
    rw [hwant]
    cases g with
    | false =>
      simp only [Bool.false_eq_true, if_false]
      refine hKK _ _ ⟨pre, rest, fl, ts', c'.σ, c', hst.mark hir, hhead, hok', rfl, rfl, hev', ?_⟩
      rw [sel_up hst.len hoi (fun d hdd hlt => hgf rfl d hdd hlt)]
      exact hTR'.put oi.dst V_undef
    | true =>
      simp only [if_true]
      obtain ⟨hne, x, hx, hxs⟩ := hgt rfl
      have hx' : aop T oi (sel ops ts0 ts' b) c'.σ = some (x, c'.σ) := by rw [← hx]; exact aop_congr (fun z hz => hag.eval hz)
      have hop : AOp P oi (sel ops ts0 ts' b) c'.σ (fun y τ => y = x ∧ τ = c'.σ) := aop_sound hT hx' ⟨rfl, rfl⟩
      refine hop c' hok' rfl a hTR' _ _ (fun v y c2 h1 h2 h3 h4 => hKK _ _ ?_)
      obtain ⟨rfl, hσ2⟩ := h4
      refine ⟨pre, rest, fl, ts', c'.σ, c2, hst.mark hir, hhead, h1, hσ2, rfl, hev'.trans h2, ?_⟩
      rw [sel_up hst.len hoi hxs]
      exact (hTR'.ev h2).put oi.dst h3
  · -- it is the head
    cases rest with
    | nil => cases hrest
    | cons h0 rest =>
      obtain ⟨o0, ho0, hg0, hk0⟩ := hhead
      have hi0 : i = h0 := by
        rcases List.mem_cons.1 hrest with e | hm
        · exact e
        · exfalso
          obtain ⟨p, q, hpq⟩ := List.append_of_mem hm
          have hbit := hd.asap (pre ++ h0 :: p) i q (by rw [hst.split, hpq]; simp) h0 o0 (by simp) ho0 hk0
          have h0n : h0 < ops.size := (Array.getElem?_eq_some_iff.1 ho0).1
          have := hon h0 h0n hbit
          rw [hst.rest_off h0 List.mem_cons_self] at this
          cases this
      subst hi0
      rw [hoi] at ho0; cases ho0
      have hag := sel_agree (b := b) (ts0 := ts0) hd hst.len hst.split hoi hbi hon hoff
      rw [hst.cur] at hag
      have hgb : gon ops (sel ops ts0 ts' b) oi.guard = some true := by rw [hag.gon]; exact hg0
      have hwant := wanted_gon hTR' hgb
      rw [hwant]
      simp only [if_true]
      have hgo := hst.go
      unfold dops at hgo
      simp only [hoi, hg0, hk0] at hgo
      have hop := hgo (sel ops ts0 ts' b) (fun z hz => hag.eval hz)
      refine hop c' hok' rfl a hTR' _ _ (fun v y c2 h1 h2 h3 h4 => hKK _ _ ?_)
      obtain ⟨hlate, hgo'⟩ := h4
      have hst2 := hst.core hd hoi hgo' hlate hk0 hon
      obtain ⟨pre3, rest3, fl3, ts3, hst3, hh3, hk3⟩ := hst2.advance hd
      refine ⟨pre3, rest3, fl3, ts3, c2.σ, c2, hst3, hh3, h1, rfl, rfl, hev'.trans h2, ?_⟩
      have he : sel ops ts0 ts3 (up b i) = putD (sel ops ts0 ts' b) oi.dst y := by
        have e1 : sel ops ts0 ts3 (up b i) = sel ops ts0 (putD ts' oi.dst y) (up b i) := sel_ext hst3.len hst2.len (fun s => by
          cases ha : anyDst ops (up b i) s with
          | true => simp only [if_true]; exact hk3 s ha
          | false => rfl)
        have e2 : sel ops ts0 (putD ts' oi.dst y) (up b i) = putD (sel ops ts0 (putD ts' oi.dst y) b) oi.dst y := sel_up hst2.len hoi (fun d hdd hlt => by rw [hdd]; rw [putD_length] at hlt; exact List.getElem?_set_self hlt)
        have e3 : sel ops ts0 (putD ts' oi.dst y) b = sel ops ts0 ts' b := sel_ext hst2.len hst.len (fun s => by
          cases ha : anyDst ops b s with
          | true =>
            simp only [if_true]
            obtain ⟨j, k1, k2, k3⟩ := anyDst_iff.1 ha
            refine putD_other (fun hes => ?_)
            have := hd.dst j i s k1 hin k3 (by rw [dstOf_eq hoi]; exact hes)
            rw [this, hbi] at k2; cases k2
          | false => rfl)
        rw [e1, e2, e3]
      rw [he]
      exact (hTR'.ev h2).put oi.dst h3
theorem Ist.last {B : List (List Nat)} {sched : List Nat} (hd : DrawOk T ops sched B) {c : Cf} {b : Nat → Bool} {a : Act} {w : World} (hI : Ist P T ops ts0 KK0 B sched c b a w) (hallb : ∀ j, j < ops.size → b j = true) : ∃ ts' c', c'.w = w ∧ Ok P c' ∧ Ev c c' ∧ TR c' ts' a ∧ KK0 ts' c'.σ := by
  obtain ⟨pre, rest, fl, ts', σ', c', hst, hhead, hok', rfl, rfl, hev', hTR'⟩ := hI
  have hrest : rest = [] := by
    cases rest with
    | nil => rfl
    | cons k r =>
      have hkn := hd.lt k (by rw [hst.split]; simp)
      have := hst.rest_off k List.mem_cons_self
      rw [hallb k hkn] at this; cases this
  subst hrest
  have hgo := hst.go
  unfold dops at hgo
  have hsel : sel ops ts0 ts' b = ts' := by
    apply List.ext_getElem?
    intro s
    rw [sel_get hst.len]
    cases ha : anyDst ops b s with
    | true => rfl
    | false =>
      have : anyDst ops (fun j => pre.contains j) s = false := by
        cases hb2 : anyDst ops (fun j => pre.contains j) s with
        | false => rfl
        | true =>
          obtain ⟨j, k1, k2, k3⟩ := anyDst_iff.1 hb2
          have : anyDst ops b s = true := anyDst_iff.2 ⟨j, k1, hallb j k1, k3⟩
          rw [ha] at this; cases this
      rw [hst.un s this]; rfl
  rw [hsel] at hTR'
  exact ⟨ts', c', rfl, hok', hev', hTR', hgo⟩
/-- What is read, said of both orders while neither of the two steps was taken. -/
def Bst (P : Program) (T : Tab) (ops : Array Oper) (ts0 : List DV) (K : List DV → Heap → Prop) (B1 B2 : List (List Nat)) (s1 s2 : List Nat) (c : Cf) (b : Nat → Bool) (a : Act) (w : World) : Prop :=
  ∃ pre1 rest1 fl1 t1 pre2 rest2 fl2 t2 c', Stage P T ops B1 ts0 K s1 pre1 rest1 fl1 t1 c.σ b ∧ HeadCore T ops t1 rest1 ∧ Stage P T ops B2 ts0 K s2 pre2 rest2 fl2 t2 c.σ b ∧ HeadCore T ops t2 rest2 ∧ Ok P c' ∧ c'.σ = c.σ ∧ c'.w = w ∧ Ev c c' ∧ sel ops ts0 t2 b = sel ops ts0 t1 b ∧ TR c' (sel ops ts0 t1 b) a
/-- An operation that is no step of the heap was taken ahead. -/
theorem ahead_of {B : List (List Nat)} {sched pre rest fl : List Nat} {ts : List DV} {b : Nat → Bool} {i : Nat} {oi : Oper} (hd : DrawOk T ops sched B) (hst : Stage P T ops B ts0 KK0 sched pre rest fl ts σ b) (hh : HeadCore T ops ts rest) (hoi : ops[i]? = some oi) (hk : kindOf T oi.op ≠ .core) (hon : ∀ j, j < ops.size → bitOf B i j = true → b j = true) :
    ∃ p q, pre = p ++ i :: q := by
  have hin : i < ops.size := (Array.getElem?_eq_some_iff.1 hoi).1
  have hmem := hd.perm i hin
  rw [hst.split] at hmem
  rcases List.mem_append.1 hmem with hpre | hrest
  · exact List.append_of_mem hpre
  · exfalso
    cases rest with
    | nil => cases hrest
    | cons h0 rest =>
      obtain ⟨o0, ho0, hg0, hk0⟩ := hh
      rcases List.mem_cons.1 hrest with e | hm
      · subst e
        rw [hoi] at ho0; cases ho0
        exact hk hk0
      · obtain ⟨p, q, hpq⟩ := List.append_of_mem hm
        have hbit := hd.asap (pre ++ h0 :: p) i q (by rw [hst.split, hpq]; simp) h0 o0 (by simp) ho0 hk0
        have h0n : h0 < ops.size := (Array.getElem?_eq_some_iff.1 ho0).1
        have := hon h0 h0n hbit
        rw [hst.rest_off h0 List.mem_cons_self] at this
        cases this
theorem Bst.step (hT : TOk P T) {B1 B2 : List (List Nat)} {s1 s2 : List Nat} (hd1 : DrawOk T ops s1 B1) (hd2 : DrawOk T ops s2 B2) {c : Cf} {b : Nat → Bool} {a : Act} {w : World} {i : Nat} {oi : Oper} (hI : Bst P T ops ts0 KK0 B1 B2 s1 s2 c b a w) (hoi : ops[i]? = some oi) (hbi : b i = false) (hk : kindOf T oi.op ≠ .core)
    (hon1 : ∀ j, j < ops.size → bitOf B1 i j = true → b j = true) (hoff1 : ∀ d, d < ops.size → bitOf B1 d i = true → b d = false) (hon2 : ∀ j, j < ops.size → bitOf B2 i j = true → b j = true) (hoff2 : ∀ d, d < ops.size → bitOf B2 d i = true → b d = false) {Q : Exit → Act → World → Prop} (KK : Act → World → Prop) (hKK : ∀ a' w', Bst P T ops ts0 KK0 B1 B2 s1 s2 c (up b i) a' w' → KK a' w') :
    if Region.wanted oi (yielded ops a.tmps) = true then Oper.wp P oi a w KK Q else KK (a.put oi.dst undef) w := by
  obtain ⟨pre1, rest1, fl1, t1, pre2, rest2, fl2, t2, c', st1, hh1, st2, hh2, hok', hσ', rfl, hev', hse, hTR'⟩ := hI
  obtain ⟨p1, q1, hp1⟩ := ahead_of hd1 st1 hh1 hoi hk hon1
  obtain ⟨p2, q2, hp2⟩ := ahead_of hd2 st2 hh2 hoi hk hon2
  obtain ⟨g1, hg1, hgf1, hgt1⟩ := st1.recs p1 i q1 oi hp1 hbi hoi
  obtain ⟨g2, hg2, hgf2, hgt2⟩ := st2.recs p2 i q2 oi hp2 hbi hoi
  have hag1 := sel_agree (b := b) (ts0 := ts0) hd1 st1.len (by rw [st1.split, hp1, List.append_assoc]; rfl) hoi hbi hon1 hoff1
  have hag2 := sel_agree (b := b) (ts0 := ts0) hd2 st2.len (by rw [st2.split, hp2, List.append_assoc]; rfl) hoi hbi hon2 hoff2
  have hir : ∀ {B : List (List Nat)} {s pre rest fl : List Nat} {t : List DV}, DrawOk T ops s B → Stage P T ops B ts0 KK0 s pre rest fl t c.σ b → ∀ p q, pre = p ++ i :: q → i ∉ rest := fun hd st p q hp hm => by
    have hnd := hd.nodup
    rw [st.split] at hnd
    exact (List.nodup_append.1 hnd).2.2 i (by rw [hp]; simp) i hm rfl
  have hgb1 : gon ops (sel ops ts0 t1 b) oi.guard = some g1 := by rw [hag1.gon]; exact hg1
  have hgb2 : gon ops (sel ops ts0 t1 b) oi.guard = some g2 := by rw [← hse, hag2.gon]; exact hg2
  have hgg : g1 = g2 := Option.some.inj (hgb1.symm.trans hgb2)
  subst hgg
  rw [wanted_gon hTR' hgb1]
  cases g1 with
  | false =>
    simp only [Bool.false_eq_true, if_false]
    have e1 : sel ops ts0 t1 (up b i) = putD (sel ops ts0 t1 b) oi.dst (.tup []) := sel_up st1.len hoi (fun d hdd hlt => hgf1 rfl d hdd hlt)
    have e2 : sel ops ts0 t2 (up b i) = putD (sel ops ts0 t2 b) oi.dst (.tup []) := sel_up st2.len hoi (fun d hdd hlt => hgf2 rfl d hdd hlt)
    refine hKK _ _ ⟨pre1, rest1, fl1, t1, pre2, rest2, fl2, t2, c', st1.mark (hir hd1 st1 p1 q1 hp1), hh1, st2.mark (hir hd2 st2 p2 q2 hp2), hh2, hok', hσ', rfl, hev', by rw [e1, e2, hse], ?_⟩
    rw [e1]
    exact hTR'.put oi.dst V_undef
  | true =>
    simp only [if_true]
    obtain ⟨_, x1, hx1, hxs1⟩ := hgt1 rfl
    obtain ⟨_, x2, hx2, hxs2⟩ := hgt2 rfl
    have hx1' : aop T oi (sel ops ts0 t1 b) c.σ = some (x1, c.σ) := by rw [← hx1]; exact aop_congr (fun z hz => hag1.eval hz)
    have hx2' : aop T oi (sel ops ts0 t1 b) c.σ = some (x2, c.σ) := by rw [← hx2, ← hse]; exact aop_congr (fun z hz => hag2.eval hz)
    have hxx : x1 = x2 := congrArg Prod.fst (Option.some.inj (hx1'.symm.trans hx2'))
    subst hxx
    have hop : AOp P oi (sel ops ts0 t1 b) c.σ (fun y τ => y = x1 ∧ τ = c.σ) := aop_sound hT hx1' ⟨rfl, rfl⟩
    refine hop c' hok' hσ' a hTR' _ _ (fun v y c2 h1 h2 h3 h4 => hKK _ _ ?_)
    obtain ⟨rfl, hσ2⟩ := h4
    have e1 : sel ops ts0 t1 (up b i) = putD (sel ops ts0 t1 b) oi.dst y := sel_up st1.len hoi hxs1
    have e2 : sel ops ts0 t2 (up b i) = putD (sel ops ts0 t2 b) oi.dst y := sel_up st2.len hoi hxs2
    refine ⟨pre1, rest1, fl1, t1, pre2, rest2, fl2, t2, c2, st1.mark (hir hd1 st1 p1 q1 hp1), hh1, st2.mark (hir hd2 st2 p2 q2 hp2), hh2, h1, hσ2, rfl, hev'.trans h2, by rw [e1, e2, hse], ?_⟩
    rw [e1]
    exact (hTR'.ev h2).put oi.dst h3
/-- The two steps c1, c2 of the heap wait for one another in no way; B1 has c1 behind c2, B2 has c2 behind c1. -/
structure TwoOk (T : Tab) (ops : Array Oper) (B B1 B2 : List (List Nat)) (c1 c2 : Nat) : Prop where
  ne : c1 ≠ c2
  b1 : ∀ i j, i < ops.size → j < ops.size → bitOf B1 i j = true → bitOf B i j = true ∨ (j = c2 ∧ (i = c1 ∨ bitOf B i c1 = true))
  b2 : ∀ i j, i < ops.size → j < ops.size → bitOf B2 i j = true → bitOf B i j = true ∨ (j = c1 ∧ (i = c2 ∨ bitOf B i c2 = true))
  n12 : bitOf B c1 c2 = false
  n21 : bitOf B c2 c1 = false
  l1 : c1 < ops.size
  l2 : c2 < ops.size
  core : ∀ j oj, ops[j]? = some oj → kindOf T oj.op = .core → j = c1 ∨ j = c2 ∨ bitOf B j c1 = true
/-- A region that draws its order, by two orders. -/
theorem AW.draw2 (hT : TOk P T) {id : Nat} {TT : Bool × List (List Nat × List Nat)} {ts : List DV} {Q : Exit → List DV → Heap → Prop} (s1 s2 : List Nat) (B B1 B2 : List (List Nat)) (c1 c2 : Nat) (hmix : P.follows .mixedOrders = true) (hrt : rtab .any ops = TT) (hwt : waitsOk TT.2 (B.map maskOf) = true) (hbk : baseOk TT.2 (List.range ops.size) = true) (hlen : TT.2.length = ops.size)
    (hd1 : DrawOk T ops s1 B1) (hd2 : DrawOk T ops s2 B2) (h2k : TwoOk T ops B B1 B2 c1 c2) (h1 : dops P T ops B1 s1 [] ts σ (Q .normal)) (h2 : dops P T ops B2 s2 [] ts σ (Q .normal)) : AW P (.region id ops true) ts σ Q := by
  intro c hc hσ a hTR
  subst hσ
  refine start_ (S := fun _ => True) (ds := []) (Array.replicate ops.size false) hmix rfl rfl trivial (fun _ => ?_)
  have hdrew : ∃ c', c'.w = c.w.drew ∧ c'.σ = c.σ ∧ Ok P c' ∧ Ev c c' := by
    refine ⟨{ c with w := c.w.drew }, rfl, rfl, ?_, ?_⟩
    · have hev : Ev c { c with w := c.w.drew } := ⟨Nat.le_refl _, fun _ _ => Nat.le_refl _, fun _ _ _ _ _ h => h, fun _ h => h, fun _ _ => rfl, Nat.le_refl _, rfl, rfl, rfl⟩
      refine ⟨fun t ob hob => ?_, hc.inj, hc.zlt⟩
      exact (hc.obj t ob hob).keep hev rfl rfl (fun _ h => h)
    · exact ⟨Nat.le_refl _, fun _ _ => Nat.le_refl _, fun _ _ _ _ _ h => h, fun _ h => h, fun _ _ => rfl, Nat.le_refl _, rfl, rfl, rfl⟩
  obtain ⟨k1, hw1, hσ1, hc1, hev1⟩ := hdrew
  have hT1 := hTR.ev hev1
  have st1 : Stage P T ops B1 ts (Q .normal) s1 [] s1 [] ts c.σ (fun _ => false) := ⟨rfl, h1, rfl, fun s _ => rfl, fun _ _ => rfl, fun p i q o hp => by simp at hp, fun p i q o hp => by simp at hp⟩
  have st2 : Stage P T ops B2 ts (Q .normal) s2 [] s2 [] ts c.σ (fun _ => false) := ⟨rfl, h2, rfl, fun s _ => rfl, fun _ _ => rfl, fun p i q o hp => by simp at hp, fun p i q o hp => by simp at hp⟩
  obtain ⟨pre1, rest1, fl1, t1, st1, hh1, _⟩ := st1.advance hd1
  obtain ⟨pre2, rest2, fl2, t2, st2, hh2, _⟩ := st2.advance hd2
  have hsel0 : ∀ t : List DV, t.length = ts.length → sel ops ts t (fun _ => false) = ts := fun t ht => by
    apply List.ext_getElem?
    intro s
    rw [sel_get ht]
    have : anyDst ops (fun _ => false) s = false := by simp [anyDst]
    rw [this]; rfl
  have hB0 : Bst P T ops ts (Q .normal) B1 B2 s1 s2 c (fun _ => false) a c.w.drew := ⟨pre1, rest1, fl1, t1, pre2, rest2, fl2, t2, k1, st1, hh1, st2, hh2, hc1, hσ1, hw1, hev1, by rw [hsel0 _ st1.len, hsel0 _ st2.len], by rw [hsel0 _ st1.len]; exact hT1⟩
  let Cl : (Nat → Bool) → Prop := fun b => ∀ d j, d < ops.size → j < ops.size → bitOf B d j = true → b d = true → b j = true
  let I : (Nat → Bool) → Act → World → Prop := fun b a w => Cl b ∧ ((b c1 = false ∧ b c2 = false ∧ Bst P T ops ts (Q .normal) B1 B2 s1 s2 c b a w) ∨ (b c2 = true ∧ Ist P T ops ts (Q .normal) B1 s1 c b a w) ∨ (b c1 = true ∧ Ist P T ops ts (Q .normal) B2 s2 c b a w))
  have hI0 : I (fun _ => false) a c.w.drew := ⟨fun _ _ _ _ _ h => (by cases h), .inl ⟨rfl, rfl, hB0⟩⟩
  have hlof : (lof TT.2.length (List.range ops.size) (fun _ => false) == (Array.replicate ops.size false).toList && (List.range ops.size).length == ops.size) = true := by
    have : lof TT.2.length (List.range ops.size) (fun _ => false) = List.replicate ops.size false := by
      rw [hlen]
      apply List.ext_getElem?
      intro k
      by_cases hk : k < ops.size
      · simp [lof, List.getElem?_range hk, List.getElem?_replicate, hk]
      · rw [List.getElem?_eq_none (by simp [lof]; omega), List.getElem?_eq_none (by simp; omega)]
    simp [this]
  refine inv_ (List.range ops.size) I hrt hwt hbk hlof hI0 (fun i hi => ?_) (fun b a' w hall hI => ?_)
  · intro b a w hI hbi hon' hoff'
    have hin : i < ops.size := List.mem_range.1 hi
    have hon : ∀ j, j < ops.size → bitOf B i j = true → b j = true := fun j hj hb => hon' j (by rw [List.contains_iff_mem.2 (List.mem_range.2 hj)]; exact bit_mask hb)
    have hoff : ∀ d, d < ops.size → bitOf B d i = true → b d = false := fun j hj hb => hoff' j (by rw [List.contains_iff_mem.2 (List.mem_range.2 hj)]; exact bit_mask hb)
    obtain ⟨oi, hoi⟩ : ∃ oi, ops[i]? = some oi := ⟨ops[i], Array.getElem?_eq_getElem hin⟩
    obtain ⟨hcl, hI⟩ := hI
    have hcl' : Cl (up b i) := fun d j hd hj hb hbd => by
      by_cases hji : j = i
      · subst hji; exact up_self b j
      · rw [up_ne hji]
        by_cases hdi : d = i
        · subst hdi; exact hon j hj hb
        · rw [up_ne hdi] at hbd; exact hcl d j hd hj hb hbd
    have on1 : b c2 = true ∨ i = c2 ∨ (i ≠ c1 ∧ b c1 = false) → ∀ j, j < ops.size → bitOf B1 i j = true → b j = true := fun hor j hj hb => by
      rcases h2k.b1 i j hin hj hb with h | ⟨rfl, h⟩
      · exact hon j hj h
      · rcases hor with h3 | h3 | ⟨h3, h4⟩
        · exact h3
        · exfalso
          subst h3
          rcases h with e | e
          · exact h2k.ne e.symm
          · rw [h2k.n21] at e; cases e
        · exfalso
          rcases h with e | e
          · exact h3 e
          · have := hon c1 h2k.l1 e
            rw [h4] at this; cases this
    have off1 : (i ≠ c2 ∨ b c1 = false) → ∀ d, d < ops.size → bitOf B1 d i = true → b d = false := fun hor d hd hb => by
      rcases h2k.b1 d i hd hin hb with h | ⟨e, h⟩
      · exact hoff d hd h
      · rcases hor with h3 | h3
        · exact absurd e h3
        · rcases h with e2 | e2
          · rw [e2]; exact h3
          · cases hbd : b d with
            | false => rfl
            | true => have := hcl d c1 hd h2k.l1 e2 hbd; rw [h3] at this; cases this
    have on2 : b c1 = true ∨ i = c1 ∨ (i ≠ c2 ∧ b c2 = false) → ∀ j, j < ops.size → bitOf B2 i j = true → b j = true := fun hor j hj hb => by
      rcases h2k.b2 i j hin hj hb with h | ⟨rfl, h⟩
      · exact hon j hj h
      · rcases hor with h3 | h3 | ⟨h3, h4⟩
        · exact h3
        · exfalso
          subst h3
          rcases h with e | e
          · exact h2k.ne e
          · rw [h2k.n12] at e; cases e
        · exfalso
          rcases h with e | e
          · exact h3 e
          · have := hon c2 h2k.l2 e
            rw [h4] at this; cases this
    have off2 : (i ≠ c1 ∨ b c2 = false) → ∀ d, d < ops.size → bitOf B2 d i = true → b d = false := fun hor d hd hb => by
      rcases h2k.b2 d i hd hin hb with h | ⟨e, h⟩
      · exact hoff d hd h
      · rcases hor with h3 | h3
        · exact absurd e h3
        · rcases h with e2 | e2
          · rw [e2]; exact h3
          · cases hbd : b d with
            | false => rfl
            | true => have := hcl d c2 hd h2k.l2 e2 hbd; rw [h3] at this; cases this
    refine ⟨oi, hoi, fun KK hKK => ?_⟩
    rcases hI with ⟨hb1, hb2, hB⟩ | ⟨hb2, hS⟩ | ⟨hb1, hS⟩
    · by_cases hi1 : i = c1
      · subst hi1
        obtain ⟨pre1, rest1, fl1, t1, pre2, rest2, fl2, t2, c', st1, hh1, st2, hh2, hok', hσ', hw', hev', hse, hTR'⟩ := hB
        have hS : Ist P T ops ts (Q .normal) B2 s2 c b a w := ⟨pre2, rest2, fl2, t2, c.σ, c', st2, hh2, hok', hσ', hw', hev', by rw [hse]; exact hTR'⟩
        exact hS.step hT hd2 hoi hbi (on2 (.inr (.inl rfl))) (off2 (.inr hb2)) KK (fun a' w' h => hKK _ _ ⟨hcl', .inr (.inr ⟨up_self b i, h⟩)⟩)
      · by_cases hi2 : i = c2
        · subst hi2
          obtain ⟨pre1, rest1, fl1, t1, pre2, rest2, fl2, t2, c', st1, hh1, st2, hh2, hok', hσ', hw', hev', hse, hTR'⟩ := hB
          have hS : Ist P T ops ts (Q .normal) B1 s1 c b a w := ⟨pre1, rest1, fl1, t1, c.σ, c', st1, hh1, hok', hσ', hw', hev', hTR'⟩
          exact hS.step hT hd1 hoi hbi (on1 (.inr (.inl rfl))) (off1 (.inr hb1)) KK (fun a' w' h => hKK _ _ ⟨hcl', .inr (.inl ⟨up_self b i, h⟩)⟩)
        · have hk : kindOf T oi.op ≠ .core := fun hk => by
            rcases h2k.core i oi hoi hk with e | e | e
            · exact hi1 e
            · exact hi2 e
            · have := hon c1 h2k.l1 e
              rw [hb1] at this; cases this
          exact hB.step hT hd1 hd2 hoi hbi hk (on1 (.inr (.inr ⟨hi1, hb1⟩))) (off1 (.inl hi2)) (on2 (.inr (.inr ⟨hi2, hb2⟩))) (off2 (.inl hi1)) KK (fun a' w' h => hKK _ _ ⟨hcl', .inl ⟨by rw [up_ne (Ne.symm hi1)]; exact hb1, by rw [up_ne (Ne.symm hi2)]; exact hb2, h⟩⟩)
    · have hi2 : i ≠ c2 := fun e => by rw [e, hb2] at hbi; cases hbi
      exact hS.step hT hd1 hoi hbi (on1 (.inl hb2)) (off1 (.inl hi2)) KK (fun a' w' h => hKK _ _ ⟨hcl', .inr (.inl ⟨by rw [up_ne (Ne.symm hi2)]; exact hb2, h⟩)⟩)
    · have hi1 : i ≠ c1 := fun e => by rw [e, hb1] at hbi; cases hbi
      exact hS.step hT hd2 hoi hbi (on2 (.inl hb1)) (off2 (.inl hi1)) KK (fun a' w' h => hKK _ _ ⟨hcl', .inr (.inr ⟨by rw [up_ne (Ne.symm hi1)]; exact hb1, h⟩)⟩)
  · have hallb : ∀ j, j < ops.size → b j = true := fun j hj => hall j (List.contains_iff_mem.2 (List.mem_range.2 hj))
    obtain ⟨_, hI⟩ := hI
    rcases hI with ⟨hb1, _⟩ | ⟨_, hS⟩ | ⟨_, hS⟩
    · rw [hallb c1 h2k.l1] at hb1; cases hb1
    · exact hS.last hd1 hallb
    · exact hS.last hd2 hallb
def twoB (T : Tab) (ops : Array Oper) (B B1 B2 : List (List Nat)) (c1 c2 : Nat) : Bool :=
  !(c1 == c2) && ((List.range ops.size).all fun i => (List.range ops.size).all fun j => !bitOf B1 i j || (bitOf B i j || (j == c2 && (i == c1 || bitOf B i c1)))) && ((List.range ops.size).all fun i => (List.range ops.size).all fun j => !bitOf B2 i j || (bitOf B i j || (j == c1 && (i == c2 || bitOf B i c2)))) &&
  !bitOf B c1 c2 && !bitOf B c2 c1 && decide (c1 < ops.size) && decide (c2 < ops.size) && ((List.range ops.size).all fun j => match ops[j]? with | some oj => !(decide (kindOf T oj.op = .core)) || (j == c1 || (j == c2 || bitOf B j c1)) | none => true)
theorem twoB_ok {B B1 B2 : List (List Nat)} {c1 c2 : Nat} (h : twoB T ops B B1 B2 c1 c2 = true) : TwoOk T ops B B1 B2 c1 c2 := by
  simp only [twoB, Bool.and_eq_true] at h
  obtain ⟨⟨⟨⟨⟨⟨⟨h1, h2⟩, h3⟩, h4⟩, h5⟩, h6⟩, h7⟩, h8⟩ := h
  refine ⟨by simpa using h1, fun i j hi hj hb => ?_, fun i j hi hj hb => ?_, by simpa using h4, by simpa using h5, of_decide_eq_true h6, of_decide_eq_true h7, fun j oj hoj hk => ?_⟩
  · have := List.all_eq_true.1 (List.all_eq_true.1 h2 i (List.mem_range.2 hi)) j (List.mem_range.2 hj)
    rw [hb] at this
    simpa using this
  · have := List.all_eq_true.1 (List.all_eq_true.1 h3 i (List.mem_range.2 hi)) j (List.mem_range.2 hj)
    rw [hb] at this
    simpa using this
  · have := List.all_eq_true.1 h8 j (List.mem_range.2 (Array.getElem?_eq_some_iff.1 hoj).1)
    rw [hoj] at this
    simpa [hk] using this
def drawAll2 (T : Tab) (ops : Array Oper) (s1 s2 : List Nat) (B B1 B2 : List (List Nat)) (c1 c2 : Nat) : Bool :=
  waitsOk (rtab .any ops).2 (B.map maskOf) && baseOk (rtab .any ops).2 (List.range ops.size) && (rtab .any ops).2.length == ops.size && drawB T ops s1 B1 && drawB T ops s2 B2 && twoB T ops B B1 B2 c1 c2
theorem AW.drawn2 (hT : TOk P T) {id : Nat} {ts : List DV} {Q : Exit → List DV → Heap → Prop} (s1 s2 : List Nat) (B B1 B2 : List (List Nat)) (c1 c2 : Nat) (hmix : P.follows .mixedOrders = true) (hall : drawAll2 T ops s1 s2 B B1 B2 c1 c2 = true) (h1 : dfin P T ops B1 (drun T ops s1 [] ts σ) σ (Q .normal)) (h2 : dfin P T ops B2 (drun T ops s2 [] ts σ) σ (Q .normal)) : AW P (.region id ops true) ts σ Q := by
  simp only [drawAll2, Bool.and_eq_true] at hall
  obtain ⟨⟨⟨⟨⟨g1, g2⟩, g3⟩, g4⟩, g5⟩, g6⟩ := hall
  exact AW.draw2 hT s1 s2 B B1 B2 c1 c2 hmix rfl g1 g2 (by simpa using g3) (drawB_ok g4) (drawB_ok g5) (twoB_ok g6) (dfin_ok h1) (dfin_ok h2)
end
end Go.Proofs.Ythdamnemoaaigaa.Cm
