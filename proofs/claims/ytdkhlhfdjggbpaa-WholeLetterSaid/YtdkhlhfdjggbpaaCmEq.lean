import Derived.Test.YtdkhlhfdjggbpaaCmAw
import Derived.Laws.StructEq
set_option linter.unusedVariables false
set_option linter.unusedSimpArgs false
namespace Go.Proofs.Ytdkhlhfdjggbpaa.Cm
open Go.RowKit

/-- Two plain values: alike? -/
def eqv : Value → Value → Bool
  | .int _ a, .int _ b => a == b
  | .bool a, .bool b => a == b
  | .string a, .string b => a.toList == b.toList
  | _, _ => false
def eqvL : List Value → List Value → Bool
  | [], [] => true
  | a :: l, b :: m => eqv a b && eqvL l m
  | _, _ => false
/-- Of one kind. -/
def sameK : Value → Value → Bool
  | .int k _, .int k' _ => k == k'
  | .bool _, .bool _ => true
  | .string _, .string _ => true
  | _, _ => false
def fitL : List Value → List Value → Bool
  | [], [] => true
  | a :: l, b :: m => sameK a b && fitL l m
  | _, _ => false
theorem fitL_length : ∀ {z l : List Value}, fitL z l = true → l.length = z.length
  | [], [], _ => rfl
  | a :: l, b :: m, h => by simp only [fitL, Bool.and_eq_true] at h; simp [fitL_length h.2]
  | [], _ :: _, h => by simp [fitL] at h
  | _ :: _, [], h => by simp [fitL] at h
theorem fitL_take : ∀ {z l : List Value} (n : Nat), fitL z l = true → fitL (z.take n) (l.take n) = true
  | [], [], n, _ => by cases n <;> rfl
  | a :: l, b :: m, 0, _ => rfl
  | a :: l, b :: m, n + 1, h => by
    simp only [fitL, Bool.and_eq_true] at h
    simp only [List.take_succ_cons, fitL, Bool.and_eq_true]
    exact ⟨h.1, fitL_take n h.2⟩
  | [], _ :: _, _, h => by simp [fitL] at h
  | _ :: _, [], _, h => by simp [fitL] at h
theorem fitL_drop : ∀ {z l : List Value} (n : Nat), fitL z l = true → fitL (z.drop n) (l.drop n) = true
  | [], [], n, _ => by cases n <;> rfl
  | a :: l, b :: m, 0, h => h
  | a :: l, b :: m, n + 1, h => by
    simp only [fitL, Bool.and_eq_true] at h
    exact fitL_drop n h.2
  | [], _ :: _, _, h => by simp [fitL] at h
  | _ :: _, [], _, h => by simp [fitL] at h
theorem eqvL_split : ∀ (n : Nat) {xs ys : List Value}, xs.length = ys.length → eqvL xs ys = (eqvL (xs.take n) (ys.take n) && eqvL (xs.drop n) (ys.drop n))
  | 0, xs, ys, _ => by simp [eqvL]
  | n + 1, [], [], _ => by simp [eqvL]
  | n + 1, a :: l, b :: m, h => by
    simp only [List.take_succ_cons, List.drop_succ_cons, eqvL]
    rw [eqvL_split n (by simpa using h), Bool.and_assoc]
  | n + 1, [], _ :: _, h => by simp at h
  | n + 1, _ :: _, [], h => by simp at h
def leafB (u : TypeDesc) (v : Value) : Bool := match u, v with | .int k, .int k' _ => k == k' | .bool, .bool _ => true | .string, .string _ => true | _, _ => false
def isAggB : TypeDesc → Bool
  | .struct _ | .array .. => true
  | _ => false
def cmpFs (P : Program) (cb : TypeId → List Value → Bool) : List Field → Nat → List Value → Bool
  | [], _, z => z.isEmpty
  | f :: fs, off, z => f.name != "_" && f.offset == off && decide (P.cellsOf f.type ≤ z.length) && cb f.type (z.take (P.cellsOf f.type)) && cmpFs P cb fs (off + P.cellsOf f.type) (z.drop (P.cellsOf f.type))
/-- A type of whole numbers, truths and strings, and of structs and arrays of them, with its zero's cells. -/
def cmpB (P : Program) : Nat → TypeId → List Value → Bool
  | 0, _, _ => false
  | d + 1, t, z => match P.underlying t with
    | some (.struct fs) => !P.stoodInHeld t && P.cellsOf t == z.length && cmpFs P (cmpB P d) fs.toList 0 z
    | some (.array n e) => P.cellsOf t == z.length && P.cellsOf e * n == z.length && decide (0 < n) && (List.range n).all fun i => cmpB P d e ((z.drop (P.cellsOf e * i)).take (P.cellsOf e))
    | some u => (match z with | [v] => leafB u v && P.cellsOf t == 1 | _ => false)
    | none => false
def vOf (g : Bool) (us : List Value) : Value := if g = true then .agg us.toArray else us.headD undef

section
variable {P : Program}
theorem cmpB_cells : ∀ {d : Nat} {t : TypeId} {z : List Value}, cmpB P d t z = true → z.length = P.cellsOf t ∧ ∃ u, P.underlying t = some u ∧ (isAggB u = false → P.cellsOf t = 1)
  | 0, _, _, h => by simp [cmpB] at h
  | d + 1, t, z, h => by
    unfold cmpB at h
    split at h
    · rename_i fs hu; simp only [Bool.and_eq_true, beq_iff_eq] at h; exact ⟨h.1.2.symm, _, hu, by simp [isAggB]⟩
    · rename_i n e hu; simp only [Bool.and_eq_true, beq_iff_eq] at h; exact ⟨h.1.1.1.symm, _, hu, by simp [isAggB]⟩
    · rename_i u _ _ hu
      split at h
      · simp only [Bool.and_eq_true, beq_iff_eq] at h; exact ⟨by simp [h.2], _, hu, fun _ => h.2⟩
      · cases h
    · cases h
theorem run_isAggB {t : TypeId} {u : TypeDesc} (hu : P.underlying t = some u) (w : World) : (isAgg t).run P w = .ok (isAggB u) w := by
  simp only [isAgg, Sem.run_bind, run_underlying hu, Result.andThen_ok]
  cases u <;> simp [isAggB]
theorem run_part {t : TypeId} {u : TypeDesc} (hu : P.underlying t = some u) {n : Nat} (hn : P.cellsOf t = n) (h1 : isAggB u = false → n = 1) {cs : List Value} {off : Nat} (hl : off + n ≤ cs.length) (w : World) : (part t cs.toArray off).run P w = .ok (vOf (isAggB u) ((cs.drop off).take n)) w := by
  have hs : (sizeOf t).run P w = .ok n w := by
    have : ∃ i, P.info? t = some i := by
      unfold Program.underlying at hu
      cases hi : P.info? t with
      | none => simp [hi] at hu
      | some i => exact ⟨i, rfl⟩
    obtain ⟨i, hi⟩ := this
    have : i.size = n := by rw [← hn]; simp [Program.cellsOf, hi]
    simp [sizeOf, typeInfo, hi, this]
  simp only [part, Sem.run_bind, run_isAggB hu, Result.andThen_ok]
  cases hg : isAggB u with
  | true =>
    simp only [if_true, Sem.run_bind, hs, Result.andThen_ok, Sem.run_pure, vOf]
    congr 2
    apply Array.ext'
    simp [List.extract_eq_take_drop]
  | false =>
    have := h1 hg
    subst this
    have hlt : off < cs.length := by omega
    simp only [Bool.false_eq_true, if_false, vOf, List.getElem?_toArray, List.getElem?_eq_getElem hlt, Sem.run_pure]
    rw [List.drop_eq_getElem_cons hlt]; rfl
theorem eqIn_ok : ∀ (d D : Nat) (t : TypeId) (z xs ys : List Value), d ≤ D → cmpB P d t z = true → fitL z xs = true → fitL z ys = true → ∀ (w : World) (u : TypeDesc), P.underlying t = some u → (Op.equalIn D t (vOf (isAggB u) xs) (vOf (isAggB u) ys)).run P w = .ok (eqvL xs ys) w
  | 0, _, _, _, _, _, _, h, _, _, _, _, _ => by simp [cmpB] at h
  | d + 1, D, t, z, xs, ys, hD, h, hx, hy, w, u, hu => by
    obtain ⟨D, rfl⟩ : ∃ D', D = D' + 1 := ⟨D - 1, by omega⟩
    have hlx := fitL_length hx
    have hly := fitL_length hy
    unfold cmpB at h
    rw [hu] at h
    split at h
    · -- a struct
      rename_i fs hfs
      cases hfs
      simp only [Bool.and_eq_true, beq_iff_eq, Bool.not_eq_true'] at h
      obtain ⟨⟨hst, hc⟩, hf⟩ := h
      have hF : P.fieldsOf t = fs := by simp [Program.fieldsOf, hu]
      show (Op.equalIn (D + 1) t (.agg xs.toArray) (.agg ys.toArray)).run P w = _
      rw [run_equalIn_struct w D t _ _ (by rw [hF]; exact hu) hst, hF]
      have key : ∀ (l : List Field) (off : Nat) (z' : List Value), z' = z.drop off → off ≤ z.length → cmpFs P (cmpB P d) l off z' = true → (Op.eqFields D xs.toArray ys.toArray l).run P w = .ok (eqvL (xs.drop off) (ys.drop off)) w := by
        intro l
        induction l with
        | nil =>
          intro off z' hz' ho hl
          simp only [cmpFs, List.isEmpty_iff] at hl
          rw [hl] at hz'
          have := congrArg List.length hz'
          simp at this
          rw [List.drop_eq_nil_of_le (by omega), List.drop_eq_nil_of_le (by omega)]
          simp [Op.eqFields, eqvL]
        | cons f l ih =>
          intro off z' hz' ho hl
          simp only [cmpFs, Bool.and_eq_true, beq_iff_eq, decide_eq_true_eq] at hl
          obtain ⟨⟨⟨⟨hn, hof⟩, hle⟩, hcb⟩, hrest⟩ := hl
          subst hz'
          rw [List.length_drop] at hle
          obtain ⟨hcl, v, hv, hv1⟩ := cmpB_cells hcb
          have ih' := ih (off + P.cellsOf f.type) _ (by rw [List.drop_drop]) (by omega) hrest
          have r1 := run_part hv rfl hv1 (cs := xs) (off := off) (by omega) w
          have r2 := run_part hv rfl hv1 (cs := ys) (off := off) (by omega) w
          have r3 := eqIn_ok d D f.type _ _ _ (by omega) hcb (fitL_take (P.cellsOf f.type) (fitL_drop off hx)) (fitL_take (P.cellsOf f.type) (fitL_drop off hy)) w v hv
          have hne : f.name ≠ "_" := by simpa using hn
          rw [eqvL_split (P.cellsOf f.type) (xs := xs.drop off) (ys := ys.drop off) (by simp; omega)]
          simp only [Op.eqFields, if_pos hne, Sem.run_bind, hof, r1, r2, r3, Result.andThen_ok]
          cases eqvL ((xs.drop off).take (P.cellsOf f.type)) ((ys.drop off).take (P.cellsOf f.type)) with
          | false => simp
          | true =>
            simp only [Bool.not_true, Bool.false_eq_true, if_false, Bool.true_and, List.drop_drop]
            exact ih'
      have := key fs.toList 0 z rfl (Nat.zero_le _) hf
      simpa using this
    · -- an array
      rename_i n e hfs
      cases hfs
      simp only [Bool.and_eq_true, beq_iff_eq, decide_eq_true_eq] at h
      obtain ⟨⟨⟨hc, hne⟩, hn0⟩, hel⟩ := h
      rw [List.all_eq_true] at hel
      show (Op.equalIn (D + 1) t (.agg xs.toArray) (.agg ys.toArray)).run P w = _
      obtain ⟨hcl0, v, hv, hv1⟩ := cmpB_cells (hel 0 (by simp; omega))
      have hs : (Go.sizeOf e).run P w = .ok (P.cellsOf e) w := by
        obtain ⟨i, hi⟩ : ∃ i, P.info? e = some i := by
          unfold Program.underlying at hv
          cases hi : P.info? e with
          | none => simp [hi] at hv
          | some i => exact ⟨i, rfl⟩
        simp [Go.sizeOf, typeInfo, hi, Program.cellsOf]
      simp only [Op.equalIn, Sem.run_bind, run_underlying hu, Result.andThen_ok, hs]
      rw [Std.Legacy.Range.forIn_eq_forIn_range']
      simp only [Std.Legacy.Range.size, Nat.sub_zero, Nat.add_sub_cancel, Nat.div_one]
      have key : ∀ (m k : Nat), k + m = n → ((forIn (List.range' k m) ((none, ()) : Option Bool × Unit) fun i __s => (do
            let a ← part e xs.toArray (i * P.cellsOf e)
            let b ← part e ys.toArray (i * P.cellsOf e)
            let q ← Op.equalIn D e a b
            if (!q) = true then pure (ForInStep.done (some false, ())) else pure (ForInStep.yield (none, ())) : Sem _)).run P w) = .ok (if eqvL (xs.drop (P.cellsOf e * k)) (ys.drop (P.cellsOf e * k)) = true then (none, ()) else (some false, ())) w := by
        intro m
        induction m with
        | zero =>
          intro k hk
          have hkn : k = n := by omega
          subst hkn
          rw [List.drop_eq_nil_of_le (by omega), List.drop_eq_nil_of_le (by omega)]
          simp [eqvL]
        | succ m ih =>
          intro k hk
          have hcb := hel k (by simp; omega)
          obtain ⟨hcl, v', hv', hv1'⟩ := cmpB_cells hcb
          have hkl : P.cellsOf e * k + P.cellsOf e ≤ z.length := by
            rw [← hne]
            have : P.cellsOf e * (k + 1) ≤ P.cellsOf e * n := Nat.mul_le_mul_left _ (by omega)
            rw [Nat.mul_add, Nat.mul_one] at this; exact this
          have r1 := run_part hv' rfl hv1' (cs := xs) (off := P.cellsOf e * k) (by omega) w
          have r2 := run_part hv' rfl hv1' (cs := ys) (off := P.cellsOf e * k) (by omega) w
          have r3 := eqIn_ok d D e _ _ _ (by omega) hcb (fitL_take (P.cellsOf e) (fitL_drop (P.cellsOf e * k) hx)) (fitL_take (P.cellsOf e) (fitL_drop (P.cellsOf e * k) hy)) w v' hv'
          rw [eqvL_split (P.cellsOf e) (xs := xs.drop (P.cellsOf e * k)) (ys := ys.drop (P.cellsOf e * k)) (by simp; omega)]
          simp only [List.range'_succ, List.forIn_cons, Sem.run_bind, Nat.mul_comm k, r1, r2, r3, Result.andThen_ok]
          cases eqvL ((xs.drop (P.cellsOf e * k)).take (P.cellsOf e)) ((ys.drop (P.cellsOf e * k)).take (P.cellsOf e)) with
          | false => simp
          | true =>
            simp only [Bool.not_true, Bool.false_eq_true, if_false, Bool.true_and, List.drop_drop, Sem.run_pure, Result.andThen_ok]
            have := ih (k + 1) (by omega)
            rw [show P.cellsOf e * (k + 1) = P.cellsOf e * k + P.cellsOf e by rw [Nat.mul_add, Nat.mul_one]] at this
            exact this
      have := key n 0 (by omega)
      simp only [Nat.mul_zero, List.drop_zero] at this
      rw [this]
      cases eqvL xs ys <;> simp
    · -- a plain one
      rename_i u' hn1 hn2 hu'
      cases hu'
      split at h
      · rename_i v
        simp only [Bool.and_eq_true, beq_iff_eq] at h
        obtain ⟨hlf, _⟩ := h
        have hg : isAggB u = false := by
          cases u <;> simp_all [leafB, isAggB]
        rw [hg]
        match xs, ys, hx, hy with
        | [a], [b], hx, hy =>
          simp only [fitL, Bool.and_true] at hx hy
          simp only [vOf, Bool.false_eq_true, if_false, List.headD_cons, eqvL, Bool.and_true]
          unfold leafB at hlf
          split at hlf
          · rename_i k k' m
            cases a <;> simp [sameK] at hx
            cases b <;> simp [sameK] at hy
            subst hx; subst hy
            exact run_equalIn_int w D t _ _ _ _ hu
          · cases a <;> simp [sameK] at hx
            cases b <;> simp [sameK] at hy
            exact run_equalIn_bool w D t _ _ hu
          · cases a <;> simp [sameK] at hx
            cases b <;> simp [sameK] at hy
            exact run_equalIn_string w D t _ _ hu
          · cases hlf
        | [], _, hx, _ => simp [fitL] at hx
        | _ :: _ :: _, _, hx, _ => simp [fitL] at hx
        | [_], [], _, hy => simp [fitL] at hy
        | [_], _ :: _ :: _, _, hy => simp [fitL] at hy
      · cases h
    · cases h
end
/-- Plain values, told one by one. -/
def kvals : List DV → Option (List Value)
  | [] => some []
  | .sc v :: l => match kvals l with | some vs => some (v :: vs) | none => none
  | _ => none
theorem kvals_V {c : Cf} : ∀ {l : List DV} {vs us : List Value}, kvals l = some vs → us.length = l.length → (∀ (j : Nat) (x : DV) (u : Value), l[j]? = some x → us[j]? = some u → V c x u) → us = vs
  | [], vs, us, h, hl, _ => by simp [kvals] at h; subst h; exact List.eq_nil_of_length_eq_zero hl
  | x :: l, vs, us, h, hl, hv => by
    cases us with
    | nil => simp at hl
    | cons u us =>
      have h0 := hv 0 x u rfl rfl
      cases x <;> simp only [kvals] at h <;> try (cases h; done)
      rename_i v
      split at h
      · rename_i vs' hvs
        cases h
        have := kvals_V hvs (by simpa using hl) (fun j x u hx hu => hv (j + 1) x u (by simpa using hx) (by simpa using hu))
        subst this
        cases h0; rfl
      · cases h
theorem agg_V {c : Cf} {l : List DV} {us : List Value} {v : Value} (h : V c (.agg l) v) (hk : kvals l = some us) : v = .agg us.toArray := by
  cases h with
  | agg hl hv => rw [kvals_V hk hl hv]
end Go.Proofs.Ytdkhlhfdjggbpaa.Cm
