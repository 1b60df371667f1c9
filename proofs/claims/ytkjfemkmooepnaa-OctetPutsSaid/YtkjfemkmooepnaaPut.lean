/- Contracts of octet.Put and octet.Pad. -/
import Derived.Test.YtkjfemkmooepnaaOct
namespace Go.Proofs.Ytkjfemkmooepnaa.Oct
open Go.RowKit Go.Proofs.YtkjfemkmooepnaaW.PrintWords Go.Proofs.YtkjfemkmooepnaaW.PrintLast Go.Proofs.YtkjfemkmooepnaaW.PrintMore
set_option linter.unusedVariables false
set_option linter.unusedSimpArgs false

def digit (u : Int) (i : Nat) : Int := (u / 2 ^ (8 * i)) % 256
/-- The bytes of u below place n, the highest first. -/
def digits (u : Int) : Nat → List Int
  | 0 => []
  | n + 1 => digit u n :: digits u n
theorem digits_length (u : Int) : ∀ n, (digits u n).length = n
  | 0 => rfl
  | n + 1 => by simp [digits, digits_length u n]
/-- What 'Put' answers: its error, and its bytes. -/
def putE (n u : Int) : Int := if 1 ≤ n ∧ n ≤ 8 then (if n < 8 ∧ u / 2 ^ (8 * n).toNat ≠ 0 then 3 else 0) else 2
def putB (l : List Int) (n u : Int) : List Int := if putE n u = 0 then l ++ digits u n.toNat else []

section
variable {α : Type} {P : Program} {ops : Array Oper} {rest : List Oper} {o : Oper} {a : Act} {Q : Exit → Act → World → Prop}
/-- 'make([]T, 0, n)'. -/
theorem R_makeCap (d : Kd α) {w0 W : World} (base e : Nat) (ok : Nat → Prop) (hgd : o.guard = none) (t : TypeId) (x y : Operand) (ho : o.op = .makeSlice t x y) (n : Int) (hx : a.eval x = .int .i64 0) (hy : a.eval y = .int .i64 n)
    (ht : P.underlying t = some (.slice e)) (z : Value) (bytes : Nat) (hinfo : (P.info? e).map (fun i => (i.zero, i.size, i.bytes)) = some (some z, d.sz, bytes)) (hb0 : 0 < bytes)
    (hfresh : ok W.heap.size) (h0 : 0 ≤ n) (hl : bytes * n.toNat ≤ 281474976710656) (HB : Below base w0 W) (hbase : base ≤ W.heap.size)
    (h : ∀ v1 w1, d.R e w1 base ok v1 [] → Below base w0 w1 → W.grownBy w1 none → (∃ b, v1.ownBlock = some b ∧ W.heap.size ≤ b) → wpList P ops Q rest (a.put o.dst v1) w1) : wpList P ops Q (o :: rest) a W := by
  obtain ⟨m, rfl⟩ := Int.eq_ofNat_of_zero_le h0
  simp only [Int.toNat_natCast] at hl
  obtain ⟨i0, hi, hzz⟩ := Option.map_eq_some_iff.1 hinfo
  simp only [Prod.mk.injEq] at hzz
  obtain ⟨hz0, hz1, hz2⟩ := hzz
  have hm : m ≤ 281474976710656 := Nat.le_trans (Nat.le_mul_of_pos_left _ hb0) hl
  obtain ⟨w1, hrun, hown, hg⟩ := run_make_own (P := P) W base t e i0 z d.sz ht hi hz0 hz1 .i64 .i64 m (by rw [hz2]; exact hl) (by simp only [maxLen]; omega) hbase
  refine Kd.event_run hgd (v := .slice (some ⟨W.heap.size, 0, none⟩) 0 m) (w1 := w1) ?_ (h _ _ ⟨fun k hk => ?_, [], hown, Reps.none _ _⟩ (HB.grown hg hbase (by simp)) hg ⟨W.heap.size, by simp [Value.ownBlock], Nat.le_refl _⟩)
  · simp [execOp, ho, hx, hy, hrun]
  · have : W.heap.size = k := by simpa [Value.ownBlock] using hk
    subst this
    exact hfresh
end

set_option maxHeartbeats 1600000 in
theorem put_calls {w : World} {A : Option Addr} {c : Nat} {l : List Int} (hr : Kd.C (Kd.int .u8) w A l.length l) (hc : l.length ≤ c) (hl : l.length ≤ 140737488355000) (n u : Int) (hn1 : 1 ≤ n) (hn8 : n ≤ 8) (hu : n < 8 → u / 2 ^ (8 * n).toNat = 0) :
    Calls Try.prog 10 #[.slice A l.length c, .int .i64 n, .int .u64 u] w fun e w' => ∃ v, e = .returned (.tuple #[v, .int .i64 0]) ∧ Kd.R (Kd.int .u8) 5 w' w.heap.size (fun _ => True) v (l ++ digits u n.toNat) ∧ Below w.heap.size w w' := by
  have HR := Aside0.mk hr
  clear hr
  have hcase : (n < 8 ∧ (u / 2 ^ (8 * n).toNat != 0) = false) ∨ ¬ n < 8 := by
    by_cases h8 : n < 8
    · exact .inl ⟨h8, by simp [hu h8]⟩
    · exact .inr h8
  clear hu
  rcases hcase with ⟨h8, hq⟩ | h8
  all_goals
    go_enter Try.func10, Try.ntmps10
    go_wp2_with (first
      | (at_make; refine R_makeCap (Kd.int .u8) (w0 := w) w.heap.size 5 (fun _ => True) rfl 22 _ _ rfl (↑l.length + n) rfl rfl Try.underlying22 (.int .u8 0) 1 info5 (by decide) trivial ?mA ?mB (Below.refl _ _) (Nat.le_refl _) ?_; (case mA => omega); (case mB => omega); intro v1 w1 ho hb hg hat; have HO := Aside0.mk ho; have HB := Aside0.mk hb; clear ho hb hg hat; obtain ⟨Ao, co, eo⟩ := Kd.R_slice HO.out; subst eo)
      | (at_builtin; refine Kd.R_append_rows (Kd.int .u8) (w0 := w) w.heap.size rfl (.tmp 31) (.tmp 32) 22 5 (.int .u8 0) 1 rfl Try.underlying22 info5 rfl (by decide) (by omega) _ [] l A l.length c (fun _ => True) (fun _ => False) rfl rfl HO.out (Kd.C_below HR.out HB.out) (fun _ _ h => h) (fun _ h => h.elim) (fun _ _ => trivial) HB.out HB.out.size ?aL ?_; (case aL => simp only [List.length_nil]; omega); intro v2 w2 ho hb hg hat; rw [List.nil_append] at ho; clear HO HB; have HO := Aside0.mk ho; have HB := Aside0.mk hb; clear ho hb hg hat))
    go_loopw [8, 9] (fun v i wr => ∃ (j : Nat) (xs : List Int), j ≤ 8 ∧ i = .int .i64 ((j : Int) - 1) ∧ Aside0 (xs ++ digits u j = l ++ digits u n.toNat) ∧ Aside0 (Kd.R (Kd.int .u8) 5 wr w.heap.size (fun _ => True) v xs) ∧ Aside0 (Below w.heap.size w wr)) (fun _ i _ => (intOf i + 1).toNat)
    case atStart => exact ⟨n.toNat, l, by omega, by go_num, ⟨rfl⟩, HO, HB⟩
    case round =>
      clear HO HB
      obtain ⟨j, xs, hj, rfl, HX, HO, HB⟩ := hrel
      cases j with
      | zero =>
        go_wp2
        go_ret2
        exact ⟨_, rfl, by have := HX.out; simp only [digits, List.append_nil] at this; rw [← this]; exact HO.out, HB.out⟩
      | succ j =>
        have hlen : xs.length ≤ 140737488355300 := by
          have := congrArg List.length HX.out
          simp only [List.length_append, digits_length] at this
          omega
        have hj' : ((j + 1 : Nat) : Int) - 1 = (j : Int) := by omega
        rw [hj']
        clear hj'
        have hs : (8 * (j : Int)).toNat = 8 * j := by omega
        have HS := Aside0.mk hs
        clear hs
        go_wp2_with (at_builtin; refine Kd.R_append (Kd.int .u8) (w0 := w) w.heap.size rfl (.tmp 40) (.tmp 46) 22 5 (.int .u8 0) 1 rfl Try.underlying22 info5 rfl (by decide) (by omega) _ xs (digit u j) [.int .u8 (digit u j)] (fun _ => True) (fun _ => False) rfl rfl rfl (fun _ h => h.elim) (fun _ _ => trivial) HO.out HB.out HB.out.size ?aM ?_; (case aM => omega); intro v3 w3 ho hb hg hat; have HO1 := Aside0.mk ho; have HB1 := Aside0.mk hb; clear ho hb hg hat)
        go_roundw
        case rel => exact ⟨j, xs ++ [digit u j], by omega, rfl, ⟨by have := HX.out; rw [← this]; simp [digits]⟩, HO1, HB1⟩
        case measure => simp [intOf]

theorem putE_ok {n u : Int} (hn1 : 1 ≤ n) (hn8 : n ≤ 8) (hu : n < 8 → u / 2 ^ (8 * n).toNat = 0) : putE n u = 0 := by
  unfold putE
  rw [if_pos ⟨hn1, hn8⟩, if_neg (fun h => h.2 (hu h.1))]

/-- 'Put', whatever it is asked. -/
theorem put_any {w : World} {A : Option Addr} {c : Nat} {l : List Int} (hr : Kd.C (Kd.int .u8) w A l.length l) (hc : l.length ≤ c) (hl : l.length ≤ 140737488355000) (n u : Int) :
    Calls Try.prog 10 #[.slice A l.length c, .int .i64 n, .int .u64 u] w fun e w' => ∃ v, e = .returned (.tuple #[v, .int .i64 (putE n u)]) ∧ Kd.R (Kd.int .u8) 5 w' w.heap.size (fun _ => True) v (putB l n u) ∧ Below w.heap.size w w' := by
  by_cases h1 : 1 ≤ n
  · by_cases h8 : n ≤ 8
    · by_cases hu : n < 8 ∧ u / 2 ^ (8 * n).toNat ≠ 0
      · have e0 : putE n u = 3 := by unfold putE; rw [if_pos ⟨h1, h8⟩, if_pos hu]
        have e1 : putB l n u = [] := by unfold putB; rw [e0]; simp
        rw [e0, e1]
        clear e0 e1
        obtain ⟨hlt, hne⟩ := hu
        have hq : (u / 2 ^ (8 * n).toNat != 0) = true := by simp [hne]
        clear hr hne
        go_enter Try.func10, Try.ntmps10
        go_wp2
        go_ret2
        exact ⟨_, rfl, Kd.R_nil _ _ _ _ _, Below.refl _ _⟩
      · have hu' : n < 8 → u / 2 ^ (8 * n).toNat = 0 := fun h => Decidable.byContradiction fun h' => hu ⟨h, h'⟩
        have e0 := putE_ok h1 h8 hu'
        have e1 : putB l n u = l ++ digits u n.toNat := by unfold putB; rw [e0]; simp
        rw [e0, e1]
        exact put_calls hr hc hl n u h1 h8 hu'
    · have e0 : putE n u = 2 := by unfold putE; rw [if_neg (fun h => h8 h.2)]
      have e1 : putB l n u = [] := by unfold putB; rw [e0]; simp
      rw [e0, e1]
      clear e0 e1 hr
      go_enter Try.func10, Try.ntmps10
      go_wp2
      go_ret2
      exact ⟨_, rfl, Kd.R_nil _ _ _ _ _, Below.refl _ _⟩
  · have e0 : putE n u = 2 := by unfold putE; rw [if_neg (fun h => h1 h.1)]
    have e1 : putB l n u = [] := by unfold putB; rw [e0]; simp
    rw [e0, e1]
    clear e0 e1 hr
    go_enter Try.func10, Try.ntmps10
    go_wp2
    go_ret2
    exact ⟨_, rfl, Kd.R_nil _ _ _ _ _, Below.refl _ _⟩

theorem grown_setRow (w : World) (g : Nat) (cs : Array Value) : w.grownBy (w.setRow g cs) (some g) :=
  ⟨rfl, rfl, rfl, by simp [World.setRow], fun k _ hk => setRow_other w g k cs (fun e => hk (by rw [e]))⟩
section
variable {P : Program} {ops : Array Oper} {rest : List Oper} {o : Oper} {a : Act} {Q : Exit → Act → World → Prop}
/-- 'copy(v, s)': what is copied is no longer than the row of one's own. -/
theorem R_copy (k : IntKind) {w0 W : World} (base e : Nat) (ok : Nat → Prop) (hgd : o.guard = none) (d s : Operand) (t : TypeId) (ho : o.op = .call { callee := .builtin .copy, args := #[d, s], argTypes := #[t, t] })
    (ht : P.underlying t = some (.slice e)) (hsz : (P.info? e).map (·.size) = some 1) (v : Value) (xs ys : List Int) (A : Option Addr) (c : Nat) (hd : a.eval d = v) (hs : a.eval s = .slice A ys.length c)
    (HO : (Kd.int k).R e W base ok v xs) (HR : (Kd.int k).C W A ys.length ys) (hm : ys.length ≤ xs.length) (HB : Below base w0 W)
    (h : ∀ w1, (Kd.int k).R e w1 base ok v (ys ++ xs.drop ys.length) → Below base w0 w1 → W.grownBy w1 v.ownBlock → wpList P ops Q rest (a.put o.dst (goInt ys.length)) w1) : wpList P ops Q (o :: rest) a W := by
  have hown := Kd.own_of_R HO
  have hok := HO.1
  by_cases h0 : ys.length = 0
  · obtain rfl : ys = [] := List.eq_nil_of_length_eq_zero h0
    obtain ⟨A', c', rfl⟩ := own_slice hown
    refine wpList_copy_nothing hgd d s t t ho e ht hsz A' A _ _ _ _ hd hs (by simp) ?_
    exact h W (by simpa using HO) HB (World.grownBy.refl _ _)
  · obtain ⟨hl1, h2⟩ := hown
    rcases h2 with ⟨rfl, hz⟩ | ⟨g, cap, cur, rfl, hb, hh, hnc, hcm, hcs, htk⟩
    · omega
    · have hrd := Kd.reads_of_C (d := (0 : Int)) HR
      obtain ⟨ad, rfl, hcell⟩ := hrd.2.2 (by omega)
      refine wpList_copy_own hgd d s t t ho e ht hsz g 0 _ _ ad _ _ hd hs cur e hh (encs (Value.int k) ys) ?_ ?_ ?_ ?_ ?_
      · rw [encs_length]; exact (Nat.min_eq_left hm).symm
      · intro j u hj
        have hjl : j < ys.length := by have := (List.getElem?_eq_some_iff.1 hj).1; rw [encs_length] at this; exact this
        rw [encs_get (d := (0 : Int)) ys j hjl] at hj
        injection hj with hj
        subst hj
        exact hcell j hjl
      · rw [encs_length]; omega
      · intro u hu
        simp only [encs, List.mem_map] at hu
        obtain ⟨x, _, rfl⟩ := hu
        rfl
      · rw [encs_length]
        refine h _ ?_ (below_setRow HB hb _) (grown_setRow W g _)
        refine Kd.R_of_own (h1 := fun _ => rfl) ?_ hok
        refine ⟨by rw [encs_length, Nat.mul_one], .inr ⟨g, cap, _, ?_, hb, setRow_heap W g cur _ e _ hh, ?_, hcm, ?_, ?_⟩⟩
        · rw [List.length_append, List.length_drop]; congr 1; omega
        · rw [List.length_append, List.length_drop]; omega
        · simp [encs]; omega
        · have e1 : cur.toList.take xs.length = encs (Value.int k) xs := by rw [← htk, Nat.mul_one]
          have e2 : (ys ++ xs.drop ys.length).length = xs.length := by rw [List.length_append, List.length_drop]; omega
          rw [e2, Nat.mul_one]
          simp only [List.take_zero, List.nil_append, Nat.zero_add, encs_append]
          rw [List.take_append, encs_length]
          have e3 : (encs (Value.int k) ys).take xs.length = encs (Value.int k) ys := List.take_of_length_le (by rw [encs_length]; exact hm)
          rw [e3]
          congr 1
          have e4 : encs (Value.int k) (xs.drop ys.length) = (encs (Value.int k) xs).drop ys.length := by simp [encs, List.map_drop]
          rw [e4, ← e1, List.drop_take]
end

/-- What 'Pad' answers. -/
def padF (l : List Int) : List Int := l ++ List.replicate ((l.length + 3) / 4 * 4 - l.length) 0
set_option maxHeartbeats 800000 in
theorem pad_calls {w : World} {A : Option Addr} {c : Nat} {l : List Int} (hr : Kd.C (Kd.int .u8) w A l.length l) (hc : l.length ≤ c) (hl : l.length ≤ 140737488355000) :
    Calls Try.prog 12 #[.slice A l.length c] w fun e w' => ∃ v, e = .returned v ∧ Kd.R (Kd.int .u8) 5 w' w.heap.size (fun _ => True) v (padF l) ∧ Below w.heap.size w w' := by
  have HR := Aside0.mk hr
  clear hr
  have hi5 : (Try.prog.info? 5).map (·.size) = some 1 := by
    obtain ⟨i5, hi5, _, hs5, _⟩ := info_parts info5
    rw [hi5]; simp [hs5]
  have HI := Aside0.mk hi5
  clear hi5
  have hN : (((l.length : Int) + 3) / 4 * 4).toNat = (l.length + 3) / 4 * 4 := by omega
  have HN := Aside0.mk hN
  clear hN
  obtain ⟨Z, hZ⟩ : ∃ Z, Z = List.replicate ((l.length + 3) / 4 * 4) (0 : Int) := ⟨_, rfl⟩
  have hZl : l.length ≤ Z.length := by rw [hZ, List.length_replicate]; omega
  have HZ := Aside0.mk hZ
  clear hZ
  go_enter Try.func12, Try.ntmps12
  go_wp2_with (first
    | (at_make; refine Kd.R_make (Kd.int .u8) (w0 := w) w.heap.size 5 rfl (N := 9) rfl 22 _ _ rfl ((↑l.length + 3) / 4 * 4) rfl rfl Try.underlying22 (.int .u8 0) 1 info5 rfl (by decide) (by decide) (0 : Int) (ok := fun _ => True) (okp := fun _ => False) rfl (fun _ h => h.elim) trivial ?mA ?mB (Below.refl _ _) (Nat.le_refl _) ?_; (case mA => omega); (case mB => omega); intro v1 w1 ho hb hg hat; rw [HN.out, ← HZ.out] at ho; have HO := Aside0.mk ho; have HB := Aside0.mk hb; clear ho hb hg hat; obtain ⟨Ao, co, eo⟩ := Kd.R_slice HO.out; subst eo)
    | ((with_reducible refine gate_builtin (b := .copy) (xs := #[.tmp 10, .tmp 11]) rfl ?_); refine R_copy .u8 (w0 := w) w.heap.size 5 (fun _ => True) rfl (.tmp 10) (.tmp 11) 22 rfl Try.underlying22 HI.out (.slice Ao Z.length co) Z l A c rfl rfl HO.out (Kd.C_below HR.out HB.out) ?cM HB.out ?_; (case cM => exact hZl); intro w2 ho hb hg; clear HO HB; have HO := Aside0.mk ho; have HB := Aside0.mk hb; clear ho hb hg))
  go_ret
  have hp : l ++ Z.drop l.length = padF l := by rw [HZ.out, List.drop_replicate]; rfl
  exact ⟨_, rfl, by rw [← hp]; exact HO.out, HB.out⟩
/-- 'string(b)'. -/
theorem conv {w : World} {A : Option Addr} {n c : Nat} {xs : List Int} (h : Kd.C (Kd.int .u8) w A n xs) : (convert 22 9 (.slice A n c)).run Try.prog w = .ok (.string (strOfNums xs)) w :=
  Kd.C_string (P := Try.prog) Try.underlying22 Try.underlying5 Try.underlying9 h
/-- A slice of whole numbers among the arguments. -/
def IsRow (k : IntKind) (w : World) (a : Option Addr) (len cap : Nat) (zs : List Int) : Prop :=
  (a = none ∧ len = 0 ∧ cap = 0 ∧ zs = []) ∨
  ∃ x, a = some x ∧ len ≤ cap ∧ cap ≤ maxLen ∧ zs.length = cap ∧ (∀ i, i < zs.length → w.cell? (x.add i) = some (.int k (zs.getD i 0))) ∧ ∀ n ∈ zs, (Lit.int k n).wf = true
end Go.Proofs.Ytkjfemkmooepnaa.Oct
