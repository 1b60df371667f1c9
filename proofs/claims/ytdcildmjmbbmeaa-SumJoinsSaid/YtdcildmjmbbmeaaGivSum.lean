/- The contract of sum.Of: the check sum of bytes. -/
import Derived.Test.YtdcildmjmbbmeaaOct
import Derived.ArgAppend
import Derived.Laws.BitsAllLaws
namespace Go.Proofs.Ytdcildmjmbbmeaa.Giv
open Go.RowKit Go.Proofs.YtdcildmjmbbmeaaW.PrintWords Go.Proofs.YtdcildmjmbbmeaaW.PrintLast Go.Proofs.YtdcildmjmbbmeaaW.PrintMore Go.Proofs.Ytdcildmjmbbmeaa.Oct
set_option linter.unusedVariables false
set_option linter.unusedSimpArgs false

/-- The sum with carry. -/
def addF (a b : Int) : Int := if a + b > 65535 then a + b - 65535 else a + b
/-- The sum with carry of bytes as words, behind n; a last byte alone is a word's high one. -/
def wordsF : List Int → Int → Int
  | [], n => n
  | [x], n => addF n (x * 256)
  | x :: y :: r, n => wordsF r (addF n (x * 256 + y))
def ofF (l : List Int) : Int := 65535 - wordsF l 0
def okB (l : List Int) : Prop := ∀ x ∈ l, 0 ≤ x ∧ x ≤ 255
instance (l : List Int) : Decidable (okB l) := by unfold okB; exact inferInstance
theorem addF_range {a b : Int} (h0 : 0 ≤ a) (h1 : a ≤ 65535) (h2 : 0 ≤ b) (h3 : b ≤ 65535) : 0 ≤ addF a b ∧ addF a b ≤ 65535 := by unfold addF; split <;> omega
theorem wordsF_snoc0 : ∀ (l : List Int) (n : Int), l.length % 2 = 1 → wordsF (l ++ [0]) n = wordsF l n
  | [], n, h => by simp at h
  | [x], n, _ => by simp [wordsF]
  | x :: y :: r, n, h => by
    have := wordsF_snoc0 r (addF n (x * 256 + y)) (by simp at h; omega)
    simpa [wordsF] using this
theorem wordsF_range : ∀ (l : List Int) (n : Int), okB l → 0 ≤ n → n ≤ 65535 → 0 ≤ wordsF l n ∧ wordsF l n ≤ 65535
  | [], n, _, h0, h1 => ⟨h0, h1⟩
  | [x], n, hb, h0, h1 => by
    have := hb x (by simp)
    exact addF_range h0 h1 (by omega) (by omega)
  | x :: y :: r, n, hb, h0, h1 => by
    have hx := hb x (by simp)
    have hy := hb y (by simp)
    have := addF_range h0 h1 (b := x * 256 + y) (by omega) (by omega)
    exact wordsF_range r _ (fun z hz => hb z (by simp [hz])) this.1 this.2

theorem or_step {u c : Int} (h0 : 0 ≤ u) (h1 : u * 256 + c < 18446744073709551616) (h2 : 0 ≤ c) (h3 : c ≤ 255) : Go.bits .or .u64 (IntKind.u64.wrap (u * 256)) (IntKind.u64.wrap c) = u * 256 + c := by
  have e1 : IntKind.u64.wrap (u * 256) = u * 256 := by rw [IntKind.wrap_u64]; omega
  have e2 : IntKind.u64.wrap c = c := by rw [IntKind.wrap_u64]; omega
  rw [e1, e2, u64_or _ _ (by omega) (by omega) (by omega) (by omega)]
  obtain ⟨a, rfl⟩ := Int.eq_ofNat_of_zero_le h0
  obtain ⟨b, rfl⟩ := Int.eq_ofNat_of_zero_le h2
  have e3 : ((a : Int) * 256).toNat = a <<< 8 := by rw [Nat.shiftLeft_eq]; omega
  rw [e3, Int.toNat_natCast, ← Nat.shiftLeft_add_eq_or_of_lt (by omega : b < 2 ^ 8), Nat.shiftLeft_eq]
  omega
theorem uintF_two {x y : Int} (hx : 0 ≤ x ∧ x ≤ 255) (hy : 0 ≤ y ∧ y ≤ 255) : uintF [x, y] = x * 256 + y := by
  unfold uintF
  simp only [List.foldl_cons, List.foldl_nil]
  rw [or_step (u := 0) (by omega) (by omega) hx.1 hx.2, or_step (by omega) (by omega) hy.1 hy.2]
  omega

set_option maxHeartbeats 400000 in
theorem add_calls (a b : Int) (h0 : 0 ≤ a) (h1 : a ≤ 65535) (h2 : 0 ≤ b) (h3 : b ≤ 65535) (w : World) :
    Calls Try.prog 10 #[.int .u16 a, .int .u16 b] w fun e w' => e = .returned (.int .u16 (addF a b)) ∧ w = w' := by
  have he : ((a + b) + (a + b) / 65536) % 65536 = addF a b := by unfold addF; split <;> omega
  have HE := Aside0.mk he
  clear he
  go_enter Try.func10, Try.ntmps10
  go_wp2
  go_ret
  refine ⟨?_, rfl⟩
  rw [← HE.out]
  show Ending.returned (.int .u16 (IntKind.u16.wrap _)) = _
  rw [IntKind.wrap_u16]

/-- 'append(s, x)' where s, read, is full: a new row. -/
theorem R_append_full {P : Program} {ops : Array Oper} {rest : List Oper} {o : Oper} {a : Act} {Q : Exit → Act → World → Prop} (k : IntKind) {W : World} (bytes : Nat) (hgd : o.guard = none) (s x : Operand) (t e : TypeId)
    (ho : o.op = .call { callee := .builtin .append, args := #[s, x], argTypes := #[t, t] }) (ht : P.underlying t = some (.slice e))
    (hinfo : (P.info? e).map (fun i => (i.zero, i.size, i.bytes)) = some (some (.int k 0), 1, bytes)) (A : Option Addr) (c : Nat) (l : List Int) (y : Int) (hs : a.eval s = .slice A l.length l.length) (hx : a.eval x = .slice (some ⟨W.heap.size, 0, none⟩) 1 1)
    (HR : (Kd.int k).C W A l.length l) (hl : (l.length + 1) * bytes ≤ 140737488355328) (hl2 : l.length + 1 ≤ maxLen)
    (h : ∀ v1 w1, (Kd.int k).R e w1 (W.heap.size + 1) (fun _ => True) v1 (l ++ [y]) → Below W.heap.size W w1 → wpList P ops Q rest (a.put o.dst v1) w1) : wpList P ops Q (o :: rest) a (W.alloc (.cells #[.int k y] e)) := by
  obtain ⟨i0, hi, hzz⟩ := Option.map_eq_some_iff.1 hinfo
  simp only [Prod.mk.injEq] at hzz
  obtain ⟨hz0, hz1, hz2⟩ := hzz
  have hrd := Kd.reads_of_C (d := (0 : Int)) (Kd.C_alloc HR (.cells #[.int k y] e))
  refine wpList_append_grows _ hgd s x t ho e i0 (.int k 0) 1 bytes ht hi hz0 hz1 hz2 rfl (by omega) A l.length l.length (encs (Value.int k) l) hs ?_ (by rw [encs_length, Nat.mul_one]) ?_ ⟨W.heap.size, 0, none⟩ 1 1 [.int k y] hx rfl ?_ (by intro u hu; simp at hu; subst hu; rfl) (by omega) hl2 hl ?_
  · rintro rfl
    rcases Nat.eq_zero_or_pos l.length with h0 | h0
    · exact ⟨h0, h0⟩
    · obtain ⟨ad, he, _⟩ := hrd.2.2 h0
      cases he
  · rintro b rfl j u hj
    have hjl : j < l.length := by have := (List.getElem?_eq_some_iff.1 hj).1; rw [encs_length] at this; exact this
    obtain ⟨ad, he, hc⟩ := hrd.2.2 (by omega)
    cases he
    rw [encs_get (d := (0 : Int)) l j hjl] at hj
    injection hj with hj
    subst hj
    exact hc j hjl
  · intro j u hj
    match j, hj with
    | 0, hj =>
      simp at hj
      subst hj
      simp [Addr.add]
  · intro v1 w1 hown hg
    refine h v1 w1 ?_ ?_
    · refine Kd.R_of_own (h1 := fun _ => rfl) ?_ (fun _ _ => trivial)
      have e1 : (l ++ [y]).length = l.length + 1 := by simp
      rw [e1, encs_append]
      have hown' := hown
      rw [show (W.alloc (.cells #[.int k y] e)).heap.size = W.heap.size + 1 by simp] at hown'
      exact hown'
    · exact (below_alloc (Below.refl _ _) _).grown hg (by simp) (by simp)

theorem two_left (x y : Int) (r : List Int) : takeO (x :: y :: r) 0 2 (ub 2) = [x, y] ∧ takeL (x :: y :: r) 0 2 (ub 2) = r ∧ takeE (x :: y :: r) 0 2 (ub 2) = 0 := by
  have h : (2 : Int) ≤ ((x :: y :: r).length : Int) := by simp only [List.length_cons]; omega
  have hc : (0 : Int) = 0 ∧ ub 2 = true ∧ (2 : Int) ≤ ((x :: y :: r).length : Int) := ⟨rfl, by decide, h⟩
  refine ⟨?_, ?_, ?_⟩
  · unfold takeO; rw [if_pos hc]; rfl
  · unfold takeL; rw [if_pos hc]; rfl
  · unfold takeE; rw [if_pos rfl, if_pos (by decide), if_pos h]

theorem xor_max {n : Int} (h0 : 0 ≤ n) (h1 : n ≤ 65535) : Go.bits .xor .u16 IntKind.u16.max n = 65535 - n := by
  obtain ⟨m, rfl⟩ := Int.eq_ofNat_of_zero_le h0
  have e : IntKind.u16.max = ((65535 : Nat) : Int) := by decide
  rw [e, u16_xor_nat _ _ (by omega) (by omega)]
  have h2 : (65535 : Nat) ^^^ m = 65535 - m := by
    have h3 := congrArg BitVec.toNat (BitVec.allOnes_xor (x := BitVec.ofNat 16 m))
    rw [BitVec.toNat_xor, BitVec.toNat_not, BitVec.toNat_allOnes, BitVec.toNat_ofNat, Nat.mod_eq_of_lt (by omega)] at h3
    simpa using h3
  rw [h2]
  omega

def sum_Of.f (l : List Int) : Option Int := if l.length ≤ 140737488351232 ∧ okB l then some (ofF l) else none

set_option maxHeartbeats 3200000 in
theorem of_any {w : World} {A : Option Addr} {c : Nat} {l : List Int} (hr : Kd.C (Kd.int .u8) w A l.length l) (hc : l.length ≤ c) (hl : l.length ≤ 140737488351232) (hb : okB l) :
    Calls Try.prog 12 #[.slice A l.length c] w fun e w' => e = .returned (.int .u16 (ofF l)) ∧ Below w.heap.size w w' := by
  have HR := Aside0.mk hr
  have HBY := Aside0.mk hb
  clear hr hb
  by_cases he : l.length % 2 = 0
  have hm : ((l.length : Int) % 2 == 1) = false := by simp; omega
  obtain ⟨l', hl'⟩ : ∃ l', l' = l := ⟨_, rfl⟩
  have HE0 : Aside0 (l'.length % 2 = 0) := ⟨by rw [hl']; exact he⟩
  have HW0 : Aside0 (wordsF l' 0 = wordsF l 0) := ⟨by rw [hl']⟩
  have HBY0 : Aside0 (okB l') := ⟨by rw [hl']; exact HBY.out⟩
  have HR0 : Aside0 (Kd.C (Kd.int .u8) w A l'.length l') := ⟨by rw [hl']; exact HR.out⟩
  have HB0 := Aside0.mk (Below.refl w.heap.size w)
  have hl0 : l'.length ≤ 140737488351240 := by rw [hl']; omega
  have hc0 : l'.length ≤ c := by rw [hl']; exact hc
  have hll : l.length = l'.length := by rw [hl']
  clear he
  go_enter Try.func12, Try.ntmps12
  go_wp2_with fail
  rw [hll]
  clear hl' hll
  rotate_left
  have hm : ((l.length : Int) % 2 == 1) = true := by simp; omega
  obtain ⟨i5, hi5, _, hs5, _⟩ := info_parts info5
  have hs1 := cut_cap (P := Try.prog) 22 5 .i64 .i64 Try.underlying22 hi5 A l.length c (l.length : Int) (by omega) (by omega)
  simp only [Int.toNat_natCast] at hs1
  have HE0 : Aside0 ((l ++ [0]).length % 2 = 0) := ⟨by simp; omega⟩
  have HW0 : Aside0 (wordsF (l ++ [0]) 0 = wordsF l 0) := ⟨wordsF_snoc0 l 0 (by omega)⟩
  have HBY0 : Aside0 (okB (l ++ [0])) := ⟨fun x hx => (List.mem_append.1 hx).elim (HBY.out x) (fun h => by simp at h; omega)⟩
  have hl0 : (l ++ [0]).length ≤ 140737488351240 := by simp; omega
  obtain ⟨l', hl'⟩ : ∃ l', l' = l ++ [0] := ⟨_, rfl⟩
  rw [← hl'] at HE0 HW0 HBY0 hl0
  have HL' := Aside0.mk hl'
  clear he hl' hi5 hs5
  go_enter Try.func12, Try.ntmps12
  go_wp2_with (at_builtin; refine R_append_full .u8 1 rfl (.tmp 14) (.tmp 15) 22 5 rfl Try.underlying22 info5 A c l 0 rfl rfl HR.out ?aL ?aM ?_; (case aL => omega); (case aM => simp only [maxLen]; omega); intro v1 w0 ho hb; rw [← HL'.out] at ho; have HB0 := Aside0.mk hb; have HO := Aside0.mk ho; clear ho hb; obtain ⟨A', c', eo⟩ := Kd.R_slice HO.out; subst eo)
  have HR0 := Aside0.mk (Kd.R_reads' HO.out).2.2
  have hc0 := (Kd.R_reads' HO.out).2.1
  clear HO HL'
  all_goals
    refine (new_calls HR0.out hc0 (by omega)).mono ?_
    rintro e w1 ⟨g, rfl, hR, hb1⟩
    have HR1 := Aside0.mk (hR.lower HB0.out.size)
    have HB1 := Aside0.mk (below_then HB0.out HB0.out.size hb1)
    clear hR hb1
    go_wp2_with fail
    go_loopg [3] l'.length (fun gk v3 w' => ∃ (rest : List Int) (n : Int), gk = rest.length ∧ v3 = .int .u16 n ∧ Aside0 (Rdr w' w.heap.size (fun _ => True) g rest 0) ∧ Aside0 (wordsF rest n = wordsF l 0) ∧ Aside0 (rest.length % 2 = 0) ∧ Aside0 (okB rest) ∧ Aside0 (0 ≤ n ∧ n ≤ 65535) ∧ Aside0 (Below w.heap.size w w'))
    case atStart => exact ⟨l', 0, rfl, rfl, HR1, HW0, HE0, HBY0, ⟨by omega⟩, HB1⟩
    case round =>
      clear HR1 HB1
      obtain ⟨rest, n, rfl, rfl, HR1, HW, HE1, HBY1, HN, HB1⟩ := hrel
      match rest, HE1 with
      | [], _ =>
        go_wp2_with (go_at_call 18; refine (left_calls HR1.out).mono ?_; rintro e w' ⟨rfl, rfl⟩)
        go_ret
        have e1 : n = wordsF l 0 := HW.out
        refine ⟨?_, HB1.out⟩
        show Ending.returned (.int .u16 _) = _
        unfold ofF
        rw [← e1]
        have hx : Go.bits .xor .u16 IntKind.u16.max n = 65535 - n := xor_max HN.out.1 HN.out.2
        rw [← hx]
      | [x], HE1 => exact absurd HE1.out (by simp)
      | x :: y :: r, HE1 =>
        have hx := HBY1.out x (by simp)
        have hy := HBY1.out y (by simp)
        have hu := uintF_two hx hy
        have hw16 : IntKind.u16.wrap (x * 256 + y) = x * 256 + y := by rw [IntKind.wrap_u16]; omega
        have HU := Aside0.mk hu
        have HW16 := Aside0.mk hw16
        have hn := HN.out
        have hwl : 0 ≤ x * 256 + y ∧ x * 256 + y ≤ 65535 := by omega
        have HWL := Aside0.mk hwl
        clear hu hw16 hx hy hwl
        go_wp2_with fail
        refine (left_calls HR1.out).mono ?_
        rintro e w' ⟨rfl, rfl⟩
        go_wp2_with fail
        refine (uint_at HR1.out 2 (v := x * 256 + y) (L := r) (E := 0) (by rw [(two_left x y r).1]; exact HU.out) (two_left x y r).2.1 (two_left x y r).2.2).mono ?_
        rintro e w2 ⟨rfl, hR, hg⟩
        have HR2 := Aside0.mk hR
        have HB2 := Aside0.mk (HB1.out.grown hg HB1.out.size (by intro k hk; cases hk; exact HR1.out.1))
        clear hR hg
        go_wp2_with fail
        rw [HW16.out]
        refine (add_calls n (x * 256 + y) hn.1 hn.2 HWL.out.1 HWL.out.2 _).mono ?_
        rintro e w' ⟨rfl, rfl⟩
        go_wp2_with fail
        go_roundg r.length
        case measure => simp; omega
        case rel => exact ⟨r, addF n (x * 256 + y), rfl, rfl, HR2, ⟨by rw [← HW.out]; rfl⟩, ⟨by have := HE1.out; simp only [List.length_cons] at this; omega⟩, ⟨fun z hz => HBY1.out z (by simp [hz])⟩, ⟨addF_range hn.1 hn.2 HWL.out.1 HWL.out.2⟩, HB2⟩

set_option maxHeartbeats 1600000 in
theorem sum_Of.calls (A0 : Option Addr) (c0 : Nat) (l0 : List Int) (r : Int) (w : World) (hr0 : Kd.C (Kd.int .u8) w A0 l0.length l0) (hc0 : l0.length ≤ c0) (h : sum_Of.f l0 = some r) :
    Calls Try.prog 12 #[.slice A0 l0.length c0] w fun e w' => e = .returned (.int .u16 r) ∧ Below w.heap.size w w' := by
  unfold sum_Of.f at h
  split at h
  · rename_i hl
    cases h
    obtain ⟨hl, hb⟩ := hl
    exact of_any hr0 hc0 hl hb
  · cases h
end Go.Proofs.Ytdcildmjmbbmeaa.Giv
