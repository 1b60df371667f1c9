/- Contracts of package octet's functions: what a reader answers and has behind each call. -/
import Derived.Test.YtkjfemkmooepnaaBase
namespace Go.Proofs.Ytkjfemkmooepnaa.Oct
open Go.RowKit Go.Proofs.YtkjfemkmooepnaaW.PrintWords Go.Proofs.YtkjfemkmooepnaaW.PrintLast Go.Proofs.YtkjfemkmooepnaaW.PrintMore
set_option linter.unusedVariables false
set_option linter.unusedSimpArgs false

theorem info5 : (Try.prog.info? 5).map (fun i => (i.zero, i.size, i.bytes)) = some (some (.int .u8 0), 1, 1) := by kernel_rfl

/-- A reader in block g: the bytes that are left, and its error. -/
def Rdr (w : World) (base : Nat) (ok : Nat → Prop) (g : Nat) (l : List Int) (e : Int) : Prop :=
  base ≤ g ∧ ok g ∧ ∃ v, w.heap[g]? = some (.cells #[.bool true, v, .int .i64 e] 54 (0, 0)) ∧ Kd.Q (Kd.int .u8) 5 w base ok v l
section
variable {w w1 : World} {base : Nat} {ok ok' : Nat → Prop} {g : Nat} {l : List Int} {e : Int}
theorem Rdr.step (h : Rdr w base ok g l e) (hm : ∀ k, ok k → k < w.heap.size → w1.heap[k]? = w.heap[k]?) : Rdr w1 base ok g l e := by
  obtain ⟨h1, h2, v, h3, h4⟩ := h
  exact ⟨h1, h2, v, (hm g h2 (blk_lt h3)).trans h3, Kd.Q_step h4 hm⟩
theorem Rdr.below (h : Rdr w base ok g l e) (hb : Below w.heap.size w w1) : Rdr w1 base ok g l e := h.step (fun k _ hk => hb.block k hk)
theorem Rdr.alloc (h : Rdr w base ok g l e) (o : Obj) : Rdr (w.alloc o) base ok g l e := h.below (below_alloc (Below.refl _ _) o)
theorem Rdr.drewN (h : Rdr w base ok g l e) (n : Nat) : Rdr (w.drewN n) base ok g l e := h.below (pw_below_drewN (Below.refl _ _) n)
theorem Rdr.mono (h : Rdr w base ok g l e) (hok : ∀ k, ok k → ok' k) : Rdr w base ok' g l e := by
  obtain ⟨h1, h2, v, h3, h4⟩ := h
  exact ⟨h1, hok _ h2, v, h3, Kd.Q_mono h4 hok⟩
theorem Rdr.grown (h : Rdr w base ok g l e) {row : Option Nat} (hg : w.grownBy w1 row) (hok : ∀ k, ok k → some k ≠ row) : Rdr w1 base ok g l e := h.step (fun k ho hk => hg.block k hk (hok k ho))
theorem Rdr.lower (h : Rdr w base ok g l e) {base' : Nat} (hb : base' ≤ base) : Rdr w base' ok g l e := by
  obtain ⟨h1, h2, v, h3, h4⟩ := h
  exact ⟨Nat.le_trans hb h1, h2, v, h3, Kd.Q_lower h4 hb⟩
theorem Rdr.lt (h : Rdr w base ok g l e) : g < w.heap.size := by
  obtain ⟨h1, h2, v, h3, h4⟩ := h
  exact blk_lt h3
theorem Rdr.len (h : Rdr w base ok g l e) : l.length ≤ 9223372036854775807 := by
  obtain ⟨h1, h2, v, h3, h4⟩ := h
  obtain ⟨A, c, rfl, _, hc⟩ := Kd.Q_reads h4
  exact Kd.C_max hc
end

set_option maxHeartbeats 400000 in
theorem err_calls {w : World} {base g : Nat} {ok : Nat → Prop} {l : List Int} {er : Int} (h : Rdr w base ok g l er) :
    Calls Try.prog 16 #[.pointer (some ⟨g, 0, none⟩)] w fun e w' => e = .returned (.int .i64 er) ∧ w = w' := by
  obtain ⟨h1, h2, v, h3, h4⟩ := h
  have hc0 : w.cell? ⟨g, 0, none⟩ = some (.bool true) := (blk_cell h3 0).trans rfl
  have hc2 : w.cell? ⟨g, 2, none⟩ = some (.int .i64 er) := (blk_cell h3 2).trans rfl
  clear h3 h4
  go_enter Try.func16, Try.ntmps16
  go_wp2
  go_ret
  exact ⟨rfl, rfl⟩


set_option maxHeartbeats 400000 in
theorem new_calls {w : World} {A : Option Addr} {c : Nat} {l : List Int} (hr : Kd.C (Kd.int .u8) w A l.length l) (hc : l.length ≤ c) (hl : l.length ≤ 140737488355328) :
    Calls Try.prog 14 #[.slice A l.length c] w fun e w' => ∃ g, e = .returned (.pointer (some ⟨g, 0, none⟩)) ∧ Rdr w' w.heap.size (fun _ => True) g l 0 ∧ Below w.heap.size w w' := by
  have HR := Aside0.mk hr
  clear hr
  go_enter Try.func14, Try.ntmps14
  go_wp2_with (at_builtin; refine Kd.R_append_rows (Kd.int .u8) (w0 := w) w.heap.size rfl (.const (.slice none 0 0)) (.tmp 3) 22 5 (.int .u8 0) 1 rfl Try.underlying22 info5 rfl (by decide) (by omega) (.slice none 0 0) [] l A l.length c (fun _ => True) (fun _ => False) rfl rfl (Kd.R_nil _ _ _ _ _) HR.out (fun _ _ h => h) (fun _ h => h.elim) (fun _ _ => trivial) (Below.refl _ _) (Nat.le_refl _) ?aL ?_; (case aL => simpa using hl); intro v1 w1 ho hb hg hat; rw [List.nil_append] at ho; have HO := Aside0.mk ho; have HB := Aside0.mk hb; clear ho hb hg hat; obtain ⟨Ao, co, eo⟩ := Kd.R_slice HO.out; subst eo)
  go_ret
  refine ⟨w1.heap.size, rfl, ⟨HB.out.size, trivial, _, heap_alloc_new w1 _, ?_⟩, below_alloc HB.out _⟩
  exact Kd.Q_alloc (Kd.Q_of_R HO.out) _

set_option maxHeartbeats 400000 in
theorem left_calls {w : World} {base g : Nat} {ok : Nat → Prop} {l : List Int} {er : Int} (h : Rdr w base ok g l er) :
    Calls Try.prog 17 #[.pointer (some ⟨g, 0, none⟩)] w fun e w' => e = .returned (.int .i64 l.length) ∧ w = w' := by
  obtain ⟨h1, h2, v, h3, h4⟩ := h
  obtain ⟨A, c, rfl, _, _⟩ := Kd.Q_reads h4
  have hc1 : w.cell? ⟨g, 1, none⟩ = some (.slice A l.length c) := (blk_cell h3 1).trans rfl
  clear h3 h4
  go_enter Try.func17, Try.ntmps17
  go_wp2
  go_ret
  exact ⟨rfl, rfl⟩


/-- 'xs[:j:j]'. -/
theorem cut_cap {P : Program} (t e : TypeId) (kh km : IntKind) {i : TypeInfo} (ht : P.underlying t = some (.slice e)) (hi : P.info? e = some i) (A : Option Addr) (n c : Nat) (j : Int) (h0 : 0 ≤ j) (hc : j ≤ c) :
    ∀ W : World, (Instr.slice t (.slice A n c) none (some (.int kh j)) (some (.int km j))).run P W = .ok (.slice A j.toNat j.toNat) W := by
  intro W
  have hel : P.elem t = e := by simp [Program.elem, ht]
  have hu : P.underlying t = some (.slice (P.elem t)) := by rw [hel]; exact ht
  have ha : (A.map fun x => x.add 0) = A := by cases A <;> simp [Addr.add]
  rw [run_slice_hm W t A n c hu kh km j j h0 (by omega) hc, hel]
  simp [sizeOf, typeInfo, hi, sliced, Result.andThen, ha]

/-- What a reader's 'take' answers, and what it has behind that: the bytes, those left, its error. -/
def takeO (l : List Int) (er n : Int) (b : Bool) : List Int := if er = 0 ∧ b = true ∧ n ≤ l.length then l.take n.toNat else []
def takeL (l : List Int) (er n : Int) (b : Bool) : List Int := if er = 0 ∧ b = true ∧ n ≤ l.length then l.drop n.toNat else l
def takeE (l : List Int) (er n : Int) (b : Bool) : Int := if er = 0 then (if b = true then (if n ≤ l.length then 0 else 4) else 2) else er

theorem Rdr.set_err {w : World} {base g : Nat} {ok : Nat → Prop} {l : List Int} {er : Int} (h : Rdr w base ok g l er) (er' : Int) : Rdr (w.setCell ⟨g, 2, none⟩ (.int .i64 er')) base ok g l er' := by
  obtain ⟨h1, h2, v, h3, h4⟩ := h
  refine ⟨h1, h2, v, ?_, Kd.Q_set h4 h3 (by intro q hq; simp [Kd.int, Kd.scalar] at hq; omega) _ _⟩
  exact blk_set h3 2 _
theorem grown_set (w : World) (g j : Nat) (u : Value) : w.grownBy (w.setCell ⟨g, j, none⟩ u) (some g) :=
  ⟨rfl, rfl, rfl, by simp [World.setCell], fun k _ hk => Below.heap_setCell w ⟨g, j, none⟩ u k (fun e => hk (by rw [e]))⟩

set_option maxHeartbeats 400000 in
theorem take_calls {w : World} {base g : Nat} {ok : Nat → Prop} {l : List Int} {er : Int} (h : Rdr w base ok g l er) (n : Int) (b : Bool) (hb : b = true → 0 ≤ n) :
    Calls Try.prog 24 #[.pointer (some ⟨g, 0, none⟩), .int .i64 n, .bool b] w fun e w' => ∃ A c, e = .returned (.slice A (takeO l er n b).length c) ∧ (takeO l er n b).length ≤ c ∧
      Kd.F (Kd.int .u8) w' (fun k => ok k ∧ k ≠ g) A (takeO l er n b).length (takeO l er n b) ∧ Rdr w' base ok g (takeL l er n b) (takeE l er n b) ∧ w.grownBy w' (some g) := by
  have H := Aside0.mk h
  obtain ⟨h1, h2, v, h3, h4⟩ := h
  have H3 := Aside0.mk h3
  have H4 := Aside0.mk h4
  obtain ⟨A, c, rfl, hlc, _⟩ := Kd.Q_reads h4
  have hc0 : w.cell? ⟨g, 0, none⟩ = some (.bool true) := (blk_cell h3 0).trans rfl
  have hc1 : w.cell? ⟨g, 1, none⟩ = some (.slice A l.length c) := (blk_cell h3 1).trans rfl
  have hc2 : w.cell? ⟨g, 2, none⟩ = some (.int .i64 er) := (blk_cell h3 2).trans rfl
  have hf1 : w.frozen? ⟨g, 1, none⟩ = false := blk_frozen h3 1
  have hf2 : w.frozen? ⟨g, 2, none⟩ = false := blk_frozen h3 2
  clear h3 h4
  have hnil : Kd.F (Kd.int .u8) w (fun k => ok k ∧ k ≠ g) none ([] : List Int).length [] := Kd.F_nil _ _ _
  by_cases he : er = 0
  · subst he
    cases b with
    | false =>
      have e1 : takeO l 0 n false = [] := by simp [takeO]
      have e2 : takeL l 0 n false = l := by simp [takeL]
      have e3 : takeE l 0 n false = 2 := by simp [takeE]
      rw [e1, e2, e3]
      clear e1 e2 e3
      go_enter Try.func24, Try.ntmps24
      go_wp2_with (go_at_call 16; refine (err_calls H.out).mono ?_; rintro e w' ⟨rfl, rfl⟩)
      go_ret
      exact ⟨none, 0, rfl, Nat.le_refl _, Kd.F_nil _ _ _, H.out.set_err 2, grown_set _ _ _ _⟩
    | true =>
      have h0 := hb rfl
      by_cases hn : n ≤ l.length
      · have e1 : takeO l 0 n true = l.take n.toNat := by simp [takeO, hn]
        have e2 : takeL l 0 n true = l.drop n.toNat := by simp [takeL, hn]
        have e3 : takeE l 0 n true = 0 := by simp [takeE, hn]
        rw [e1, e2, e3]
        clear e1 e2 e3
        obtain ⟨i5, hi5, _, hs5, _⟩ := info_parts info5
        have hs1 := cut_cap (P := Try.prog) 22 5 .i64 .i64 Try.underlying22 hi5 A l.length c n h0 (by omega)
        have hs2 := cut_from (P := Try.prog) 22 5 .i64 Try.underlying22 hi5 1 hs5 A l.length c n h0 hn
        have hl : (l.take n.toNat).length = n.toNat := by rw [List.length_take]; omega
        obtain ⟨A2, hA2⟩ : ∃ A2, (if c = n.toNat then A else A.map (·.add (n.toNat * 1))) = A2 := ⟨_, rfl⟩
        rw [hA2] at hs2
        have hq : Kd.Q (Kd.int .u8) 5 w base ok (.slice A2 (l.length - n.toNat) (c - n.toNat)) (l.drop n.toNat) := by rw [← hA2]; exact Kd.Q_drop H4.out (k := n.toNat) (by omega)
        have hF : Kd.F (Kd.int .u8) w (fun k => ok k ∧ k ≠ g) A (l.take n.toNat).length (l.take n.toNat) := by
          have := Kd.Q_F (Kd.Q_types (Kd.Q_take H4.out (m := n.toNat) (by omega)) H3.out (by intro q hq; simp [Kd.int, Kd.scalar] at hq; omega))
          rw [hl]; exact this
        have HQ := Aside0.mk hq
        have HF := Aside0.mk hF
        have HL := Aside0.mk hl
        clear hq hF hl hi5 hs5 hA2
        go_enter Try.func24, Try.ntmps24
        go_wp2_with (go_at_call 16; refine (err_calls H.out).mono ?_; rintro e w' ⟨rfl, rfl⟩)
        go_ret
        refine ⟨A, n.toNat, by rw [HL.out]; rfl, by rw [HL.out]; exact Nat.le_refl _, ?_, ?_, grown_set _ _ _ _⟩
        · exact Kd.F_far HF.out (p := ⟨g, 1, none⟩) (fun _ hk => hk.2) _
        · exact ⟨h1, h2, _, blk_set H3.out 1 _, Kd.Q_set HQ.out H3.out (by intro q hq; simp [Kd.int, Kd.scalar] at hq; omega) _ _⟩
      · have e1 : takeO l 0 n true = [] := by simp [takeO, hn]
        have e2 : takeL l 0 n true = l := by simp [takeL, hn]
        have e3 : takeE l 0 n true = 4 := by simp [takeE, hn]
        rw [e1, e2, e3]
        clear e1 e2 e3
        go_enter Try.func24, Try.ntmps24
        go_wp2_with (go_at_call 16; refine (err_calls H.out).mono ?_; rintro e w' ⟨rfl, rfl⟩)
        go_ret
        exact ⟨none, 0, rfl, Nat.le_refl _, Kd.F_nil _ _ _, H.out.set_err 4, grown_set _ _ _ _⟩
  · have e1 : takeO l er n b = [] := by simp [takeO, he]
    have e2 : takeL l er n b = l := by simp [takeL, he]
    have e3 : takeE l er n b = er := by simp [takeE, he]
    rw [e1, e2, e3]
    clear e1 e2 e3
    have hd : (er != 0) = true := bne_iff_ne.mpr he
    go_enter Try.func24, Try.ntmps24
    go_wp2_with (go_at_call 16; refine (err_calls H.out).mono ?_; rintro e w' ⟨rfl, rfl⟩)
    go_ret
    exact ⟨none, 0, rfl, Nat.le_refl _, Kd.F_nil _ _ _, H.out, World.grownBy.refl _ _⟩


theorem bytes_calls {w : World} {base g : Nat} {ok : Nat → Prop} {l : List Int} {er : Int} (h : Rdr w base ok g l er) (n : Int) :
    Calls Try.prog 18 #[.pointer (some ⟨g, 0, none⟩), .int .i64 n] w fun e w' => ∃ A c, e = .returned (.slice A (takeO l er n (decide (0 ≤ n))).length c) ∧ (takeO l er n (decide (0 ≤ n))).length ≤ c ∧
      Kd.F (Kd.int .u8) w' (fun k => ok k ∧ k ≠ g) A (takeO l er n (decide (0 ≤ n))).length (takeO l er n (decide (0 ≤ n))) ∧ Rdr w' base ok g (takeL l er n (decide (0 ≤ n))) (takeE l er n (decide (0 ≤ n))) ∧ w.grownBy w' (some g) := by
  have H := Aside0.mk h
  clear h
  go_enter Try.func18, Try.ntmps18
  go_wp2_with (go_at_call 24; refine (take_calls H.out n (decide (0 ≤ n)) (by simp)).mono ?_; rintro e w' ⟨A, c, rfl, hc, hF, hR, hg⟩; have HC := Aside0.mk hc; have HF := Aside0.mk hF; have HR := Aside0.mk hR; have HG := Aside0.mk hg; clear hc hF hR hg)
  go_ret
  exact ⟨A, c, rfl, HC.out, HF.out, HR.out, HG.out⟩

/-- What 'Uint' makes of bytes. -/
def uintF (l : List Int) : Int := l.foldl (fun u c => Go.bits .or .u64 (IntKind.u64.wrap (u * 256)) (IntKind.u64.wrap c)) 0
theorem uintF_snoc (l : List Int) (k : Nat) (hk : k < l.length) : uintF (l.take (k + 1)) = Go.bits .or .u64 (IntKind.u64.wrap (uintF (l.take k) * 256)) (IntKind.u64.wrap (rd l k)) := by
  have : rd l (k : Int) = l[k] := by simp [rd, List.getD_eq_getElem?_getD, List.getElem?_eq_getElem hk]
  rw [this]
  unfold uintF
  rw [List.take_succ_eq_append_getElem hk, List.foldl_append]
  rfl
/-- May a number have n bytes? -/
def ub (n : Int) : Bool := decide (1 ≤ n) && decide (n ≤ 8)

set_option maxHeartbeats 800000 in
theorem uint_calls {w : World} {base g : Nat} {ok : Nat → Prop} {l : List Int} {er : Int} (h : Rdr w base ok g l er) (n : Int) :
    Calls Try.prog 15 #[.pointer (some ⟨g, 0, none⟩), .int .i64 n] w fun e w' => e = .returned (.int .u64 (uintF (takeO l er n (ub n)))) ∧
      Rdr w' base ok g (takeL l er n (ub n)) (takeE l er n (ub n)) ∧ w.grownBy w' (some g) := by
  have H := Aside0.mk h
  have hlen := Rdr.len h
  clear h
  obtain ⟨b, hb⟩ : ∃ b, ub n = b := ⟨_, rfl⟩
  rw [hb]
  have hbn : b = true → 0 ≤ n := by intro h; subst h; simp [ub] at hb; omega
  have hole : (takeO l er n b).length ≤ 9223372036854775807 := by
    unfold takeO; split
    · rw [List.length_take]; omega
    · simp
  have HT := Aside0.mk (take_calls H.out n b hbn)
  have hcase : (1 ≤ n ∧ b = decide (n ≤ 8)) ∨ (¬ 1 ≤ n ∧ b = false) := by
    subst hb
    by_cases h1 : 1 ≤ n
    · exact .inl ⟨h1, by simp [ub, h1]⟩
    · exact .inr ⟨h1, by simp [ub, h1]⟩
  clear hb hlen hbn
  generalize takeO l er n b = O at *
  generalize takeL l er n b = L at *
  generalize takeE l er n b = E at *
  rcases hcase with ⟨hn, rfl⟩ | ⟨hn, rfl⟩
  all_goals
    go_enter Try.func15, Try.ntmps15
    go_wp2_with (go_at_call 24; refine HT.out.mono ?_; rintro e w' ⟨A, c, rfl, hc, hF, hR, hg⟩; have HF := Aside0.mk hF; have HR := Aside0.mk hR; have HG := Aside0.mk hg; clear hc hF hR hg HT)
    go_loop [5, 18] (fun u i => ∃ k : Nat, k ≤ O.length ∧ i = .int .i64 k ∧ u = .int .u64 (uintF (O.take k))) (fun _ i => O.length - (intOf i).toNat)
    case atStart => exact ⟨0, Nat.zero_le _, rfl, rfl⟩
    case round =>
      obtain ⟨k, hk, rfl, rfl⟩ := hrel
      by_cases hlt : k < O.length
      · have hs := Aside0.mk (uintF_snoc O k hlt)
        obtain ⟨ad, hA, hcell⟩ := Kd.at_int (Kd.F_now HF.out) (k : Int) (by omega) (by omega)
        cases hA
        rw [Int.toNat_natCast] at hcell
        go_wp2
        go_round
        case rel => exact ⟨k + 1, by omega, by go_num, by rw [hs.out]⟩
        case measure => simp [intOf]; omega
      · have e1 : O.take k = O := List.take_of_length_le (by omega)
        have E1 := Aside0.mk e1
        clear e1
        go_wp2
        go_ret
        exact ⟨by rw [E1.out]; rfl, HR.out, HG.out⟩

theorem uint_at {w : World} {base g : Nat} {ok : Nat → Prop} {l : List Int} {er : Int} (h : Rdr w base ok g l er) (n : Int) {v : Int} {L : List Int} {E : Int} (hv : uintF (takeO l er n (ub n)) = v) (hL : takeL l er n (ub n) = L) (hE : takeE l er n (ub n) = E) :
    Calls Try.prog 15 #[.pointer (some ⟨g, 0, none⟩), .int .i64 n] w fun e w' => e = .returned (.int .u64 v) ∧ Rdr w' base ok g L E ∧ w.grownBy w' (some g) := by
  subst hv; subst hL; subst hE
  exact uint_calls h n

section
variable {α : Type} {P : Program} {ops : Array Oper} {rest : List Oper} {o : Oper} {a : Act} {Q : Exit → Act → World → Prop}
/-- 'make([]T, 0, n)'. -/
theorem R_makeCap (d : Kd α) {w0 W : World} (base e : Nat) (ok : Nat → Prop) (hgd : o.guard = none) (t : TypeId) (x y : Operand) (ho : o.op = .makeSlice t x y) (n : Int) (hx : a.eval x = .int .i64 0) (hy : a.eval y = .int .i64 n)
    (ht : P.underlying t = some (.slice e)) (z : Value) (bytes : Nat) (hinfo : (P.info? e).map (fun i => (i.zero, i.size, i.bytes)) = some (some z, d.sz, bytes)) (hb0 : 0 < bytes)
    (hfresh : ok W.heap.size) (h0 : 0 ≤ n) (hl : bytes * n.toNat ≤ 281474976710656) (HB : Below base w0 W) (hbase : base ≤ W.heap.size)
    (h : ∀ v1 w1, d.R e w1 base ok v1 [] → Below base w0 w1 → W.grownBy w1 none → (∃ b, v1.ownBlock = some b ∧ W.heap.size ≤ b) → wpList P ops Q rest (a.put o.dst v1) w1) : wpList P ops Q (o :: rest) a W := by
  obtain ⟨m, rfl⟩ := Int.eq_ofNat_of_zero_le h0
  simp only [Int.toNat_natCast] at hl
  obtain ⟨i0, hi, hzz⟩ := Option.map_eq_some_iff.1 hinfo
  simp only [Prod.mk.injEq] at hzz
  obtain ⟨hz0, hz1, hz2⟩ := hzz
  have hm : m ≤ 281474976710656 := Nat.le_trans (Nat.le_mul_of_pos_left _ hb0) hl
  obtain ⟨w1, hrun, hown, hg⟩ := run_make_own (P := P) W base t e i0 z d.sz ht hi hz0 hz1 .i64 .i64 m (by rw [hz2]; exact hl) (by simp only [maxLen]; omega) hbase
  refine Kd.event_run hgd (v := .slice (some ⟨W.heap.size, 0, none⟩) 0 m) (w1 := w1) ?_ (h _ _ ⟨fun k hk => ?_, [], hown, Reps.none _ _⟩ (HB.grown hg hbase (by simp)) hg ⟨W.heap.size, by simp [Value.ownBlock], Nat.le_refl _⟩)
  · simp [execOp, ho, hx, hy, hrun]
  · have : W.heap.size = k := by simpa [Value.ownBlock] using hk
    subst this
    exact hfresh
end

theorem grown_setRow (w : World) (g : Nat) (cs : Array Value) : w.grownBy (w.setRow g cs) (some g) :=
  ⟨rfl, rfl, rfl, by simp [World.setRow], fun k _ hk => setRow_other w g k cs (fun e => hk (by rw [e]))⟩
section
variable {P : Program} {ops : Array Oper} {rest : List Oper} {o : Oper} {a : Act} {Q : Exit → Act → World → Prop}
/-- 'copy(v, s)': what is copied is no longer than the row of one's own. -/
theorem R_copy (k : IntKind) {w0 W : World} (base e : Nat) (ok : Nat → Prop) (hgd : o.guard = none) (d s : Operand) (t : TypeId) (ho : o.op = .call { callee := .builtin .copy, args := #[d, s], argTypes := #[t, t] })
    (ht : P.underlying t = some (.slice e)) (hsz : (P.info? e).map (·.size) = some 1) (v : Value) (xs ys : List Int) (A : Option Addr) (c : Nat) (hd : a.eval d = v) (hs : a.eval s = .slice A ys.length c)
    (HO : (Kd.int k).R e W base ok v xs) (HR : (Kd.int k).C W A ys.length ys) (hm : ys.length ≤ xs.length) (HB : Below base w0 W)
    (h : ∀ w1, (Kd.int k).R e w1 base ok v (ys ++ xs.drop ys.length) → Below base w0 w1 → W.grownBy w1 v.ownBlock → wpList P ops Q rest (a.put o.dst (goInt ys.length)) w1) : wpList P ops Q (o :: rest) a W := by
  have hown := Kd.own_of_R HO
  have hok := HO.1
  by_cases h0 : ys.length = 0
  · obtain rfl : ys = [] := List.eq_nil_of_length_eq_zero h0
    obtain ⟨A', c', rfl⟩ := own_slice hown
    refine wpList_copy_nothing hgd d s t t ho e ht hsz A' A _ _ _ _ hd hs (by simp) ?_
    exact h W (by simpa using HO) HB (World.grownBy.refl _ _)
  · obtain ⟨hl1, h2⟩ := hown
    rcases h2 with ⟨rfl, hz⟩ | ⟨g, cap, cur, rfl, hb, hh, hnc, hcm, hcs, htk⟩
    · omega
    · have hrd := Kd.reads_of_C (d := (0 : Int)) HR
      obtain ⟨ad, rfl, hcell⟩ := hrd.2.2 (by omega)
      refine wpList_copy_own hgd d s t t ho e ht hsz g 0 _ _ ad _ _ hd hs cur e hh (encs (Value.int k) ys) ?_ ?_ ?_ ?_ ?_
      · rw [encs_length]; exact (Nat.min_eq_left hm).symm
      · intro j u hj
        have hjl : j < ys.length := by have := (List.getElem?_eq_some_iff.1 hj).1; rw [encs_length] at this; exact this
        rw [encs_get (d := (0 : Int)) ys j hjl] at hj
        injection hj with hj
        subst hj
        exact hcell j hjl
      · rw [encs_length]; omega
      · intro u hu
        simp only [encs, List.mem_map] at hu
        obtain ⟨x, _, rfl⟩ := hu
        rfl
      · rw [encs_length]
        refine h _ ?_ (below_setRow HB hb _) (grown_setRow W g _)
        refine Kd.R_of_own (h1 := fun _ => rfl) ?_ hok
        refine ⟨by rw [encs_length, Nat.mul_one], .inr ⟨g, cap, _, ?_, hb, setRow_heap W g cur _ e _ hh, ?_, hcm, ?_, ?_⟩⟩
        · rw [List.length_append, List.length_drop]; congr 1; omega
        · rw [List.length_append, List.length_drop]; omega
        · simp [encs]; omega
        · have e1 : cur.toList.take xs.length = encs (Value.int k) xs := by rw [← htk, Nat.mul_one]
          have e2 : (ys ++ xs.drop ys.length).length = xs.length := by rw [List.length_append, List.length_drop]; omega
          rw [e2, Nat.mul_one]
          simp only [List.take_zero, List.nil_append, Nat.zero_add, encs_append]
          rw [List.take_append, encs_length]
          have e3 : (encs (Value.int k) ys).take xs.length = encs (Value.int k) ys := List.take_of_length_le (by rw [encs_length]; exact hm)
          rw [e3]
          congr 1
          have e4 : encs (Value.int k) (xs.drop ys.length) = (encs (Value.int k) xs).drop ys.length := by simp [encs, List.map_drop]
          rw [e4, ← e1, List.drop_take]
end

/-- 'string(b)'. -/
theorem conv {w : World} {A : Option Addr} {n c : Nat} {xs : List Int} (h : Kd.C (Kd.int .u8) w A n xs) : (convert 22 9 (.slice A n c)).run Try.prog w = .ok (.string (strOfNums xs)) w :=
  Kd.C_string (P := Try.prog) Try.underlying22 Try.underlying5 Try.underlying9 h
/-- A slice of whole numbers among the arguments. -/
def IsRow (k : IntKind) (w : World) (a : Option Addr) (len cap : Nat) (zs : List Int) : Prop :=
  (a = none ∧ len = 0 ∧ cap = 0 ∧ zs = []) ∨
  ∃ x, a = some x ∧ len ≤ cap ∧ cap ≤ maxLen ∧ zs.length = cap ∧ (∀ i, i < zs.length → w.cell? (x.add i) = some (.int k (zs.getD i 0))) ∧ ∀ n ∈ zs, (Lit.int k n).wf = true
/-- A literal of bytes, as the walk lays it. -/
theorem lit_row (W : World) (base : Nat) (hb : base ≤ W.heap.size) (xs : List Int) (cs : Array Value) (hc : (encs (Value.int .u8) xs).toArray = cs) (hm : xs.length ≤ 9223372036854775807) :
    Kd.R (Kd.int .u8) 5 (W.alloc (.cells cs 5)) base (fun _ => True) (.slice (some ⟨W.heap.size, 0, none⟩) xs.length xs.length) xs := by
  subst hc
  exact Kd.R_of_own (h1 := fun _ => rfl) (own_lit_of (enc := Value.int .u8) W base 5 xs hb hm) (fun _ _ => trivial)
end Go.Proofs.Ytkjfemkmooepnaa.Oct
