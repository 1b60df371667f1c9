/- Contracts of package octet's functions: what a reader answers and has behind each call. -/
import Derived.Test.YtkjfemkmooepnaaBase
namespace Go.Proofs.Ytkjfemkmooepnaa.Oct
open Go.RowKit Go.Proofs.YtkjfemkmooepnaaW.PrintWords Go.Proofs.YtkjfemkmooepnaaW.PrintLast Go.Proofs.YtkjfemkmooepnaaW.PrintMore
set_option linter.unusedVariables false
set_option linter.unusedSimpArgs false

theorem info5 : (Try.prog.info? 5).map (fun i => (i.zero, i.size, i.bytes)) = some (some (.int .u8 0), 1, 1) := by kernel_rfl

/-- A reader in block g: the bytes that are left, and its error. -/
def Rdr (w : World) (base : Nat) (ok : Nat → Prop) (g : Nat) (l : List Int) (e : Int) : Prop :=
  base ≤ g ∧ ok g ∧ ∃ v, w.heap[g]? = some (.cells #[.bool true, v, .int .i64 e] 54 (0, 0)) ∧ Kd.Q (Kd.int .u8) 5 w base ok v l
section
variable {w w1 : World} {base : Nat} {ok ok' : Nat → Prop} {g : Nat} {l : List Int} {e : Int}
theorem Rdr.step (h : Rdr w base ok g l e) (hm : ∀ k, ok k → k < w.heap.size → w1.heap[k]? = w.heap[k]?) : Rdr w1 base ok g l e := by
  obtain ⟨h1, h2, v, h3, h4⟩ := h
  exact ⟨h1, h2, v, (hm g h2 (blk_lt h3)).trans h3, Kd.Q_step h4 hm⟩
theorem Rdr.below (h : Rdr w base ok g l e) (hb : Below w.heap.size w w1) : Rdr w1 base ok g l e := h.step (fun k _ hk => hb.block k hk)
theorem Rdr.alloc (h : Rdr w base ok g l e) (o : Obj) : Rdr (w.alloc o) base ok g l e := h.below (below_alloc (Below.refl _ _) o)
theorem Rdr.drewN (h : Rdr w base ok g l e) (n : Nat) : Rdr (w.drewN n) base ok g l e := h.below (pw_below_drewN (Below.refl _ _) n)
theorem Rdr.mono (h : Rdr w base ok g l e) (hok : ∀ k, ok k → ok' k) : Rdr w base ok' g l e := by
  obtain ⟨h1, h2, v, h3, h4⟩ := h
  exact ⟨h1, hok _ h2, v, h3, Kd.Q_mono h4 hok⟩
theorem Rdr.grown (h : Rdr w base ok g l e) {row : Option Nat} (hg : w.grownBy w1 row) (hok : ∀ k, ok k → some k ≠ row) : Rdr w1 base ok g l e := h.step (fun k ho hk => hg.block k hk (hok k ho))
theorem Rdr.lower (h : Rdr w base ok g l e) {base' : Nat} (hb : base' ≤ base) : Rdr w base' ok g l e := by
  obtain ⟨h1, h2, v, h3, h4⟩ := h
  exact ⟨Nat.le_trans hb h1, h2, v, h3, Kd.Q_lower h4 hb⟩
theorem Rdr.lt (h : Rdr w base ok g l e) : g < w.heap.size := by
  obtain ⟨h1, h2, v, h3, h4⟩ := h
  exact blk_lt h3
theorem Rdr.len (h : Rdr w base ok g l e) : l.length ≤ 9223372036854775807 := by
  obtain ⟨h1, h2, v, h3, h4⟩ := h
  obtain ⟨A, c, rfl, _, hc⟩ := Kd.Q_reads h4
  exact Kd.C_max hc
end

set_option maxHeartbeats 400000 in
theorem err_calls {w : World} {base g : Nat} {ok : Nat → Prop} {l : List Int} {er : Int} (h : Rdr w base ok g l er) :
    Calls Try.prog 16 #[.pointer (some ⟨g, 0, none⟩)] w fun e w' => e = .returned (.int .i64 er) ∧ w = w' := by
  obtain ⟨h1, h2, v, h3, h4⟩ := h
  have hc0 : w.cell? ⟨g, 0, none⟩ = some (.bool true) := (blk_cell h3 0).trans rfl
  have hc2 : w.cell? ⟨g, 2, none⟩ = some (.int .i64 er) := (blk_cell h3 2).trans rfl
  clear h3 h4
  go_enter Try.func16, Try.ntmps16
  go_wp2
  go_ret
  exact ⟨rfl, rfl⟩


set_option maxHeartbeats 400000 in
theorem new_calls {w : World} {A : Option Addr} {c : Nat} {l : List Int} (hr : Kd.C (Kd.int .u8) w A l.length l) (hc : l.length ≤ c) (hl : l.length ≤ 140737488355328) :
    Calls Try.prog 14 #[.slice A l.length c] w fun e w' => ∃ g, e = .returned (.pointer (some ⟨g, 0, none⟩)) ∧ Rdr w' w.heap.size (fun _ => True) g l 0 ∧ Below w.heap.size w w' := by
  have HR := Aside0.mk hr
  clear hr
  go_enter Try.func14, Try.ntmps14
  go_wp2_with (at_builtin; refine Kd.R_append_rows (Kd.int .u8) (w0 := w) w.heap.size rfl (.const (.slice none 0 0)) (.tmp 3) 22 5 (.int .u8 0) 1 rfl Try.underlying22 info5 rfl (by decide) (by omega) (.slice none 0 0) [] l A l.length c (fun _ => True) (fun _ => False) rfl rfl (Kd.R_nil _ _ _ _ _) HR.out (fun _ _ h => h) (fun _ h => h.elim) (fun _ _ => trivial) (Below.refl _ _) (Nat.le_refl _) ?aL ?_; (case aL => simpa using hl); intro v1 w1 ho hb hg hat; rw [List.nil_append] at ho; have HO := Aside0.mk ho; have HB := Aside0.mk hb; clear ho hb hg hat; obtain ⟨Ao, co, eo⟩ := Kd.R_slice HO.out; subst eo)
  go_ret
  refine ⟨w1.heap.size, rfl, ⟨HB.out.size, trivial, _, heap_alloc_new w1 _, ?_⟩, below_alloc HB.out _⟩
  exact Kd.Q_alloc (Kd.Q_of_R HO.out) _

set_option maxHeartbeats 400000 in
theorem left_calls {w : World} {base g : Nat} {ok : Nat → Prop} {l : List Int} {er : Int} (h : Rdr w base ok g l er) :
    Calls Try.prog 17 #[.pointer (some ⟨g, 0, none⟩)] w fun e w' => e = .returned (.int .i64 l.length) ∧ w = w' := by
  obtain ⟨h1, h2, v, h3, h4⟩ := h
  obtain ⟨A, c, rfl, _, _⟩ := Kd.Q_reads h4
  have hc1 : w.cell? ⟨g, 1, none⟩ = some (.slice A l.length c) := (blk_cell h3 1).trans rfl
  clear h3 h4
  go_enter Try.func17, Try.ntmps17
  go_wp2
  go_ret
  exact ⟨rfl, rfl⟩


/-- 'xs[:j:j]'. -/
theorem cut_cap {P : Program} (t e : TypeId) (kh km : IntKind) {i : TypeInfo} (ht : P.underlying t = some (.slice e)) (hi : P.info? e = some i) (A : Option Addr) (n c : Nat) (j : Int) (h0 : 0 ≤ j) (hc : j ≤ c) :
    ∀ W : World, (Instr.slice t (.slice A n c) none (some (.int kh j)) (some (.int km j))).run P W = .ok (.slice A j.toNat j.toNat) W := by
  intro W
  have hel : P.elem t = e := by simp [Program.elem, ht]
  have hu : P.underlying t = some (.slice (P.elem t)) := by rw [hel]; exact ht
  have ha : (A.map fun x => x.add 0) = A := by cases A <;> simp [Addr.add]
  rw [run_slice_hm W t A n c hu kh km j j h0 (by omega) hc, hel]
  simp [sizeOf, typeInfo, hi, sliced, Result.andThen, ha]

/-- What a reader's 'take' answers, and what it has behind that: the bytes, those left, its error. -/
def takeO (l : List Int) (er n : Int) (b : Bool) : List Int := if er = 0 ∧ b = true ∧ n ≤ l.length then l.take n.toNat else []
def takeL (l : List Int) (er n : Int) (b : Bool) : List Int := if er = 0 ∧ b = true ∧ n ≤ l.length then l.drop n.toNat else l
def takeE (l : List Int) (er n : Int) (b : Bool) : Int := if er = 0 then (if b = true then (if n ≤ l.length then 0 else 4) else 2) else er

theorem Rdr.set_err {w : World} {base g : Nat} {ok : Nat → Prop} {l : List Int} {er : Int} (h : Rdr w base ok g l er) (er' : Int) : Rdr (w.setCell ⟨g, 2, none⟩ (.int .i64 er')) base ok g l er' := by
  obtain ⟨h1, h2, v, h3, h4⟩ := h
  refine ⟨h1, h2, v, ?_, Kd.Q_set h4 h3 (by intro q hq; simp [Kd.int, Kd.scalar] at hq; omega) _ _⟩
  exact blk_set h3 2 _
theorem grown_set (w : World) (g j : Nat) (u : Value) : w.grownBy (w.setCell ⟨g, j, none⟩ u) (some g) :=
  ⟨rfl, rfl, rfl, by simp [World.setCell], fun k _ hk => Below.heap_setCell w ⟨g, j, none⟩ u k (fun e => hk (by rw [e]))⟩

set_option maxHeartbeats 400000 in
theorem take_calls {w : World} {base g : Nat} {ok : Nat → Prop} {l : List Int} {er : Int} (h : Rdr w base ok g l er) (n : Int) (b : Bool) (hb : b = true → 0 ≤ n) :
    Calls Try.prog 24 #[.pointer (some ⟨g, 0, none⟩), .int .i64 n, .bool b] w fun e w' => ∃ A c, e = .returned (.slice A (takeO l er n b).length c) ∧ (takeO l er n b).length ≤ c ∧
      Kd.F (Kd.int .u8) w' (fun k => ok k ∧ k ≠ g) A (takeO l er n b).length (takeO l er n b) ∧ Rdr w' base ok g (takeL l er n b) (takeE l er n b) ∧ w.grownBy w' (some g) := by
  have H := Aside0.mk h
  obtain ⟨h1, h2, v, h3, h4⟩ := h
  have H3 := Aside0.mk h3
  have H4 := Aside0.mk h4
  obtain ⟨A, c, rfl, hlc, _⟩ := Kd.Q_reads h4
  have hc0 : w.cell? ⟨g, 0, none⟩ = some (.bool true) := (blk_cell h3 0).trans rfl
  have hc1 : w.cell? ⟨g, 1, none⟩ = some (.slice A l.length c) := (blk_cell h3 1).trans rfl
  have hc2 : w.cell? ⟨g, 2, none⟩ = some (.int .i64 er) := (blk_cell h3 2).trans rfl
  have hf1 : w.frozen? ⟨g, 1, none⟩ = false := blk_frozen h3 1
  have hf2 : w.frozen? ⟨g, 2, none⟩ = false := blk_frozen h3 2
  clear h3 h4
  have hnil : Kd.F (Kd.int .u8) w (fun k => ok k ∧ k ≠ g) none ([] : List Int).length [] := Kd.F_nil _ _ _
  by_cases he : er = 0
  · subst he
    cases b with
    | false =>
      have e1 : takeO l 0 n false = [] := by simp [takeO]
      have e2 : takeL l 0 n false = l := by simp [takeL]
      have e3 : takeE l 0 n false = 2 := by simp [takeE]
      rw [e1, e2, e3]
      clear e1 e2 e3
      go_enter Try.func24, Try.ntmps24
      go_wp2_with (go_at_call 16; refine (err_calls H.out).mono ?_; rintro e w' ⟨rfl, rfl⟩)
      go_ret
      exact ⟨none, 0, rfl, Nat.le_refl _, Kd.F_nil _ _ _, H.out.set_err 2, grown_set _ _ _ _⟩
    | true =>
      have h0 := hb rfl
      by_cases hn : n ≤ l.length
      · have e1 : takeO l 0 n true = l.take n.toNat := by simp [takeO, hn]
        have e2 : takeL l 0 n true = l.drop n.toNat := by simp [takeL, hn]
        have e3 : takeE l 0 n true = 0 := by simp [takeE, hn]
        rw [e1, e2, e3]
        clear e1 e2 e3
        obtain ⟨i5, hi5, _, hs5, _⟩ := info_parts info5
        have hs1 := cut_cap (P := Try.prog) 22 5 .i64 .i64 Try.underlying22 hi5 A l.length c n h0 (by omega)
        have hs2 := cut_from (P := Try.prog) 22 5 .i64 Try.underlying22 hi5 1 hs5 A l.length c n h0 hn
        have hl : (l.take n.toNat).length = n.toNat := by rw [List.length_take]; omega
        obtain ⟨A2, hA2⟩ : ∃ A2, (if c = n.toNat then A else A.map (·.add (n.toNat * 1))) = A2 := ⟨_, rfl⟩
        rw [hA2] at hs2
        have hq : Kd.Q (Kd.int .u8) 5 w base ok (.slice A2 (l.length - n.toNat) (c - n.toNat)) (l.drop n.toNat) := by rw [← hA2]; exact Kd.Q_drop H4.out (k := n.toNat) (by omega)
        have hF : Kd.F (Kd.int .u8) w (fun k => ok k ∧ k ≠ g) A (l.take n.toNat).length (l.take n.toNat) := by
          have := Kd.Q_F (Kd.Q_types (Kd.Q_take H4.out (m := n.toNat) (by omega)) H3.out (by intro q hq; simp [Kd.int, Kd.scalar] at hq; omega))
          rw [hl]; exact this
        have HQ := Aside0.mk hq
        have HF := Aside0.mk hF
        have HL := Aside0.mk hl
        clear hq hF hl hi5 hs5 hA2
        go_enter Try.func24, Try.ntmps24
        go_wp2_with (go_at_call 16; refine (err_calls H.out).mono ?_; rintro e w' ⟨rfl, rfl⟩)
        go_ret
        refine ⟨A, n.toNat, by rw [HL.out]; rfl, by rw [HL.out]; exact Nat.le_refl _, ?_, ?_, grown_set _ _ _ _⟩
        · exact Kd.F_far HF.out (p := ⟨g, 1, none⟩) (fun _ hk => hk.2) _
        · exact ⟨h1, h2, _, blk_set H3.out 1 _, Kd.Q_set HQ.out H3.out (by intro q hq; simp [Kd.int, Kd.scalar] at hq; omega) _ _⟩
      · have e1 : takeO l 0 n true = [] := by simp [takeO, hn]
        have e2 : takeL l 0 n true = l := by simp [takeL, hn]
        have e3 : takeE l 0 n true = 4 := by simp [takeE, hn]
        rw [e1, e2, e3]
        clear e1 e2 e3
        go_enter Try.func24, Try.ntmps24
        go_wp2_with (go_at_call 16; refine (err_calls H.out).mono ?_; rintro e w' ⟨rfl, rfl⟩)
        go_ret
        exact ⟨none, 0, rfl, Nat.le_refl _, Kd.F_nil _ _ _, H.out.set_err 4, grown_set _ _ _ _⟩
  · have e1 : takeO l er n b = [] := by simp [takeO, he]
    have e2 : takeL l er n b = l := by simp [takeL, he]
    have e3 : takeE l er n b = er := by simp [takeE, he]
    rw [e1, e2, e3]
    clear e1 e2 e3
    have hd : (er != 0) = true := bne_iff_ne.mpr he
    go_enter Try.func24, Try.ntmps24
    go_wp2_with (go_at_call 16; refine (err_calls H.out).mono ?_; rintro e w' ⟨rfl, rfl⟩)
    go_ret
    exact ⟨none, 0, rfl, Nat.le_refl _, Kd.F_nil _ _ _, H.out, World.grownBy.refl _ _⟩


theorem bytes_calls {w : World} {base g : Nat} {ok : Nat → Prop} {l : List Int} {er : Int} (h : Rdr w base ok g l er) (n : Int) :
    Calls Try.prog 18 #[.pointer (some ⟨g, 0, none⟩), .int .i64 n] w fun e w' => ∃ A c, e = .returned (.slice A (takeO l er n (decide (0 ≤ n))).length c) ∧ (takeO l er n (decide (0 ≤ n))).length ≤ c ∧
      Kd.F (Kd.int .u8) w' (fun k => ok k ∧ k ≠ g) A (takeO l er n (decide (0 ≤ n))).length (takeO l er n (decide (0 ≤ n))) ∧ Rdr w' base ok g (takeL l er n (decide (0 ≤ n))) (takeE l er n (decide (0 ≤ n))) ∧ w.grownBy w' (some g) := by
  have H := Aside0.mk h
  clear h
  go_enter Try.func18, Try.ntmps18
  go_wp2_with (go_at_call 24; refine (take_calls H.out n (decide (0 ≤ n)) (by simp)).mono ?_; rintro e w' ⟨A, c, rfl, hc, hF, hR, hg⟩; have HC := Aside0.mk hc; have HF := Aside0.mk hF; have HR := Aside0.mk hR; have HG := Aside0.mk hg; clear hc hF hR hg)
  go_ret
  exact ⟨A, c, rfl, HC.out, HF.out, HR.out, HG.out⟩

/-- What 'Uint' makes of bytes. -/
def uintF (l : List Int) : Int := l.foldl (fun u c => Go.bits .or .u64 (IntKind.u64.wrap (u * 256)) (IntKind.u64.wrap c)) 0
theorem uintF_snoc (l : List Int) (k : Nat) (hk : k < l.length) : uintF (l.take (k + 1)) = Go.bits .or .u64 (IntKind.u64.wrap (uintF (l.take k) * 256)) (IntKind.u64.wrap (rd l k)) := by
  have : rd l (k : Int) = l[k] := by simp [rd, List.getD_eq_getElem?_getD, List.getElem?_eq_getElem hk]
  rw [this]
  unfold uintF
  rw [List.take_succ_eq_append_getElem hk, List.foldl_append]
  rfl
/-- May a number have n bytes? -/
def ub (n : Int) : Bool := decide (1 ≤ n) && decide (n ≤ 8)

set_option maxHeartbeats 800000 in
theorem uint_calls {w : World} {base g : Nat} {ok : Nat → Prop} {l : List Int} {er : Int} (h : Rdr w base ok g l er) (n : Int) :
    Calls Try.prog 15 #[.pointer (some ⟨g, 0, none⟩), .int .i64 n] w fun e w' => e = .returned (.int .u64 (uintF (takeO l er n (ub n)))) ∧
      Rdr w' base ok g (takeL l er n (ub n)) (takeE l er n (ub n)) ∧ w.grownBy w' (some g) := by
  have H := Aside0.mk h
  have hlen := Rdr.len h
  clear h
  obtain ⟨b, hb⟩ : ∃ b, ub n = b := ⟨_, rfl⟩
  rw [hb]
  have hbn : b = true → 0 ≤ n := by intro h; subst h; simp [ub] at hb; omega
  have hole : (takeO l er n b).length ≤ 9223372036854775807 := by
    unfold takeO; split
    · rw [List.length_take]; omega
    · simp
  have HT := Aside0.mk (take_calls H.out n b hbn)
  have hcase : (1 ≤ n ∧ b = decide (n ≤ 8)) ∨ (¬ 1 ≤ n ∧ b = false) := by
    subst hb
    by_cases h1 : 1 ≤ n
    · exact .inl ⟨h1, by simp [ub, h1]⟩
    · exact .inr ⟨h1, by simp [ub, h1]⟩
  clear hb hlen hbn
  generalize takeO l er n b = O at *
  generalize takeL l er n b = L at *
  generalize takeE l er n b = E at *
  rcases hcase with ⟨hn, rfl⟩ | ⟨hn, rfl⟩
  all_goals
    go_enter Try.func15, Try.ntmps15
    go_wp2_with (go_at_call 24; refine HT.out.mono ?_; rintro e w' ⟨A, c, rfl, hc, hF, hR, hg⟩; have HF := Aside0.mk hF; have HR := Aside0.mk hR; have HG := Aside0.mk hg; clear hc hF hR hg HT)
    go_loop [5, 18] (fun u i => ∃ k : Nat, k ≤ O.length ∧ i = .int .i64 k ∧ u = .int .u64 (uintF (O.take k))) (fun _ i => O.length - (intOf i).toNat)
    case atStart => exact ⟨0, Nat.zero_le _, rfl, rfl⟩
    case round =>
      obtain ⟨k, hk, rfl, rfl⟩ := hrel
      by_cases hlt : k < O.length
      · have hs := Aside0.mk (uintF_snoc O k hlt)
        obtain ⟨ad, hA, hcell⟩ := Kd.at_int (Kd.F_now HF.out) (k : Int) (by omega) (by omega)
        cases hA
        rw [Int.toNat_natCast] at hcell
        go_wp2
        go_round
        case rel => exact ⟨k + 1, by omega, by go_num, by rw [hs.out]⟩
        case measure => simp [intOf]; omega
      · have e1 : O.take k = O := List.take_of_length_le (by omega)
        have E1 := Aside0.mk e1
        clear e1
        go_wp2
        go_ret
        exact ⟨by rw [E1.out]; rfl, HR.out, HG.out⟩

end Go.Proofs.Ytkjfemkmooepnaa.Oct
