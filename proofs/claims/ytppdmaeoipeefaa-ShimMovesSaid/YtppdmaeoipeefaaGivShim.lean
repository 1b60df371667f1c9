/- The contract of shim.Decode: the stack with which bytes begin. -/
import Derived.Test.YtppdmaeoipeefaaGivOct
import Derived.Test.YtppdmaeoipeefaaQ0
import Derived.Laws.BitsAllLaws
namespace Go.Proofs.Ytppdmaeoipeefaa.Oct
open Go.RowKit Go.Proofs.YtppdmaeoipeefaaW.PrintWords Go.Proofs.YtppdmaeoipeefaaW.PrintLast Go.Proofs.YtppdmaeoipeefaaW.PrintMore
theorem Rdr.bound {w : World} {base g : Nat} {ok : Nat → Prop} {l : List Int} {e : Int} (h : Rdr w base ok g l e) : Rdr w base (fun k => ok k ∧ base ≤ k ∧ k < w.heap.size) g l e := by
  have hlt := h.lt
  obtain ⟨h1, h2, v, h3, h4⟩ := h
  exact ⟨h1, ⟨h2, h1, hlt⟩, v, h3, Kd.Q_mono (Kd.Q_bound h4) (fun k hk => ⟨hk.1, hk.2.1, hk.2.2.1⟩)⟩
end Go.Proofs.Ytppdmaeoipeefaa.Oct
namespace Go.Proofs.Ytppdmaeoipeefaa.Giv
open Go.RowKit Go.Proofs.YtppdmaeoipeefaaW.PrintWords Go.Proofs.YtppdmaeoipeefaaW.PrintLast Go.Proofs.YtppdmaeoipeefaaW.PrintMore Go.Proofs.Ytppdmaeoipeefaa.Oct
open Go.Proofs.Ytppdmaeoipeefaa.Q (S24 k24 z24 rd_T24 k24_mkM info24)
set_option linter.unusedVariables false
set_option linter.unusedSimpArgs false

def okB (l : List Int) : Prop := ∀ x ∈ l, 0 ≤ x ∧ x ≤ 255
instance (l : List Int) : Decidable (okB l) := by unfold okB; exact inferInstance
theorem or_step {u c : Int} (h0 : 0 ≤ u) (h1 : u * 256 + c < 18446744073709551616) (h2 : 0 ≤ c) (h3 : c ≤ 255) : Go.bits .or .u64 (IntKind.u64.wrap (u * 256)) (IntKind.u64.wrap c) = u * 256 + c := by
  have e1 : IntKind.u64.wrap (u * 256) = u * 256 := by rw [IntKind.wrap_u64]; omega
  have e2 : IntKind.u64.wrap c = c := by rw [IntKind.wrap_u64]; omega
  rw [e1, e2, u64_or _ _ (by omega) (by omega) (by omega) (by omega)]
  obtain ⟨a, rfl⟩ := Int.eq_ofNat_of_zero_le h0
  obtain ⟨b, rfl⟩ := Int.eq_ofNat_of_zero_le h2
  have e3 : ((a : Int) * 256).toNat = a <<< 8 := by rw [Nat.shiftLeft_eq]; omega
  rw [e3, Int.toNat_natCast, ← Nat.shiftLeft_add_eq_or_of_lt (by omega : b < 2 ^ 8), Nat.shiftLeft_eq]
  omega
def num4 (a b c d : Int) : Int := ((a * 256 + b) * 256 + c) * 256 + d
theorem uintF_four {a b c d : Int} (ha : 0 ≤ a ∧ a ≤ 255) (hb : 0 ≤ b ∧ b ≤ 255) (hc : 0 ≤ c ∧ c ≤ 255) (hd : 0 ≤ d ∧ d ≤ 255) : uintF [a, b, c, d] = num4 a b c d := by
  unfold uintF num4
  simp only [List.foldl_cons, List.foldl_nil]
  rw [or_step (u := 0) (by omega) (by omega) ha.1 ha.2, or_step (by omega) (by omega) hb.1 hb.2, or_step (by omega) (by omega) hc.1 hc.2, or_step (by omega) (by omega) hd.1 hd.2]
  omega
/-- An entry, of its number. -/
def entF (n : Int) : S24 := ⟨n / 4096, n / 512 % 8, n % 256⟩
/-- 'Decode' behind the entries out. -/
def decGo : Nat → List Int → List S24 → List S24 × List Int × Int
  | 0, _, _ => ([], [], 3)
  | k + 1, a :: b :: c :: d :: r, out => if num4 a b c d / 256 % 2 = 1 then (out ++ [entF (num4 a b c d)], r, 0) else decGo k r (out ++ [entF (num4 a b c d)])
  | k + 1, _, _ => ([], [], 4)
def decF (l : List Int) : List S24 × List Int × Int := decGo 8 l []
def shim_Decode.f (l : List Int) : Option (List S24 × List Int × Int) := if l.length ≤ 140737488355328 ∧ okB l then some (decF l) else none

theorem four_left (a b c d : Int) (r : List Int) : takeO (a :: b :: c :: d :: r) 0 4 (ub 4) = [a, b, c, d] ∧ takeL (a :: b :: c :: d :: r) 0 4 (ub 4) = r ∧ takeE (a :: b :: c :: d :: r) 0 4 (ub 4) = 0 := by
  have h : (4 : Int) ≤ ((a :: b :: c :: d :: r).length : Int) := by simp only [List.length_cons]; omega
  have hc : (0 : Int) = 0 ∧ ub 4 = true ∧ (4 : Int) ≤ ((a :: b :: c :: d :: r).length : Int) := ⟨rfl, by decide, h⟩
  refine ⟨?_, ?_, ?_⟩
  · unfold takeO; rw [if_pos hc]; rfl
  · unfold takeL; rw [if_pos hc]; rfl
  · unfold takeE; rw [if_pos rfl, if_pos (by decide), if_pos h]
theorem short_left {l : List Int} (h : l.length < 4) : takeO l 0 4 (ub 4) = [] ∧ takeL l 0 4 (ub 4) = l ∧ takeE l 0 4 (ub 4) = 4 := by
  have hn : ¬ (4 : Int) ≤ (l.length : Int) := by omega
  have hc : ¬ ((0 : Int) = 0 ∧ ub 4 = true ∧ (4 : Int) ≤ (l.length : Int)) := fun h => hn h.2.2
  refine ⟨?_, ?_, ?_⟩
  · unfold takeO; rw [if_neg hc]
  · unfold takeL; rw [if_neg hc]
  · unfold takeE; rw [if_pos rfl, if_pos (by decide), if_neg hn]
theorem all_left (r : List Int) : takeO r 0 (r.length : Int) (decide (0 ≤ (r.length : Int))) = r := by
  unfold takeO
  rw [if_pos ⟨rfl, by simp, Int.le_refl _⟩, Int.toNat_natCast, List.take_length]

theorem i64_and_nat (a b : Nat) (ha : a < 9223372036854775808) (hb : b < 9223372036854775808) : Go.bits .and .i64 (a : Int) (b : Int) = ((a &&& b : Nat) : Int) := by
  have hx : a &&& b < 2 ^ 63 := Nat.and_lt_two_pow _ (by omega)
  show IntKind.i64.wrap ((BitVec.ofInt 64 (a : Int) &&& BitVec.ofInt 64 (b : Int)).toNat : Int) = _
  rw [BitVec.toNat_and, ofInt_u64 a (by omega), ofInt_u64 b (by omega), IntKind.wrap_i64]
  omega
theorem i64_or_nat (a b : Nat) (ha : a < 9223372036854775808) (hb : b < 9223372036854775808) : Go.bits .or .i64 (a : Int) (b : Int) = ((a ||| b : Nat) : Int) := by
  have hx : a ||| b < 2 ^ 63 := Nat.or_lt_two_pow (by omega) (by omega)
  show IntKind.i64.wrap ((BitVec.ofInt 64 (a : Int) ||| BitVec.ofInt 64 (b : Int)).toNat : Int) = _
  rw [BitVec.toNat_or, ofInt_u64 a (by omega), ofInt_u64 b (by omega), IntKind.wrap_i64]
  omega
theorem and_facts {n : Int} (h0 : 0 ≤ n) (h1 : n < 4294967296) : Go.bits .and .i64 (n / 512) 7 = n / 512 % 8 ∧ Go.bits .and .i64 n 255 = n % 256 ∧ Go.bits .and .i64 n 256 = n / 256 % 2 * 256 := by
  obtain ⟨m, rfl⟩ := Int.eq_ofNat_of_zero_le h0
  refine ⟨?_, ?_, ?_⟩
  · have e : ((m : Int) / 512) = ((m / 512 : Nat) : Int) := by omega
    rw [e, show (7 : Int) = ((7 : Nat) : Int) from rfl, i64_and_nat _ _ (by omega) (by omega), nat_mask3]
    omega
  · rw [show (255 : Int) = ((255 : Nat) : Int) from rfl, i64_and_nat _ _ (by omega) (by omega), nat_mask8]
    omega
  · rw [show (256 : Int) = ((2 ^ 8 : Nat) : Int) from rfl, i64_and_nat _ _ (by omega) (by omega), nat_bit]
    omega

set_option maxHeartbeats 3200000 in
theorem decode_any {w : World} {A : Option Addr} {c : Nat} {l : List Int} (hr : Kd.C (Kd.int .u8) w A l.length l) (hc : l.length ≤ c) (hl : l.length ≤ 140737488355328) (hb : okB l) :
    Calls Try.prog 14 #[.slice A l.length c] w fun e w' => ∃ v0 v1, e = .returned (.tuple #[v0, v1, .int .i64 (decF l).2.2]) ∧ Kd.R k24 24 w' w.heap.size (fun _ => True) v0 (decF l).1 ∧
      Kd.V (Kd.int .u8) 5 w' w.heap.size (fun k => w.heap.size ≤ k ∧ some k ≠ v0.ownBlock) v1 (decF l).2.1 ∧ Below w.heap.size w w' := by
  have HR := Aside0.mk hr
  have HBY := Aside0.mk hb
  clear hr hb
  go_enter Try.func14, Try.ntmps14
  go_wp2_with fail
  refine (new_calls HR.out hc hl).mono ?_
  rintro e w1 ⟨g, rfl, hR, hb1⟩
  have HR1 := Aside0.mk hR.bound
  have HB1 := Aside0.mk hb1
  have HD := Aside0.mk (show decGo 8 l [] = decF l from rfl)
  clear hR hb1
  go_wp2_with fail
  go_loopg [6, 11] 8 (fun gk v6 v11 w' => ∃ (rest : List Int) (out : List S24) (k : Nat) (i : Int), k = gk ∧ v11 = .int .i64 i ∧ i + k = 8 ∧ Aside0 (Kd.R k24 24 w' w.heap.size (fun k => k ≠ g) v6 out) ∧
    Aside0 (Rdr w' w.heap.size (fun k => (w.heap.size ≤ k ∧ some k ≠ v6.ownBlock) ∧ k < w'.heap.size) g rest 0) ∧ Aside0 (decGo k rest out = decF l) ∧ Aside0 (okB rest) ∧ Aside0 (out.length + k = 8) ∧ Aside0 (Below w.heap.size w w'))
  case atStart => exact ⟨l, [], 8, 0, rfl, rfl, by omega, ⟨Kd.R_nil _ _ _ _ _⟩, ⟨HR1.out.mono (fun k hk => ⟨⟨hk.2.1, by simp [Value.ownBlock]⟩, hk.2.2⟩)⟩, HD, HBY, ⟨rfl⟩, HB1⟩
  case round =>
    clear HR1 HB1 HD
    obtain ⟨rest, out, k, i, rfl, rfl, hk, HO, HR1, HD, HBY1, HL, HB1⟩ := hrel
    obtain ⟨A6, c6, e6⟩ := Kd.R_slice HO.out
    subst e6
    cases k with
    | zero =>
      go_wp2_with fail
      go_ret3
      have hd : decF l = ([], [], 3) := HD.out.symm
      rw [hd]
      exact ⟨_, _, rfl, Kd.R_nil _ _ _ _ _, Kd.V_nil _ _ _ _ _, HB1.out⟩
    | succ k =>
      by_cases hlen : rest.length < 4
      · have hs := short_left hlen
        have hD : decGo (k + 1) rest out = ([], [], 4) := by
          match rest, hlen with
          | [], _ => rfl
          | [_], _ => rfl
          | [_, _], _ => rfl
          | [_, _, _], _ => rfl
          | _ :: _ :: _ :: _ :: _, h => simp at h; omega
        have hd : decF l = ([], [], 4) := HD.out.symm.trans hD
        have Hd := Aside0.mk hd
        have Hs := Aside0.mk hs
        clear hD hd hs hlen
        go_wp2_with fail
        refine (uint_at HR1.out 4 (v := 0) (L := rest) (E := 4) (by rw [Hs.out.1]; rfl) Hs.out.2.1 Hs.out.2.2).mono ?_
        rintro e w2 ⟨rfl, hR, hg⟩
        have HR2 := Aside0.mk hR
        have HB2 := Aside0.mk (HB1.out.grown hg HB1.out.size (by intro k hk; cases hk; exact HR1.out.1))
        clear hR hg
        go_wp2_with fail
        refine (err_calls HR2.out).mono ?_
        rintro e w' ⟨rfl, rfl⟩
        go_wp2_with fail
        go_ret3
        rw [Hd.out]
        exact ⟨_, _, rfl, Kd.R_nil _ _ _ _ _, Kd.V_nil _ _ _ _ _, HB2.out⟩
      · obtain ⟨a, b, c', d, r, rfl⟩ : ∃ a b c d r, rest = a :: b :: c :: d :: r := by
          match rest, hlen with
          | a :: b :: c :: d :: r, _ => exact ⟨a, b, c, d, r, rfl⟩
          | [], h => simp at h
          | [_], h => simp at h
          | [_, _], h => simp at h
          | [_, _, _], h => simp at h
        have ha := HBY1.out a (by simp)
        have hb := HBY1.out b (by simp)
        have hc' := HBY1.out c' (by simp)
        have hd := HBY1.out d (by simp)
        have hBr : okB r := fun z hz => HBY1.out z (by simp [hz])
        have HBR := Aside0.mk hBr
        have hs := four_left a b c' d r
        have hu := uintF_four ha hb hc' hd
        obtain ⟨n, hn⟩ : ∃ n, num4 a b c' d = n := ⟨_, rfl⟩
        have hn0 : 0 ≤ n ∧ n < 4294967296 := by rw [← hn]; unfold num4; omega
        have HD2 : Aside0 ((if n / 256 % 2 = 1 then (out ++ [entF n], r, 0) else decGo k r (out ++ [entF n])) = decF l) := ⟨by rw [← hn]; exact HD.out⟩
        rw [hn] at hu
        have Hs := Aside0.mk hs
        have Hu := Aside0.mk hu
        clear HD hs hu hn ha hb hc' hd hBr HBY1 hlen
        go_wp2_with fail
        refine (uint_at HR1.out 4 (v := n) (L := r) (E := 0) (by rw [Hs.out.1]; exact Hu.out) Hs.out.2.1 Hs.out.2.2).mono ?_
        rintro e w2 ⟨rfl, hR, hg⟩
        have HR2 := Aside0.mk hR
        have HB2 := Aside0.mk (HB1.out.grown hg HB1.out.size (by intro k hk; cases hk; exact HR1.out.1))
        have HO2 := Aside0.mk (Kd.R_grown HO.out hg (fun k hk e => hk (Option.some.inj e)))
        have HG2 := Aside0.mk hg.size
        clear hR hg
        clear HO HR1 HB1 Hs Hu
        go_wp2_with fail
        refine (err_calls HR2.out).mono ?_
        rintro e w' ⟨rfl, rfl⟩
        have hfresh : ∀ k, w2.heap.size ≤ k → k ≠ g := fun k hk e => by have := HR2.out.lt; omega
        have Hfr := Aside0.mk hfresh
        have Hlen : Aside0 ((out.length + 1) * 24 ≤ 140737488355328) := ⟨by have := HL.out; omega⟩
        have Hcl := Aside0.mk (and_facts hn0.1 hn0.2)
        clear hfresh
        have hent : (⟨n / 4096, Go.bits .and .i64 (n / 512) 7, Go.bits .and .i64 n 255⟩ : S24) = entF n := by rw [Hcl.out.1, Hcl.out.2.1]; rfl
        have Hent := Aside0.mk hent
        clear hent
        by_cases hbit : n / 256 % 2 = 1
        · have hx : (Go.bits .and .i64 n 256 != 0) = true := by rw [Hcl.out.2.2, hbit]; rfl
          have hd : decF l = (out ++ [entF n], r, 0) := by rw [← HD2.out, if_pos hbit]
          have Hd := Aside0.mk hd
          clear hbit hd HD2
          go_wp2_with (at_builtin; refine Kd.R_append k24 (w0 := w) w.heap.size rfl (.tmp 21) (.tmp 30) 22 24 (.agg #[(.int .i64 0), (.int .i64 0), (.int .i64 0)]) 24 rfl Try.underlying22 info24 rfl (by decide) (by omega) (.slice A6 out.length c6) out (⟨n / 4096, Go.bits .and .i64 (n / 512) 7, Go.bits .and .i64 n 255⟩ : S24) [.int .i64 (n / 4096), .int .i64 (Go.bits .and .i64 (n / 512) 7), .int .i64 (Go.bits .and .i64 n 255)] (fun k => k ≠ g) (fun _ => False) rfl rfl ?aP (fun _ hk => hk.elim) Hfr.out HO2.out HB2.out HB2.out.size Hlen.out ?_; (case aP => exact k24_mkM _ _ _ (⟨n / 4096, Go.bits .and .i64 (n / 512) 7, Go.bits .and .i64 n 255⟩ : S24)); intro v31 w3 ho hb hg hat; have HO3 := Aside0.mk ho; have HB3 := Aside0.mk hb; have HG3 := Aside0.mk hg; have HAT := Aside0.mk hat; clear ho hb hg hat)
          rw [Hent.out] at HO3
          have hR3 : Rdr w3 w.heap.size (fun k => w.heap.size ≤ k ∧ some k ≠ v31.ownBlock) g r 0 := (HR2.out.grown HG3.out (fun k hk => hk.1.2)).mono (fun k hk => ⟨hk.1.1, fun e => by
            rcases HAT.out with h | ⟨b, h, hb⟩
            · exact hk.1.2 (e.trans h)
            · rw [h] at e
              cases e
              have := hk.2
              have := HG2.out
              omega⟩)
          have HR3 := Aside0.mk hR3
          clear hR3 HR2 HG3 HAT HB2 HO2
          refine (left_calls HR3.out).mono ?_
          rintro e w' ⟨rfl, rfl⟩
          go_wp2_with fail
          refine (bytes_calls HR3.out (r.length : Int)).mono ?_
          rintro e w4 ⟨A4, c4, rfl, hc4, hF, hR, hg⟩
          rw [all_left] at hc4 hF
          have Hc4 := Aside0.mk hc4
          have HF := Aside0.mk hF
          have HB4 := Aside0.mk (HB3.out.grown hg HB3.out.size (by intro k hk; cases hk; exact HR3.out.1))
          have HO4 := Aside0.mk (Kd.R_grown HO3.out hg (fun k hk e => hk (Option.some.inj e)))
          rw [all_left]
          clear hc4 hF hR hg HB3 HO3
          go_wp2_with fail
          go_ret3
          rw [Hd.out]
          exact ⟨v31, _, rfl, Kd.R_mono HO4.out (fun _ _ => trivial), Kd.V_mono (Kd.V_mk Hc4.out HF.out) (fun k hk => hk.1), HB4.out⟩
        · have hx : (Go.bits .and .i64 n 256 != 0) = false := by rw [Hcl.out.2.2, show n / 256 % 2 = 0 by omega]; rfl
          have hd : decGo k r (out ++ [entF n]) = decF l := by rw [← HD2.out, if_neg hbit]
          have Hd := Aside0.mk hd
          clear hbit hd HD2
          go_wp2_with (at_builtin; refine Kd.R_append k24 (w0 := w) w.heap.size rfl (.tmp 21) (.tmp 30) 22 24 (.agg #[(.int .i64 0), (.int .i64 0), (.int .i64 0)]) 24 rfl Try.underlying22 info24 rfl (by decide) (by omega) (.slice A6 out.length c6) out (⟨n / 4096, Go.bits .and .i64 (n / 512) 7, Go.bits .and .i64 n 255⟩ : S24) [.int .i64 (n / 4096), .int .i64 (Go.bits .and .i64 (n / 512) 7), .int .i64 (Go.bits .and .i64 n 255)] (fun k => k ≠ g) (fun _ => False) rfl rfl ?aP (fun _ hk => hk.elim) Hfr.out HO2.out HB2.out HB2.out.size Hlen.out ?_; (case aP => exact k24_mkM _ _ _ (⟨n / 4096, Go.bits .and .i64 (n / 512) 7, Go.bits .and .i64 n 255⟩ : S24)); intro v31 w3 ho hb hg hat; have HO3 := Aside0.mk ho; have HB3 := Aside0.mk hb; have HG3 := Aside0.mk hg; have HAT := Aside0.mk hat; clear ho hb hg hat)
          rw [Hent.out] at HO3
          go_roundg k
          case rel =>
            refine ⟨r, out ++ [entF n], k, wrap64 (i + 1), rfl, rfl, by have := HL.out; unfold wrap64; omega, HO3, ⟨(HR2.out.grown HG3.out (fun k hk => hk.1.2)).bound.mono (fun k hk => ⟨⟨hk.1.1.1, fun e => ?_⟩, hk.2.2⟩)⟩, Hd, HBR, ⟨by rw [List.length_append, List.length_singleton]; have := HL.out; omega⟩, HB3⟩
            rcases HAT.out with h | ⟨b, h, hb⟩
            · exact hk.1.1.2 (e.trans h)
            · rw [h] at e
              cases e
              have := hk.1.2
              have := HG2.out
              omega
          case measure => omega


theorem shim_Decode.calls (A0 : Option Addr) (c0 : Nat) (l0 : List Int) (r1 : List S24) (r2 : List Int) (r3 : Int) (w : World) (hr0 : Kd.C (Kd.int .u8) w A0 l0.length l0) (hc0 : l0.length ≤ c0) (h : shim_Decode.f l0 = some (r1, r2, r3)) :
    Calls Try.prog 14 #[.slice A0 l0.length c0] w fun e w' => ∃ v0 v1, e = .returned (.tuple #[v0, v1, .int .i64 r3]) ∧ Kd.R k24 24 w' w.heap.size (fun _ => True) v0 r1 ∧
      Kd.V (Kd.int .u8) 5 w' w.heap.size (fun k => w.heap.size ≤ k ∧ some k ≠ v0.ownBlock) v1 r2 ∧ Below w.heap.size w w' := by
  unfold shim_Decode.f at h
  split at h
  · rename_i hl
    have h := Option.some.inj h
    have h1 : r1 = (decF l0).1 := by rw [h]
    have h2 : r2 = (decF l0).2.1 := by rw [h]
    have h3 : r3 = (decF l0).2.2 := by rw [h]
    subst h1; subst h2; subst h3
    exact decode_any hr0 hc0 hl.1 hl.2
  · cases h
end Go.Proofs.Ytppdmaeoipeefaa.Giv
