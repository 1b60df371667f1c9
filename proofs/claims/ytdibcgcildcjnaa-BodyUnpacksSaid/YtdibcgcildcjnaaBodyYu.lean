/- The document's package body: numbers that are read. The document's package body: what an object would say. -/
import Derived.Test.YtdibcgcildcjnaaBodyYt
namespace Go.Proofs.Ytdibcgcildcjnaa.Cm
open Go.RowKit
set_option linter.unusedVariables false
set_option linter.unusedSimpArgs false
set_option maxRecDepth 20000
set_option maxHeartbeats 8000000
def readA (b : List Int) (k n : Nat) : Int := if b.length < k + n then 0 else num ((b.drop k).take n)
def nodeA (b : List Int) (k : Nat) : Int := readA b k 4 - 167772160
theorem readA_bound {b : List Int} (ho : Octs b) (k n : Nat) : 0 ≤ readA b k n ∧ readA b k n < 256 ^ n := by
  unfold readA
  split
  · exact ⟨Int.le_refl _, pow_pos256 n⟩
  · have h := num_bound ((ho.drop k).take n)
    have hl : ((b.drop k).take n).length = n := by simp; omega
    rw [hl] at h; exact h
theorem readA_at {b pre post : List Int} {n : Nat} {v : Int} (hb : b = pre ++ (digits n v ++ post)) (h0 : 0 ≤ v) (h1 : v < 256 ^ n) : readA b pre.length n = v := by
  unfold readA
  have hl := digits_length n v
  rw [if_neg (by rw [hb]; simp [hl]), hb, List.drop_left, List.take_append, hl, Nat.sub_self, List.take_zero, List.append_nil]
  have e : (digits n v).take n = digits n v := List.take_of_length_le (by omega)
  rw [e, num_digits h0 h1]
theorem read_ok (σ : Heap) {b : List Int} (ho : Octs b) (hb : b.length ≤ 1000000) (k n : Nat) (hk : k ≤ 1000010) (hn : n ≤ 8) : ACalls Try.prog 43 [.imm (bytesD b), .sc (.int .i64 k), .sc (.int .i64 n)] σ (fun y σ' => y = .sc (.int .u64 (readA b k n)) ∧ σ' = σ) := by
  have deb : (bytesD b).length = b.length := bytesD_length _
  have dcw : IntKind.i64.wrap ((k : Int) + (n : Int)) = (k : Int) + (n : Int) := wrap_i64 (by omega) (by omega)
  refine ACalls.code hT Try.func43 rfl ?_
  simp only [Try.ntmps43, List.length_cons, List.length_nil, Nat.reduceSub, Nat.reduceAdd, List.replicate, List.cons_append, List.nil_append]
  by_cases h : b.length < k + n
  · have dc1 : decide ((b.length : Int) < (k : Int) + (n : Int)) = true := decide_eq_true (by omega)
    repeat (first | (with_reducible first | refine AW.seq ?_ | refine AW.block ?_ | refine AW.skip ?_ | refine AW.ret ?_ | refine AW.exit ?_ | refine AW.reg hT ?_) | ((with_reducible refine AW.cond_true ?_ ?_); · rfl) | ((with_reducible refine AW.cond_false ?_ ?_); · rfl) | simp (maxSteps := 3000000) (maxDischargeDepth := 12) only [seval,push_cast,appendX,Try.results43,deb,dcw,dc1])
    simp [readA, h]
  · have dc1 : decide ((b.length : Int) < (k : Int) + (n : Int)) = false := decide_eq_false (by omega)
    have dc2 : ((0 : Int) ≤ (k : Int)) = True := by simp
    have dc3 : ((k : Int) ≤ (k : Int) + (n : Int)) = True := by simp only [eq_iff_iff, iff_true]; omega
    have dc4 : ((k : Int) + (n : Int) ≤ (b.length : Int)) = True := by simp only [eq_iff_iff, iff_true]; omega
    have dc5 := bytes_all b
    have dc6 : ((k : Int) + (n : Int)).toNat = k + n := by omega
    have dc7 : List.drop k (List.take (k + n) (bytesD b)) = bytesD ((b.drop k).take n) := by rw [bytesD_take, bytesD_drop, List.drop_take, Nat.add_sub_cancel_left]
    repeat (first | (with_reducible first | refine AW.seq ?_ | refine AW.block ?_ | refine AW.skip ?_ | refine AW.ret ?_ | refine AW.exit ?_ | refine AW.reg hT ?_) | ((with_reducible refine AW.cond_true ?_ ?_); · rfl) | ((with_reducible refine AW.cond_false ?_ ?_); · rfl) | simp (maxSteps := 3000000) (maxDischargeDepth := 12) only [seval,push_cast,appendX,Try.results43,deb,dcw,dc1,dc2,dc3,dc4,dc5,dc6,dc7])
    refine AOpsL.call (first := []) (cap := []) hT rfl rfl rfl fn48 rfl (ACalls.mono (number_ok _ _ ((ho.drop k).take n) (by simp; omega)) ?_)
    rintro y σ2 ⟨rfl, rfl⟩
    repeat (first | (with_reducible first | refine AW.seq ?_ | refine AW.block ?_ | refine AW.skip ?_ | refine AW.ret ?_ | refine AW.exit ?_ | refine AW.reg hT ?_) | ((with_reducible refine AW.cond_true ?_ ?_); · rfl) | ((with_reducible refine AW.cond_false ?_ ?_); · rfl) | simp (maxSteps := 3000000) (maxDischargeDepth := 12) only [seval,push_cast,appendX,Try.results43,dcw,dc1,dc2,dc3,dc4,dc5,dc6,dc7])
    simp [readA, h]
theorem node_okR (σ : Heap) {b : List Int} (ho : Octs b) (hb : b.length ≤ 1000000) (k : Nat) (hk : k ≤ 1000010) : ACalls Try.prog 42 [.imm (bytesD b), .sc (.int .i64 k)] σ (fun y σ' => y = .sc (.int .i64 (nodeA b k)) ∧ σ' = σ) := by
  have hbd := readA_bound ho k 4
  have e4 : (256 : Int) ^ 4 = 4294967296 := by decide
  rw [e4] at hbd
  have dcw : IntKind.i64.wrap (readA b k 4) = readA b k 4 := wrap_i64 (by omega) (by omega)
  have dcx : IntKind.i64.wrap (readA b k 4 - 167772160) = readA b k 4 - 167772160 := wrap_i64 (by omega) (by omega)
  refine ACalls.code hT Try.func42 rfl ?_
  simp only [Try.ntmps42, List.length_cons, List.length_nil, Nat.reduceSub, Nat.reduceAdd, List.replicate, List.cons_append, List.nil_append]
  repeat (first | (with_reducible first | refine AW.seq ?_ | refine AW.block ?_ | refine AW.skip ?_ | refine AW.ret ?_ | refine AW.exit ?_ | refine AW.reg hT ?_) | ((with_reducible refine AW.cond_true ?_ ?_); · rfl) | ((with_reducible refine AW.cond_false ?_ ?_); · rfl) | simp (maxSteps := 3000000) (maxDischargeDepth := 12) only [seval,push_cast,appendX,Try.results42,dcw,dcx])
  refine AOpsL.call (first := []) (cap := []) hT rfl rfl rfl fn43 rfl (ACalls.mono (read_ok _ ho hb k 4 hk (by omega)) ?_)
  rintro y σ2 ⟨rfl, rfl⟩
  repeat (first | (with_reducible first | refine AW.seq ?_ | refine AW.block ?_ | refine AW.skip ?_ | refine AW.ret ?_ | refine AW.exit ?_ | refine AW.reg hT ?_) | ((with_reducible refine AW.cond_true ?_ ?_); · rfl) | ((with_reducible refine AW.cond_false ?_ ?_); · rfl) | simp (maxSteps := 3000000) (maxDischargeDepth := 12) only [seval,push_cast,appendX,Try.results42,dcw,dcx])
  simp [nodeA]
def listGo (b : List Int) : Nat → Nat → List Int → List Int
  | 0, _, out => out
  | f + 1, k, out => if k < b.length ∧ out.length ≤ 16 then listGo b f (k + 8) (out ++ [nodeA b (k + 2)]) else out
def listA (b : List Int) : List Int := listGo b 18 0 []
theorem hop_split (M : List Int) {i : Nat} (h : i < M.length) : M.flatMap hopB = (M.take i).flatMap hopB ++ (hopB M[i] ++ (M.drop (i + 1)).flatMap hopB) := by
  conv => lhs; rw [← List.take_append_drop i M, List.flatMap_append, List.drop_eq_getElem_cons h, List.flatMap_cons]
theorem nodeA_hop (M : List Int) {i : Nat} (h : i < M.length) (hv : 0 ≤ M[i] ∧ M[i] < 16) : nodeA (M.flatMap hopB) (8 * i + 2) = M[i] := by
  have hs := hop_split M h
  have hlen : ((M.take i).flatMap hopB ++ digits 2 264).length = 8 * i + 2 := by
    rw [List.length_append, hops_len, digits_length, List.length_take, Nat.min_eq_left (by omega)]
  have := readA_at (b := M.flatMap hopB) (pre := (M.take i).flatMap hopB ++ digits 2 264) (n := 4) (v := 167772160 + M[i]) (post := digits 2 8192 ++ (M.drop (i + 1)).flatMap hopB) (by rw [hs]; simp [hopB, List.append_assoc]) (by omega) (by simp; omega)
  rw [hlen] at this
  unfold nodeA
  rw [this]; omega
theorem listGo_ok (M : List Int) (hv : ∀ v ∈ M, 0 ≤ v ∧ v < 16) (hM : M.length ≤ 16) : ∀ (f i : Nat), i ≤ M.length → M.length < f + i → listGo (M.flatMap hopB) f (8 * i) (M.take i) = M
  | 0, i, hi, hf => by omega
  | f + 1, i, hi, hf => by
    have hl := hops_len M
    by_cases h : i < M.length
    · have hc : 8 * i < (M.flatMap hopB).length ∧ (M.take i).length ≤ 16 := ⟨by rw [hl]; omega, by simp; omega⟩
      show (if _ then listGo _ f (8 * i + 8) _ else _) = M
      rw [if_pos hc, nodeA_hop M h (hv _ (List.getElem_mem h)), ← List.take_succ_eq_append_getElem h]
      exact listGo_ok M hv hM f (i + 1) h (by omega)
    · have hi' : i = M.length := by omega
      show (if _ then _ else _) = M
      rw [if_neg (by rw [hl]; omega), hi', List.take_length]
theorem listA_ok {M : List Int} (hv : ∀ v ∈ M, 0 ≤ v ∧ v < 16) (hM : M.length ≤ 16) : listA (M.flatMap hopB) = M := by
  have := listGo_ok M hv hM 18 0 (Nat.zero_le _) (by omega)
  simpa [listA] using this
def liI (b : List Int) (σ0 : Heap) (m : Nat) (ts : List DV) (σ : Heap) : Prop := ∃ f k out d, f = m ∧ listGo b (f + 1) k out = listA b ∧ out.length + f = 17 ∧ k = 8 * out.length ∧ Hold σ d 3 (out.map eI) ∧ (∀ q ∈ tOf d, σ0.n ≤ q) ∧ Ext [] σ0 σ ∧ TellsL ts (.imm (bytesD b) :: .any :: .any :: d :: .sc (.int .i64 k) :: .any :: .any :: .any :: .any :: .any :: .any :: .any :: .any :: .any :: .any :: .any :: .any :: .any :: .any :: .any :: .any :: .any :: .any :: .any :: [])
theorem rlist_ok (σ : Heap) {b : List Int} (ho : Octs b) (hb : b.length ≤ 1000000) : ACalls Try.prog 44 [.imm (bytesD b)] σ (fun y σ' => y = .imm ((listA b).map eI) ∧ Ext [] σ σ') := by
  refine ACalls.toImmH (e := 3) ?_
  have deb : (bytesD b).length = b.length := bytesD_length _
  refine ACalls.code hT Try.func44 rfl ?_
  simp only [Try.ntmps44, List.length_cons, List.length_nil, Nat.reduceSub, Nat.reduceAdd, List.replicate, List.cons_append, List.nil_append]
  repeat (first | (with_reducible first | refine AW.seq ?_ | refine AW.block ?_ | refine AW.skip ?_ | refine AW.ret ?_ | refine AW.exit ?_ | refine AW.reg hT ?_) | ((with_reducible refine AW.cond_true ?_ ?_); · rfl) | ((with_reducible refine AW.cond_false ?_ ?_); · rfl) | simp (maxSteps := 3000000) (maxDischargeDepth := 12) only [seval,push_cast,appendX,Try.results44,deb])
  refine AW.loop (liI b σ) (m := 17) ⟨17, 0, [], _, rfl, rfl, rfl, rfl, Hold.nil _ _, by simp [tOf], Ext.refl _ _, by (simp only [push_cast, TellsL, tells_any, tells_refl])⟩ ?_
  rintro m ts σ3 ⟨f, k, out, d, rfl, hg, hf, hk, hh, hd, xt3, hts⟩
  refine AW.told hts ?_
  clear hts
  have dncl := hh.cells
  have dnlf := hh.leaf
  have dnl := lenH (ty := 23) hh rfl
  have hstop : ¬ (k < b.length ∧ out.length ≤ 16) → out = listA b := fun h => by
    have e : listGo b (f + 1) k out = out := if_neg h
    rw [e] at hg; exact hg
  by_cases h1 : k < b.length
  · have dc1 : decide ((k : Int) < (b.length : Int)) = true := decide_eq_true (by omega)
    by_cases h2 : out.length ≤ 16
    · have dc2 : decide ((out.length : Int) ≤ 16) = true := decide_eq_true (by omega)
      have dcw2 : IntKind.i64.wrap ((k : Int) + 2) = (k : Int) + 2 := wrap_i64 (by omega) (by omega)
      have dcw8 : IntKind.i64.wrap ((k : Int) + 8) = (k : Int) + 8 := wrap_i64 (by omega) (by omega)
      have hn := node_okR σ3 ho hb (k + 2) (by omega)
      have hkc : (((k + 2 : Nat)) : Int) = (k : Int) + 2 := by omega
      rw [hkc] at hn
      repeat (first | (with_reducible first | refine AW.seq ?_ | refine AW.block ?_ | refine AW.skip ?_ | refine AW.ret ?_ | refine AW.exit ?_ | refine AW.reg hT ?_) | ((with_reducible refine AW.cond_true ?_ ?_); · rfl) | ((with_reducible refine AW.cond_false ?_ ?_); · rfl) | simp (maxSteps := 3000000) (maxDischargeDepth := 12) only [seval,push_cast,appendX,Try.results44,deb,xt3.2,xt3.ltT,xt3.leT,↓dncl,↓dnlf,↓dnl,dc1,dc2,dcw2,dcw8])
      refine AOpsL.call (first := []) (cap := []) hT rfl rfl rfl fn42 rfl (ACalls.mono (hn) ?_)
      rintro y σ4 ⟨rfl, rfl⟩
      obtain ⟨d', σ5, dnapp, hh5, hd5, xt5⟩ := hh.app1 (σ0 := σ) (ty := 23) (x := [.sc (.int .i64 (nodeA b (k + 2)))]) hd xt3 rfl rfl (by decide) rfl (by rw [List.length_map]; simp; omega)
      have dncl5 := hh5.cells
      have dnlf5 := hh5.leaf
      have e : listGo b (f + 1) k out = listGo b f (k + 8) (out ++ [nodeA b (k + 2)]) := if_pos ⟨h1, h2⟩
      rw [e] at hg
      have hk8 : (((k + 8 : Nat)) : Int) = (k : Int) + 8 := by omega
      obtain ⟨f', rfl⟩ : ∃ f', f = f' + 1 := ⟨f - 1, by omega⟩
      repeat (first | (with_reducible first | refine AW.seq ?_ | refine AW.block ?_ | refine AW.skip ?_ | refine AW.ret ?_ | refine AW.exit ?_ | refine AW.reg hT ?_) | ((with_reducible refine AW.cond_true ?_ ?_); · rfl) | ((with_reducible refine AW.cond_false ?_ ?_); · rfl) | simp (maxSteps := 3000000) (maxDischargeDepth := 12) only [seval,push_cast,appendX,Try.results44,xt3.2,xt3.ltT,xt3.leT,↓dncl,↓dnlf,↓dnl,dc1,dc2,dcw2,dcw8,↓dnapp,xt5.2,xt5.ltT,xt5.leT,↓dncl5,↓dnlf5])
      exact ⟨f', by omega, f', k + 8, out ++ [nodeA b (k + 2)], d', rfl, hg, by simp; omega, by simp; omega, by rw [List.map_append]; exact hh5, hd5, xt5, by (simp only [push_cast, TellsL, tells_any, tells_refl, hk8])⟩
    · have dc2 : decide ((out.length : Int) ≤ 16) = false := decide_eq_false (by omega)
      have ho' := hstop (fun h => h2 h.2)
      rw [ho'] at hh
      repeat (first | (with_reducible first | refine AW.seq ?_ | refine AW.block ?_ | refine AW.skip ?_ | refine AW.ret ?_ | refine AW.exit ?_ | refine AW.reg hT ?_) | ((with_reducible refine AW.cond_true ?_ ?_); · rfl) | ((with_reducible refine AW.cond_false ?_ ?_); · rfl) | simp (maxSteps := 3000000) (maxDischargeDepth := 12) only [seval,push_cast,appendX,Try.results44,deb,xt3.2,xt3.ltT,xt3.leT,↓dncl,↓dnlf,↓dnl,dc1,dc2])
      exact ⟨hh, hd, xt3⟩
  · have dc1 : decide ((k : Int) < (b.length : Int)) = false := decide_eq_false (by omega)
    have ho' := hstop (fun h => h1 h.1)
    rw [ho'] at hh
    repeat (first | (with_reducible first | refine AW.seq ?_ | refine AW.block ?_ | refine AW.skip ?_ | refine AW.ret ?_ | refine AW.exit ?_ | refine AW.reg hT ?_) | ((with_reducible refine AW.cond_true ?_ ?_); · rfl) | ((with_reducible refine AW.cond_false ?_ ?_); · rfl) | simp (maxSteps := 3000000) (maxDischargeDepth := 12) only [seval,push_cast,appendX,Try.results44,deb,xt3.2,xt3.ltT,xt3.leT,↓dncl,↓dnlf,↓dnl,dc1])
    exact ⟨hh, hd, xt3⟩
--@SEVAL
def guF (c : Int) (b : List Int) : Fs :=
  if c = 1 then { zF c with a := nodeA b 0, b := readA b 6 2, c := nodeA b 8 } else if c = 3 then { zF c with a := nodeA b 0 } else if c = 5 then { zF c with u := readA b 0 4 } else if c = 6 then { zF c with a := nodeA b 0, b := readA b 5 1, c := readA b 6 2 } else if c = 9 then { zF c with u := readA b 0 8 } else if c = 12 then { zF c with u := readA b 0 8 } else if c = 10 then { zF c with a := nodeA b 0, b := readA b 6 2 } else if c = 11 then { zF c with a := nodeA b 0, b := readA b 6 2 } else if c = 16 then { zF c with a := readA b 0 4 } else if c = 19 then { zF c with a := readA b 0 4 } else if c = 23 then { zF c with u := readA b 4 4 } else if c = 207 then { zF c with no := readA b 0 4, an := readA b 4 4, al := readA b 8 4, su := readA b 12 1, ho := readA b 13 1 } else zF c
def guL (c : Int) (b : List Int) : List Int := if isL c then listA b else []
end Go.Proofs.Ytdibcgcildcjnaa.Cm
