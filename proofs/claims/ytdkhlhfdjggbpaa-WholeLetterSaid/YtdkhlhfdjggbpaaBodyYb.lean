/- Package body: an item's steps, behind one another, in memory. Package body: an item's fields, class by class. -/
import Derived.Test.YtdkhlhfdjggbpaaBodyYa
namespace Go.Proofs.Ytdkhlhfdjggbpaa.Cm
open Go.RowKit
set_option linter.unusedVariables false
set_option linter.unusedSimpArgs false
set_option maxRecDepth 20000
set_option maxHeartbeats 8000000
/-- Behind some steps: the item, and the form. -/
def Thr (F : Form) (σ σ' : Heap) (g p q : Nat) (fp : List Nat) (d : DV) (k : Nat) (w : GS F × Fs) : Prop := σ'.get q = some (ItO w.2 d) ∧ F.fits w.1.s k ∧ GonTo F σ σ' g p fp [q] w.1
theorem Thr.start {F : Form} {σ : Heap} {g p q : Nat} {fp : List Nat} {d : DV} {k : Nat} {z : GS F} {x : Fs} (hA : GonAt F σ g p fp z) (gtq : σ.get q = some (ItO x d)) (hf : F.fits z.s k) : Thr F σ σ g p q fp d k (z, x) :=
  ⟨gtq, hf, fp, hA, Ext.refl _ _, fun _ _ h => h⟩
theorem Thr.parts {F : Form} {σ σ1 : Heap} {g p q : Nat} {fp : List Nat} {d : DV} {k : Nat} {w : GS F × Fs} (h : Thr F σ σ1 g p q fp d k w) : ∃ fp1, GonAt F σ1 g p fp1 w.1 ∧ Ext (q :: g :: fp) σ σ1 ∧ (∀ r, r < σ.n → r ∈ fp1 → r ∈ fp) ∧ σ1.get q = some (ItO w.2 d) ∧ F.fits w.1.s k ∧ q ≠ g ∧ q ∉ fp1 := by
  obtain ⟨h1, h2, fp1, h3, h4, h5⟩ := h
  obtain ⟨h6, h7⟩ := h3.out h1 (.inr rfl)
  exact ⟨fp1, h3, h4, h5, h1, h2, h6, h7⟩
theorem Thr.gone {F : Form} {σ σ1 : Heap} {g p q : Nat} {fp : List Nat} {d : DV} {k : Nat} {w : GS F × Fs} (h : Thr F σ σ1 g p q fp d k w) : σ1.get g = some (GonO F p w.1.ok) := by
  obtain ⟨_, _, _, h3, _, _⟩ := h
  exact h3.1
theorem fits_le {F : Form} {s : F.S} : ∀ {k m : Nat}, k ≤ m → F.fits s m → F.fits s k := by
  intro k m h hf
  obtain ⟨e, rfl⟩ : ∃ e, m = k + e := ⟨m - k, by omega⟩
  induction e with
  | zero => exact hf
  | succ e ih => exact ih (by omega) (F.fitsS _ _ hf)
section
variable {F : Form} {σ σ1 : Heap} {g p q : Nat} {fp : List Nat} {d : DV} {k : Nat} {w : GS F × Fs}
theorem Thr.then_ {fp1 : List Nat} {σ2 : Heap} {w' : GS F × Fs} (hx : Ext (q :: g :: fp) σ σ1) (hn : ∀ r, r < σ.n → r ∈ fp1 → r ∈ fp) (gt : σ2.get q = some (ItO w'.2 d)) (hf : F.fits w'.1.s k) (h : GonTo F σ1 σ2 g p fp1 [q] w'.1) : Thr F σ σ2 g p q fp d k w' :=
  ⟨gt, hf, GonTo.trans hx hn h⟩
theorem thr_needs (h : Thr F σ σ1 g p q fp d k w) (b : Bool) : ACalls Try.prog 84 [.ptr g 0 0 1, .sc (.bool b)] σ1 (fun y σ' => y = .tup [] ∧ Thr F σ σ' g p q fp d k (w.1.needs b, w.2)) := by
  obtain ⟨fp1, hA, hx, hn, gt, hf, hqg, hqf⟩ := h.parts
  refine (needs_ok F σ1 b hA.1).mono ?_
  rintro y σ2 ⟨rfl, rfl⟩
  refine ⟨rfl, Thr.then_ hx hn ?_ hf ⟨fp1, hA.set _, (Ext.refl _ _).set (.inr (by simp)) _, fun _ _ h => h⟩⟩
  rw [Heap.get_set_ne (Ne.symm hqg)]; exact gt
theorem thr_fix (h : Thr F σ σ1 g p q fp d (k + 1) w) {n : Nat} {u : Int} (h1 : 1 ≤ n) (h8 : n ≤ 8) (h0 : 0 ≤ u) : ACalls Try.prog 82 [.ptr g 0 0 1, .sc (.int .i64 n), .sc (.int .u64 u)] σ1 (fun y σ' => y = .tup [] ∧ Thr F σ σ' g p q fp d k (w.1.stp w.2 (.fix n u))) := by
  obtain ⟨fp1, hA, hx, hn, gt, hf, hqg, hqf⟩ := h.parts
  refine (fixed_ok F σ1 hA hf h1 h8 h0).mono ?_
  rintro y σ2 ⟨rfl, h⟩
  refine ⟨rfl, Thr.then_ hx hn ?_ (F.fitsN _ _ _ _ h8 hf) (h.mono (by simp))⟩
  obtain ⟨_, _, x2, _⟩ := h
  exact x2.get gt (by simp; exact ⟨hqg, hqf⟩)
def isI (j : Nat) : Prop := j = 1 ∨ j = 2 ∨ j = 3 ∨ j = 7 ∨ j = 8
def isG (j : Nat) : Prop := j = 9 ∨ j = 10 ∨ j = 11
theorem it_cell (x : Fs) (d : DV) {j : Nat} (h : isI j) : CellAt (ItO x d) 0 j 1 (.sc (.int .i64 (x.get j))) := by
  rcases h with rfl | rfl | rfl | rfl | rfl <;> exact ⟨rfl, rfl, _, rfl, rfl⟩
theorem it_put (x : Fs) (d : DV) (v : Int) {j : Nat} (h : isI j) : (ItO x d).put 0 j (.sc (.int .i64 v)) = ItO (x.set v j) d := by
  rcases h with rfl | rfl | rfl | rfl | rfl <;> rfl
theorem it_cellG (x : Fs) (d : DV) {j : Nat} (h : isG j) : CellAt (ItO x d) 0 j 1 (.sc (.int .u32 (x.get j))) := by
  rcases h with rfl | rfl | rfl <;> exact ⟨rfl, rfl, _, rfl, rfl⟩
theorem it_putG (x : Fs) (d : DV) (v : Int) {j : Nat} (h : isG j) : (ItO x d).put 0 j (.sc (.int .u32 v)) = ItO (x.set v j) d := by
  rcases h with rfl | rfl | rfl <;> rfl
theorem thr_node (h : Thr F σ σ1 g p q fp d (k + 1) w) {j : Nat} (hj : isI j) : ACalls Try.prog 81 [.ptr g 0 0 1, .ptr q 0 j 1] σ1 (fun y σ' => y = .tup [] ∧ Thr F σ σ' g p q fp d k (w.1.stp w.2 (.node j))) := by
  obtain ⟨fp1, hA, hx, hn, gt, hf, hqg, hqf⟩ := h.parts
  refine (node_ok F σ1 hA hf hqg hqf gt (it_cell w.2 d hj)).mono ?_
  rintro y σ2 ⟨rfl, gt2, h⟩
  rw [it_put _ _ _ hj] at gt2
  exact ⟨rfl, Thr.then_ hx hn gt2 (w.1.fits_node _ hf) h⟩
theorem thr_int (h : Thr F σ σ1 g p q fp d (k + 1) w) {n j : Nat} {top : Int} (hj : isI j) (h1 : 1 ≤ n) (h4 : n ≤ 4) (hv9 : w.2.get j ≤ 9223372036854775807) : ACalls Try.prog 83 [.ptr g 0 0 1, .sc (.int .i64 n), .ptr q 0 j 1, .sc (.int .i64 top)] σ1 (fun y σ' => y = .tup [] ∧ Thr F σ σ' g p q fp d k (w.1.stp w.2 (.int n j top))) := by
  obtain ⟨fp1, hA, hx, hn, gt, hf, hqg, hqf⟩ := h.parts
  refine (int_ok F σ1 hA hf h1 h4 hv9 hqg hqf gt (it_cell w.2 d hj)).mono ?_
  rintro y σ2 ⟨rfl, gt2, h⟩
  rw [it_put _ _ _ hj] at gt2
  exact ⟨rfl, Thr.then_ hx hn gt2 (w.1.fits_int _ _ (by omega) hf) h⟩
theorem thr_group (h : Thr F σ σ1 g p q fp d (k + 1) w) {j : Nat} (hj : isG j) (hv0 : 0 ≤ w.2.get j) (hv9 : w.2.get j < 4294967296) : ACalls Try.prog 88 [.ptr g 0 0 1, .ptr q 0 j 1] σ1 (fun y σ' => y = .tup [] ∧ Thr F σ σ' g p q fp d k (w.1.stp w.2 (.raw 4 j))) := by
  obtain ⟨fp1, hA, hx, hn, gt, hf, hqg, hqf⟩ := h.parts
  refine (group_ok F σ1 hA hf hv0 hv9 hqg hqf gt (it_cellG w.2 d hj)).mono ?_
  rintro y σ2 ⟨rfl, gt2, h⟩
  rw [it_putG _ _ _ hj] at gt2
  exact ⟨rfl, Thr.then_ hx hn gt2 (F.fitsN _ _ _ _ (by omega) hf) h⟩
/-- A number that is put into U: the call, and what it will be behind the store. -/
theorem thr_raw (h : Thr F σ σ1 g p q fp d (k + 1) w) {n : Nat} (h1 : 1 ≤ n) (h8 : n ≤ 8) (h0 : 0 ≤ w.2.u) : ACalls Try.prog F.fnum [.ptr p 0 0 1, .sc (.int .i64 n), .sc (.int .u64 w.2.u)] σ1 (fun y σ' => ∃ v, y = .sc (.int .u64 v) ∧ σ'.get q = some (ItO w.2 d) ∧ Thr F σ (σ'.set q (ItO { w.2 with u := v } d)) g p q fp d k (w.1.stp w.2 (.raw n 4))) := by
  obtain ⟨fp1, hA, hx, hn, gt, hf, hqg, hqf⟩ := h.parts
  have hlq := Heap.lt gt
  refine (gnum_ok F σ1 hA hf h1 h8 h0).mono ?_
  rintro y σ2 ⟨rfl, fp2, hA2, hx2, hn2⟩
  have gt2 := hx2.get gt hqf
  have hqf2 : q ∉ fp2 := fun hm => hqf (hn2 q hlq hm)
  refine ⟨_, rfl, gt2, Thr.then_ hx hn (Heap.get_set (Heap.lt gt2)) (F.fitsN _ _ _ _ h8 hf) ⟨fp2, hA2.frame (X := [q]) ((Ext.refl _ _).set (.inr (by simp)) _) (by simp; exact Ne.symm hqg) (fun r hr hm => by simp at hm; subst hm; exact hqf2 hr), ?_, hn2⟩⟩
  exact (hx2.mono (Y := q :: g :: fp1) (by intro r hr; simp [hr])).set (.inr (by simp)) _
/-- What is wanted. -/
theorem want_ok (h : Thr F σ σ1 g p q fp d 8 w) (hn : 0 ≤ w.2.no ∧ w.2.no < 4294967296) (ha : 0 ≤ w.2.an ∧ w.2.an < 4294967296) (hl : 0 ≤ w.2.al ∧ w.2.al < 4294967296) (hs : w.2.su ≤ 9223372036854775807) (hh : w.2.ho ≤ 9223372036854775807) :
    ACalls Try.prog 86 [.ptr g 0 0 1, .ptr q 0 6 1] σ1 (fun y σ' => y = .tup [] ∧ Thr F σ σ' g p q fp d 2 (GS.run (w.1.needs (w.2.bw == 0)) w.2 [.raw 4 11, .raw 4 9, .raw 4 10, .int 1 7 7, .int 1 8 7, .fix 2 0])) := by
  obtain ⟨z, x⟩ := w
  have gtq := h.1
  refine ACalls.code hT Try.func86 rfl ?_
  simp only [Try.ntmps86, List.length_cons, List.length_nil, Nat.reduceSub, Nat.reduceAdd, List.replicate, List.cons_append, List.nil_append]
  repeat (first | (with_reducible refine AW.seq ?_) | (with_reducible refine AW.block ?_) | (with_reducible refine AW.skip ?_) | (with_reducible refine AW.ret ?_) | (with_reducible refine AW.exit ?_) | (with_reducible refine AW.reg hT ?_) | ((with_reducible refine AW.cond_true ?_ ?_); · rfl) | ((with_reducible refine AW.cond_false ?_ ?_); · rfl) | simp (maxSteps := 3000000) (maxDischargeDepth := 12) only [push_cast,appendX,reduceIte,reduceCtorEq,Nat.reduceSub,Nat.reduceAdd,Nat.reduceMul,Nat.reduceLT,Nat.reduceLeDiff,Nat.reduceEqDiff,Nat.reduceBEq,Int.reduceToNat,Int.reduceLT,Int.reduceLE,Int.reduceEq,Int.reduceNeg,Try.results86,ItO,itC,gtq,Heap.lt gtq])
  refine AOpsL.call (first := []) (cap := []) hT rfl rfl rfl fn84 rfl (ACalls.mono (thr_needs h (x.bw == 0)) ?_)
  rintro y σ2 ⟨rfl, h2⟩
  repeat (first | (with_reducible refine AW.seq ?_) | (with_reducible refine AW.block ?_) | (with_reducible refine AW.skip ?_) | (with_reducible refine AW.ret ?_) | (with_reducible refine AW.exit ?_) | (with_reducible refine AW.reg hT ?_) | ((with_reducible refine AW.cond_true ?_ ?_); · rfl) | ((with_reducible refine AW.cond_false ?_ ?_); · rfl) | simp (maxSteps := 3000000) (maxDischargeDepth := 12) only [push_cast,appendX,reduceIte,reduceCtorEq,Nat.reduceSub,Nat.reduceAdd,Nat.reduceMul,Nat.reduceLT,Nat.reduceLeDiff,Nat.reduceEqDiff,Nat.reduceBEq,Int.reduceToNat,Int.reduceLT,Int.reduceLE,Int.reduceEq,Int.reduceNeg,Try.results86,ItO,itC,gtq,Heap.lt gtq])
  refine AOpsL.call (first := []) (cap := []) hT rfl rfl rfl fn88 rfl (ACalls.mono (thr_group (k := 7) h2 (j := 11) (by simp [isG]) hn.1 hn.2) ?_)
  rintro y σ3 ⟨rfl, h3⟩
  repeat (first | (with_reducible refine AW.seq ?_) | (with_reducible refine AW.block ?_) | (with_reducible refine AW.skip ?_) | (with_reducible refine AW.ret ?_) | (with_reducible refine AW.exit ?_) | (with_reducible refine AW.reg hT ?_) | ((with_reducible refine AW.cond_true ?_ ?_); · rfl) | ((with_reducible refine AW.cond_false ?_ ?_); · rfl) | simp (maxSteps := 3000000) (maxDischargeDepth := 12) only [push_cast,appendX,reduceIte,reduceCtorEq,Nat.reduceSub,Nat.reduceAdd,Nat.reduceMul,Nat.reduceLT,Nat.reduceLeDiff,Nat.reduceEqDiff,Nat.reduceBEq,Int.reduceToNat,Int.reduceLT,Int.reduceLE,Int.reduceEq,Int.reduceNeg,Try.results86,ItO,itC,gtq,Heap.lt gtq])
  refine AOpsL.call (first := []) (cap := []) hT rfl rfl rfl fn88 rfl (ACalls.mono (thr_group (k := 6) h3 (j := 9) (by simp [isG]) ha.1 ha.2) ?_)
  rintro y σ4 ⟨rfl, h4⟩
  repeat (first | (with_reducible refine AW.seq ?_) | (with_reducible refine AW.block ?_) | (with_reducible refine AW.skip ?_) | (with_reducible refine AW.ret ?_) | (with_reducible refine AW.exit ?_) | (with_reducible refine AW.reg hT ?_) | ((with_reducible refine AW.cond_true ?_ ?_); · rfl) | ((with_reducible refine AW.cond_false ?_ ?_); · rfl) | simp (maxSteps := 3000000) (maxDischargeDepth := 12) only [push_cast,appendX,reduceIte,reduceCtorEq,Nat.reduceSub,Nat.reduceAdd,Nat.reduceMul,Nat.reduceLT,Nat.reduceLeDiff,Nat.reduceEqDiff,Nat.reduceBEq,Int.reduceToNat,Int.reduceLT,Int.reduceLE,Int.reduceEq,Int.reduceNeg,Try.results86,ItO,itC,gtq,Heap.lt gtq])
  refine AOpsL.call (first := []) (cap := []) hT rfl rfl rfl fn88 rfl (ACalls.mono (thr_group (k := 5) h4 (j := 10) (by simp [isG]) hl.1 hl.2) ?_)
  rintro y σ5 ⟨rfl, h5⟩
  repeat (first | (with_reducible refine AW.seq ?_) | (with_reducible refine AW.block ?_) | (with_reducible refine AW.skip ?_) | (with_reducible refine AW.ret ?_) | (with_reducible refine AW.exit ?_) | (with_reducible refine AW.reg hT ?_) | ((with_reducible refine AW.cond_true ?_ ?_); · rfl) | ((with_reducible refine AW.cond_false ?_ ?_); · rfl) | simp (maxSteps := 3000000) (maxDischargeDepth := 12) only [push_cast,appendX,reduceIte,reduceCtorEq,Nat.reduceSub,Nat.reduceAdd,Nat.reduceMul,Nat.reduceLT,Nat.reduceLeDiff,Nat.reduceEqDiff,Nat.reduceBEq,Int.reduceToNat,Int.reduceLT,Int.reduceLE,Int.reduceEq,Int.reduceNeg,Try.results86,ItO,itC,gtq,Heap.lt gtq])
  refine AOpsL.call (first := []) (cap := []) hT rfl rfl rfl fn83 rfl (ACalls.mono (thr_int (k := 4) (n := 1) (top := 7) h5 (j := 7) (by simp [isI]) (by omega) (by omega) hs) ?_)
  rintro y σ6 ⟨rfl, h6⟩
  repeat (first | (with_reducible refine AW.seq ?_) | (with_reducible refine AW.block ?_) | (with_reducible refine AW.skip ?_) | (with_reducible refine AW.ret ?_) | (with_reducible refine AW.exit ?_) | (with_reducible refine AW.reg hT ?_) | ((with_reducible refine AW.cond_true ?_ ?_); · rfl) | ((with_reducible refine AW.cond_false ?_ ?_); · rfl) | simp (maxSteps := 3000000) (maxDischargeDepth := 12) only [push_cast,appendX,reduceIte,reduceCtorEq,Nat.reduceSub,Nat.reduceAdd,Nat.reduceMul,Nat.reduceLT,Nat.reduceLeDiff,Nat.reduceEqDiff,Nat.reduceBEq,Int.reduceToNat,Int.reduceLT,Int.reduceLE,Int.reduceEq,Int.reduceNeg,Try.results86,ItO,itC,gtq,Heap.lt gtq])
  refine AOpsL.call (first := []) (cap := []) hT rfl rfl rfl fn83 rfl (ACalls.mono (thr_int (k := 3) (n := 1) (top := 7) h6 (j := 8) (by simp [isI]) (by omega) (by omega) hh) ?_)
  rintro y σ7 ⟨rfl, h7⟩
  repeat (first | (with_reducible refine AW.seq ?_) | (with_reducible refine AW.block ?_) | (with_reducible refine AW.skip ?_) | (with_reducible refine AW.ret ?_) | (with_reducible refine AW.exit ?_) | (with_reducible refine AW.reg hT ?_) | ((with_reducible refine AW.cond_true ?_ ?_); · rfl) | ((with_reducible refine AW.cond_false ?_ ?_); · rfl) | simp (maxSteps := 3000000) (maxDischargeDepth := 12) only [push_cast,appendX,reduceIte,reduceCtorEq,Nat.reduceSub,Nat.reduceAdd,Nat.reduceMul,Nat.reduceLT,Nat.reduceLeDiff,Nat.reduceEqDiff,Nat.reduceBEq,Int.reduceToNat,Int.reduceLT,Int.reduceLE,Int.reduceEq,Int.reduceNeg,Try.results86,ItO,itC,gtq,Heap.lt gtq])
  refine AOpsL.call (first := []) (cap := []) hT rfl rfl rfl fn82 rfl (ACalls.mono (thr_fix (k := 2) (n := 2) (u := 0) h7 (by omega) (by omega) (by omega)) ?_)
  rintro y σ8 ⟨rfl, h8⟩
  repeat (first | (with_reducible refine AW.seq ?_) | (with_reducible refine AW.block ?_) | (with_reducible refine AW.skip ?_) | (with_reducible refine AW.ret ?_) | (with_reducible refine AW.exit ?_) | (with_reducible refine AW.reg hT ?_) | ((with_reducible refine AW.cond_true ?_ ?_); · rfl) | ((with_reducible refine AW.cond_false ?_ ?_); · rfl) | simp (maxSteps := 3000000) (maxDischargeDepth := 12) only [push_cast,appendX,reduceIte,reduceCtorEq,Nat.reduceSub,Nat.reduceAdd,Nat.reduceMul,Nat.reduceLT,Nat.reduceLeDiff,Nat.reduceEqDiff,Nat.reduceBEq,Int.reduceToNat,Int.reduceLT,Int.reduceLE,Int.reduceEq,Int.reduceNeg,Try.results86,ItO,itC,gtq,Heap.lt gtq])
  exact h8
end
/-- What an item's numbers are. -/
def Fs.Wf (x : Fs) : Prop := (-9223372036854775808 ≤ x.cls ∧ x.cls ≤ 9223372036854775807) ∧ (-9223372036854775808 ≤ x.a ∧ x.a ≤ 9223372036854775807) ∧ (-9223372036854775808 ≤ x.b ∧ x.b ≤ 9223372036854775807) ∧ (-9223372036854775808 ≤ x.c ∧ x.c ≤ 9223372036854775807) ∧ (0 ≤ x.u ∧ x.u ≤ 18446744073709551615) ∧ (0 ≤ x.bw ∧ x.bw ≤ 18446744073709551615) ∧ (-9223372036854775808 ≤ x.su ∧ x.su ≤ 9223372036854775807) ∧ (-9223372036854775808 ≤ x.ho ∧ x.ho ≤ 9223372036854775807) ∧ (0 ≤ x.an ∧ x.an < 4294967296) ∧ (0 ≤ x.al ∧ x.al < 4294967296) ∧ (0 ≤ x.no ∧ x.no < 4294967296)
section
variable {F : Form} {σ σ1 : Heap} {g p q : Nat} {fp : List Nat} {d : DV} {z : GS F} {x : Fs}
theorem through_1 (h : Thr F σ σ1 g p q fp d 64 (z, x)) (hw : x.Wf) (hcc : x.cls = 1) :
    ACalls Try.prog 56 [.ptr g 0 0 1, .ptr q 0 0 1] σ1 (fun y σ' => y = .sc (.int .i64 7) ∧ Thr F σ σ' g p q fp d 60 (GS.run z x [.node 1, .fix 2 0, .int 2 2 65535, .node 3])) := by
  obtain ⟨hwc, hwa, hwb, hwcc, hwu, hwbw, hwsu, hwho, hwan, hwal, hwno⟩ := hw
  have gtq := h.1
  have gtg := h.gone
  have dcc := hcc
  refine ACalls.code hT Try.func56 rfl ?_
  simp only [Try.ntmps56, List.length_cons, List.length_nil, Nat.reduceSub, Nat.reduceAdd, List.replicate, List.cons_append, List.nil_append]
  repeat (first | (with_reducible first | refine AW.seq ?_ | refine AW.block ?_ | refine AW.skip ?_ | refine AW.ret ?_ | refine AW.exit ?_ | refine AW.reg hT ?_) | ((with_reducible refine AW.cond_true ?_ ?_); · (simp (maxSteps := 3000000) (maxDischargeDepth := 12) only [seval,push_cast,appendX,gtq,Heap.lt gtq,gtg,Heap.lt gtg,dcc]; done)) | ((with_reducible refine AW.cond_false ?_ ?_); · (simp (maxSteps := 3000000) (maxDischargeDepth := 12) only [seval,push_cast,appendX,gtq,Heap.lt gtq,gtg,Heap.lt gtg,dcc]; done)) | simp (maxSteps := 3000000) (maxDischargeDepth := 12) only [seval,push_cast,appendX,Try.results56,ItO,itC,GonO,gtq,Heap.lt gtq,gtg,Heap.lt gtg,dcc])
  refine AOpsL.call (first := []) (cap := []) hT rfl rfl rfl fn81 rfl (ACalls.mono (thr_node (k := 63) h (j := 1) (by simp [isI])) ?_)
  rintro y σ2 ⟨rfl, h2⟩
  have gtq2 := h2.1
  have gtg2 := h2.gone
  repeat (first | (with_reducible first | refine AW.seq ?_ | refine AW.block ?_ | refine AW.skip ?_ | refine AW.ret ?_ | refine AW.exit ?_ | refine AW.reg hT ?_) | ((with_reducible refine AW.cond_true ?_ ?_); · (simp (maxSteps := 3000000) (maxDischargeDepth := 12) only [seval,push_cast,appendX,gtq,Heap.lt gtq,gtg,Heap.lt gtg,dcc,gtq2,Heap.lt gtq2,gtg2,Heap.lt gtg2]; done)) | ((with_reducible refine AW.cond_false ?_ ?_); · (simp (maxSteps := 3000000) (maxDischargeDepth := 12) only [seval,push_cast,appendX,gtq,Heap.lt gtq,gtg,Heap.lt gtg,dcc,gtq2,Heap.lt gtq2,gtg2,Heap.lt gtg2]; done)) | simp (maxSteps := 3000000) (maxDischargeDepth := 12) only [seval,push_cast,appendX,Try.results56,ItO,itC,GonO,gtq,Heap.lt gtq,gtg,Heap.lt gtg,dcc,gtq2,Heap.lt gtq2,gtg2,Heap.lt gtg2])
  refine AOpsL.call (first := []) (cap := []) hT rfl rfl rfl fn82 rfl (ACalls.mono (thr_fix (k := 62) (n := 2) (u := 0) h2 (by omega) (by omega) (by omega)) ?_)
  rintro y σ3 ⟨rfl, h3⟩
  have gtq3 := h3.1
  have gtg3 := h3.gone
  repeat (first | (with_reducible first | refine AW.seq ?_ | refine AW.block ?_ | refine AW.skip ?_ | refine AW.ret ?_ | refine AW.exit ?_ | refine AW.reg hT ?_) | ((with_reducible refine AW.cond_true ?_ ?_); · (simp (maxSteps := 3000000) (maxDischargeDepth := 12) only [seval,push_cast,appendX,gtq,Heap.lt gtq,gtg,Heap.lt gtg,dcc,gtq2,Heap.lt gtq2,gtg2,Heap.lt gtg2,gtq3,Heap.lt gtq3,gtg3,Heap.lt gtg3]; done)) | ((with_reducible refine AW.cond_false ?_ ?_); · (simp (maxSteps := 3000000) (maxDischargeDepth := 12) only [seval,push_cast,appendX,gtq,Heap.lt gtq,gtg,Heap.lt gtg,dcc,gtq2,Heap.lt gtq2,gtg2,Heap.lt gtg2,gtq3,Heap.lt gtq3,gtg3,Heap.lt gtg3]; done)) | simp (maxSteps := 3000000) (maxDischargeDepth := 12) only [seval,push_cast,appendX,Try.results56,ItO,itC,GonO,gtq,Heap.lt gtq,gtg,Heap.lt gtg,dcc,gtq2,Heap.lt gtq2,gtg2,Heap.lt gtg2,gtq3,Heap.lt gtq3,gtg3,Heap.lt gtg3])
  refine AOpsL.call (first := []) (cap := []) hT rfl rfl rfl fn83 rfl (ACalls.mono (thr_int (k := 61) (n := 2) (top := 65535) h3 (j := 2) (by simp [isI]) (by omega) (by omega) hwb.2) ?_)
  rintro y σ4 ⟨rfl, h4⟩
  have gtq4 := h4.1
  have gtg4 := h4.gone
  repeat (first | (with_reducible first | refine AW.seq ?_ | refine AW.block ?_ | refine AW.skip ?_ | refine AW.ret ?_ | refine AW.exit ?_ | refine AW.reg hT ?_) | ((with_reducible refine AW.cond_true ?_ ?_); · (simp (maxSteps := 3000000) (maxDischargeDepth := 12) only [seval,push_cast,appendX,gtq,Heap.lt gtq,gtg,Heap.lt gtg,dcc,gtq2,Heap.lt gtq2,gtg2,Heap.lt gtg2,gtq3,Heap.lt gtq3,gtg3,Heap.lt gtg3,gtq4,Heap.lt gtq4,gtg4,Heap.lt gtg4]; done)) | ((with_reducible refine AW.cond_false ?_ ?_); · (simp (maxSteps := 3000000) (maxDischargeDepth := 12) only [seval,push_cast,appendX,gtq,Heap.lt gtq,gtg,Heap.lt gtg,dcc,gtq2,Heap.lt gtq2,gtg2,Heap.lt gtg2,gtq3,Heap.lt gtq3,gtg3,Heap.lt gtg3,gtq4,Heap.lt gtq4,gtg4,Heap.lt gtg4]; done)) | simp (maxSteps := 3000000) (maxDischargeDepth := 12) only [seval,push_cast,appendX,Try.results56,ItO,itC,GonO,gtq,Heap.lt gtq,gtg,Heap.lt gtg,dcc,gtq2,Heap.lt gtq2,gtg2,Heap.lt gtg2,gtq3,Heap.lt gtq3,gtg3,Heap.lt gtg3,gtq4,Heap.lt gtq4,gtg4,Heap.lt gtg4])
  refine AOpsL.call (first := []) (cap := []) hT rfl rfl rfl fn81 rfl (ACalls.mono (thr_node (k := 60) h4 (j := 3) (by simp [isI])) ?_)
  rintro y σ5 ⟨rfl, h5⟩
  have gtq5 := h5.1
  have gtg5 := h5.gone
  repeat (first | (with_reducible first | refine AW.seq ?_ | refine AW.block ?_ | refine AW.skip ?_ | refine AW.ret ?_ | refine AW.exit ?_ | refine AW.reg hT ?_) | ((with_reducible refine AW.cond_true ?_ ?_); · (simp (maxSteps := 3000000) (maxDischargeDepth := 12) only [seval,push_cast,appendX,gtq,Heap.lt gtq,gtg,Heap.lt gtg,dcc,gtq2,Heap.lt gtq2,gtg2,Heap.lt gtg2,gtq3,Heap.lt gtq3,gtg3,Heap.lt gtg3,gtq4,Heap.lt gtq4,gtg4,Heap.lt gtg4,gtq5,Heap.lt gtq5,gtg5,Heap.lt gtg5]; done)) | ((with_reducible refine AW.cond_false ?_ ?_); · (simp (maxSteps := 3000000) (maxDischargeDepth := 12) only [seval,push_cast,appendX,gtq,Heap.lt gtq,gtg,Heap.lt gtg,dcc,gtq2,Heap.lt gtq2,gtg2,Heap.lt gtg2,gtq3,Heap.lt gtq3,gtg3,Heap.lt gtg3,gtq4,Heap.lt gtq4,gtg4,Heap.lt gtg4,gtq5,Heap.lt gtq5,gtg5,Heap.lt gtg5]; done)) | simp (maxSteps := 3000000) (maxDischargeDepth := 12) only [seval,push_cast,appendX,Try.results56,ItO,itC,GonO,gtq,Heap.lt gtq,gtg,Heap.lt gtg,dcc,gtq2,Heap.lt gtq2,gtg2,Heap.lt gtg2,gtq3,Heap.lt gtq3,gtg3,Heap.lt gtg3,gtq4,Heap.lt gtq4,gtg4,Heap.lt gtg4,gtq5,Heap.lt gtq5,gtg5,Heap.lt gtg5])
  exact h5
theorem through_3 (h : Thr F σ σ1 g p q fp d 64 (z, x)) (hw : x.Wf) (hcc : x.cls = 3) :
    ACalls Try.prog 56 [.ptr g 0 0 1, .ptr q 0 0 1] σ1 (fun y σ' => y = .sc (.int .i64 1) ∧ Thr F σ σ' g p q fp d 62 (GS.run z x [.node 1, .fix 4 0])) := by
  obtain ⟨hwc, hwa, hwb, hwcc, hwu, hwbw, hwsu, hwho, hwan, hwal, hwno⟩ := hw
  have gtq := h.1
  have gtg := h.gone
  have dcc := hcc
  refine ACalls.code hT Try.func56 rfl ?_
  simp only [Try.ntmps56, List.length_cons, List.length_nil, Nat.reduceSub, Nat.reduceAdd, List.replicate, List.cons_append, List.nil_append]
  repeat (first | (with_reducible first | refine AW.seq ?_ | refine AW.block ?_ | refine AW.skip ?_ | refine AW.ret ?_ | refine AW.exit ?_ | refine AW.reg hT ?_) | ((with_reducible refine AW.cond_true ?_ ?_); · (simp (maxSteps := 3000000) (maxDischargeDepth := 12) only [seval,push_cast,appendX,gtq,Heap.lt gtq,gtg,Heap.lt gtg,dcc]; done)) | ((with_reducible refine AW.cond_false ?_ ?_); · (simp (maxSteps := 3000000) (maxDischargeDepth := 12) only [seval,push_cast,appendX,gtq,Heap.lt gtq,gtg,Heap.lt gtg,dcc]; done)) | simp (maxSteps := 3000000) (maxDischargeDepth := 12) only [seval,push_cast,appendX,Try.results56,ItO,itC,GonO,gtq,Heap.lt gtq,gtg,Heap.lt gtg,dcc])
  refine AOpsL.call (first := []) (cap := []) hT rfl rfl rfl fn81 rfl (ACalls.mono (thr_node (k := 63) h (j := 1) (by simp [isI])) ?_)
  rintro y σ2 ⟨rfl, h2⟩
  have gtq2 := h2.1
  have gtg2 := h2.gone
  repeat (first | (with_reducible first | refine AW.seq ?_ | refine AW.block ?_ | refine AW.skip ?_ | refine AW.ret ?_ | refine AW.exit ?_ | refine AW.reg hT ?_) | ((with_reducible refine AW.cond_true ?_ ?_); · (simp (maxSteps := 3000000) (maxDischargeDepth := 12) only [seval,push_cast,appendX,gtq,Heap.lt gtq,gtg,Heap.lt gtg,dcc,gtq2,Heap.lt gtq2,gtg2,Heap.lt gtg2]; done)) | ((with_reducible refine AW.cond_false ?_ ?_); · (simp (maxSteps := 3000000) (maxDischargeDepth := 12) only [seval,push_cast,appendX,gtq,Heap.lt gtq,gtg,Heap.lt gtg,dcc,gtq2,Heap.lt gtq2,gtg2,Heap.lt gtg2]; done)) | simp (maxSteps := 3000000) (maxDischargeDepth := 12) only [seval,push_cast,appendX,Try.results56,ItO,itC,GonO,gtq,Heap.lt gtq,gtg,Heap.lt gtg,dcc,gtq2,Heap.lt gtq2,gtg2,Heap.lt gtg2])
  refine AOpsL.call (first := []) (cap := []) hT rfl rfl rfl fn82 rfl (ACalls.mono (thr_fix (k := 62) (n := 4) (u := 0) h2 (by omega) (by omega) (by omega)) ?_)
  rintro y σ3 ⟨rfl, h3⟩
  have gtq3 := h3.1
  have gtg3 := h3.gone
  repeat (first | (with_reducible first | refine AW.seq ?_ | refine AW.block ?_ | refine AW.skip ?_ | refine AW.ret ?_ | refine AW.exit ?_ | refine AW.reg hT ?_) | ((with_reducible refine AW.cond_true ?_ ?_); · (simp (maxSteps := 3000000) (maxDischargeDepth := 12) only [seval,push_cast,appendX,gtq,Heap.lt gtq,gtg,Heap.lt gtg,dcc,gtq2,Heap.lt gtq2,gtg2,Heap.lt gtg2,gtq3,Heap.lt gtq3,gtg3,Heap.lt gtg3]; done)) | ((with_reducible refine AW.cond_false ?_ ?_); · (simp (maxSteps := 3000000) (maxDischargeDepth := 12) only [seval,push_cast,appendX,gtq,Heap.lt gtq,gtg,Heap.lt gtg,dcc,gtq2,Heap.lt gtq2,gtg2,Heap.lt gtg2,gtq3,Heap.lt gtq3,gtg3,Heap.lt gtg3]; done)) | simp (maxSteps := 3000000) (maxDischargeDepth := 12) only [seval,push_cast,appendX,Try.results56,ItO,itC,GonO,gtq,Heap.lt gtq,gtg,Heap.lt gtg,dcc,gtq2,Heap.lt gtq2,gtg2,Heap.lt gtg2,gtq3,Heap.lt gtq3,gtg3,Heap.lt gtg3])
  exact h3
theorem through_5 (h : Thr F σ σ1 g p q fp d 64 (z, x)) (hw : x.Wf) (hcc : x.cls = 5) :
    ACalls Try.prog 56 [.ptr g 0 0 1, .ptr q 0 0 1] σ1 (fun y σ' => y = .sc (.int .i64 1) ∧ Thr F σ σ' g p q fp d 63 (GS.run (z.needs (decide (x.u ≤ 4294967295))) x [.raw 4 4])) := by
  obtain ⟨hwc, hwa, hwb, hwcc, hwu, hwbw, hwsu, hwho, hwan, hwal, hwno⟩ := hw
  have gtq := h.1
  have gtg := h.gone
  have dcc := hcc
  refine ACalls.code hT Try.func56 rfl ?_
  simp only [Try.ntmps56, List.length_cons, List.length_nil, Nat.reduceSub, Nat.reduceAdd, List.replicate, List.cons_append, List.nil_append]
  repeat (first | (with_reducible first | refine AW.seq ?_ | refine AW.block ?_ | refine AW.skip ?_ | refine AW.ret ?_ | refine AW.exit ?_ | refine AW.reg hT ?_) | ((with_reducible refine AW.cond_true ?_ ?_); · (simp (maxSteps := 3000000) (maxDischargeDepth := 12) only [seval,push_cast,appendX,gtq,Heap.lt gtq,gtg,Heap.lt gtg,dcc]; done)) | ((with_reducible refine AW.cond_false ?_ ?_); · (simp (maxSteps := 3000000) (maxDischargeDepth := 12) only [seval,push_cast,appendX,gtq,Heap.lt gtq,gtg,Heap.lt gtg,dcc]; done)) | simp (maxSteps := 3000000) (maxDischargeDepth := 12) only [seval,push_cast,appendX,Try.results56,ItO,itC,GonO,gtq,Heap.lt gtq,gtg,Heap.lt gtg,dcc])
  refine AOpsL.call (first := []) (cap := []) hT rfl rfl rfl fn84 rfl (ACalls.mono (thr_needs h (decide (x.u ≤ 4294967295))) ?_)
  rintro y σ2 ⟨rfl, h2⟩
  have gtq2 := h2.1
  have gtg2 := h2.gone
  repeat (first | (with_reducible first | refine AW.seq ?_ | refine AW.block ?_ | refine AW.skip ?_ | refine AW.ret ?_ | refine AW.exit ?_ | refine AW.reg hT ?_) | ((with_reducible show AW _ (.region 14 _ _) _ _ _); (with_reducible refine AW.drawn (id := 14) hT [0,1,2,3,4,5,6,7,8,9,10,11,12,13,14] [[],[],[1],[1,2],[1,2,3],[],[5],[5,6],[5,6,7],[1,2,3,4],[1,2,3,4,9],[1,2,3,4,5,6,7,8,9,10],[0,1,2,3,4,5,6,7,8,9,10,11],[0,1,2,3,4,5,6,7,8,9,10,11,12],[0,1,2,3,4,5,6,7,8,9,10,11,12,13]] mix (by kernel_rfl) ?_)) | ((with_reducible show AW _ (.region 24 _ _) _ _ _); (with_reducible refine AW.drawn (id := 24) hT [0,1,2,3,4,5,6,7,8,9,10,11,12,13,14] [[],[],[1],[1,2],[1,2,3],[],[5],[5,6],[5,6,7],[1,2,3,4],[1,2,3,4,9],[1,2,3,4,5,6,7,8,9,10],[0,1,2,3,4,5,6,7,8,9,10,11],[0,1,2,3,4,5,6,7,8,9,10,11,12],[0,1,2,3,4,5,6,7,8,9,10,11,12,13]] mix (by kernel_rfl) ?_)) | ((with_reducible show AW _ (.region 43 _ _) _ _ _); (with_reducible refine AW.drawn (id := 43) hT [0,1,2,3,4,5,6,7,8,9,10,11,12,13,14] [[],[],[1],[1,2],[1,2,3],[],[5],[5,6],[5,6,7],[1,2,3,4],[1,2,3,4,9],[1,2,3,4,5,6,7,8,9,10],[0,1,2,3,4,5,6,7,8,9,10,11],[0,1,2,3,4,5,6,7,8,9,10,11,12],[0,1,2,3,4,5,6,7,8,9,10,11,12,13]] mix (by kernel_rfl) ?_)) | ((with_reducible show DLeft _ _ _ _ (_ :: _) _ _ _ _); (with_reducible apply DLeft.step hT); (case hoi => ((simp only [List.getElem?_toArray,List.getElem?_cons_zero,List.getElem?_cons_succ]); with_reducible rfl)); (case hg => rfl); (case hk => rfl); (case hr => ((try simp (maxSteps := 3000000) (maxDischargeDepth := 12) only [seval,push_cast,appendX,Try.results56,ItO,itC,GonO,gtq,Heap.lt gtq,gtg,Heap.lt gtg,dcc,gtq2,Heap.lt gtq2,gtg2,Heap.lt gtg2]); with_reducible rfl))) | ((with_reducible refine AW.cond_true ?_ ?_); · (simp (maxSteps := 3000000) (maxDischargeDepth := 12) only [seval,push_cast,appendX,gtq,Heap.lt gtq,gtg,Heap.lt gtg,dcc,gtq2,Heap.lt gtq2,gtg2,Heap.lt gtg2]; done)) | ((with_reducible refine AW.cond_false ?_ ?_); · (simp (maxSteps := 3000000) (maxDischargeDepth := 12) only [seval,push_cast,appendX,gtq,Heap.lt gtq,gtg,Heap.lt gtg,dcc,gtq2,Heap.lt gtq2,gtg2,Heap.lt gtg2]; done)) | simp (maxSteps := 3000000) (maxDischargeDepth := 12) only [seval,push_cast,appendX,Try.results56,ItO,itC,GonO,gtq,Heap.lt gtq,gtg,Heap.lt gtg,dcc,gtq2,Heap.lt gtq2,gtg2,Heap.lt gtg2])
  ((apply DLeft.invoke); (case hoi => ((simp only [List.getElem?_toArray, List.getElem?_cons_zero, List.getElem?_cons_succ]); with_reducible rfl)); (case hg => rfl); (case ho => rfl); (case hc => rfl); (case hm => exact F.mnum); (case has => rfl)); refine ACalls.mono (thr_raw (k := 63) (n := 4) h2 (by omega) (by omega) hwu.1) ?_
  rintro y σ3 ⟨v, rfl, gtq3, h3⟩
  repeat (first | (with_reducible first | refine AW.seq ?_ | refine AW.block ?_ | refine AW.skip ?_ | refine AW.ret ?_ | refine AW.exit ?_ | refine AW.reg hT ?_) | ((with_reducible show AW _ (.region 14 _ _) _ _ _); (with_reducible refine AW.drawn (id := 14) hT [0,1,2,3,4,5,6,7,8,9,10,11,12,13,14] [[],[],[1],[1,2],[1,2,3],[],[5],[5,6],[5,6,7],[1,2,3,4],[1,2,3,4,9],[1,2,3,4,5,6,7,8,9,10],[0,1,2,3,4,5,6,7,8,9,10,11],[0,1,2,3,4,5,6,7,8,9,10,11,12],[0,1,2,3,4,5,6,7,8,9,10,11,12,13]] mix (by kernel_rfl) ?_)) | ((with_reducible show AW _ (.region 24 _ _) _ _ _); (with_reducible refine AW.drawn (id := 24) hT [0,1,2,3,4,5,6,7,8,9,10,11,12,13,14] [[],[],[1],[1,2],[1,2,3],[],[5],[5,6],[5,6,7],[1,2,3,4],[1,2,3,4,9],[1,2,3,4,5,6,7,8,9,10],[0,1,2,3,4,5,6,7,8,9,10,11],[0,1,2,3,4,5,6,7,8,9,10,11,12],[0,1,2,3,4,5,6,7,8,9,10,11,12,13]] mix (by kernel_rfl) ?_)) | ((with_reducible show AW _ (.region 43 _ _) _ _ _); (with_reducible refine AW.drawn (id := 43) hT [0,1,2,3,4,5,6,7,8,9,10,11,12,13,14] [[],[],[1],[1,2],[1,2,3],[],[5],[5,6],[5,6,7],[1,2,3,4],[1,2,3,4,9],[1,2,3,4,5,6,7,8,9,10],[0,1,2,3,4,5,6,7,8,9,10,11],[0,1,2,3,4,5,6,7,8,9,10,11,12],[0,1,2,3,4,5,6,7,8,9,10,11,12,13]] mix (by kernel_rfl) ?_)) | ((with_reducible show DLeft _ _ _ _ (_ :: _) _ _ _ _); (with_reducible apply DLeft.step hT); (case hoi => ((simp only [List.getElem?_toArray,List.getElem?_cons_zero,List.getElem?_cons_succ]); with_reducible rfl)); (case hg => rfl); (case hk => rfl); (case hr => ((try simp (maxSteps := 3000000) (maxDischargeDepth := 12) only [seval,push_cast,appendX,Try.results56,ItO,itC,GonO,gtq,Heap.lt gtq,gtg,Heap.lt gtg,dcc,gtq2,Heap.lt gtq2,gtg2,Heap.lt gtg2,gtq3,Heap.lt gtq3]); with_reducible rfl))) | ((with_reducible refine AW.cond_true ?_ ?_); · (simp (maxSteps := 3000000) (maxDischargeDepth := 12) only [seval,push_cast,appendX,gtq,Heap.lt gtq,gtg,Heap.lt gtg,dcc,gtq2,Heap.lt gtq2,gtg2,Heap.lt gtg2,gtq3,Heap.lt gtq3]; done)) | ((with_reducible refine AW.cond_false ?_ ?_); · (simp (maxSteps := 3000000) (maxDischargeDepth := 12) only [seval,push_cast,appendX,gtq,Heap.lt gtq,gtg,Heap.lt gtg,dcc,gtq2,Heap.lt gtq2,gtg2,Heap.lt gtg2,gtq3,Heap.lt gtq3]; done)) | simp (maxSteps := 3000000) (maxDischargeDepth := 12) only [seval,push_cast,appendX,Try.results56,ItO,itC,GonO,gtq,Heap.lt gtq,gtg,Heap.lt gtg,dcc,gtq2,Heap.lt gtq2,gtg2,Heap.lt gtg2,gtq3,Heap.lt gtq3])
  first | exact h3 | (simp only [ItO, itC, dcc] at h3; exact h3)
theorem through_6 (h : Thr F σ σ1 g p q fp d 64 (z, x)) (hw : x.Wf) (hcc : x.cls = 6) :
    ACalls Try.prog 56 [.ptr g 0 0 1, .ptr q 0 0 1] σ1 (fun y σ' => y = .sc (.int .i64 1) ∧ Thr F σ σ' g p q fp d 60 (GS.run z x [.node 1, .fix 1 0, .int 1 2 255, .int 2 3 65535])) := by
  obtain ⟨hwc, hwa, hwb, hwcc, hwu, hwbw, hwsu, hwho, hwan, hwal, hwno⟩ := hw
  have gtq := h.1
  have gtg := h.gone
  have dcc := hcc
  refine ACalls.code hT Try.func56 rfl ?_
  simp only [Try.ntmps56, List.length_cons, List.length_nil, Nat.reduceSub, Nat.reduceAdd, List.replicate, List.cons_append, List.nil_append]
  repeat (first | (with_reducible first | refine AW.seq ?_ | refine AW.block ?_ | refine AW.skip ?_ | refine AW.ret ?_ | refine AW.exit ?_ | refine AW.reg hT ?_) | ((with_reducible refine AW.cond_true ?_ ?_); · (simp (maxSteps := 3000000) (maxDischargeDepth := 12) only [seval,push_cast,appendX,gtq,Heap.lt gtq,gtg,Heap.lt gtg,dcc]; done)) | ((with_reducible refine AW.cond_false ?_ ?_); · (simp (maxSteps := 3000000) (maxDischargeDepth := 12) only [seval,push_cast,appendX,gtq,Heap.lt gtq,gtg,Heap.lt gtg,dcc]; done)) | simp (maxSteps := 3000000) (maxDischargeDepth := 12) only [seval,push_cast,appendX,Try.results56,ItO,itC,GonO,gtq,Heap.lt gtq,gtg,Heap.lt gtg,dcc])
  refine AOpsL.call (first := []) (cap := []) hT rfl rfl rfl fn81 rfl (ACalls.mono (thr_node (k := 63) h (j := 1) (by simp [isI])) ?_)
  rintro y σ2 ⟨rfl, h2⟩
  have gtq2 := h2.1
  have gtg2 := h2.gone
  repeat (first | (with_reducible first | refine AW.seq ?_ | refine AW.block ?_ | refine AW.skip ?_ | refine AW.ret ?_ | refine AW.exit ?_ | refine AW.reg hT ?_) | ((with_reducible refine AW.cond_true ?_ ?_); · (simp (maxSteps := 3000000) (maxDischargeDepth := 12) only [seval,push_cast,appendX,gtq,Heap.lt gtq,gtg,Heap.lt gtg,dcc,gtq2,Heap.lt gtq2,gtg2,Heap.lt gtg2]; done)) | ((with_reducible refine AW.cond_false ?_ ?_); · (simp (maxSteps := 3000000) (maxDischargeDepth := 12) only [seval,push_cast,appendX,gtq,Heap.lt gtq,gtg,Heap.lt gtg,dcc,gtq2,Heap.lt gtq2,gtg2,Heap.lt gtg2]; done)) | simp (maxSteps := 3000000) (maxDischargeDepth := 12) only [seval,push_cast,appendX,Try.results56,ItO,itC,GonO,gtq,Heap.lt gtq,gtg,Heap.lt gtg,dcc,gtq2,Heap.lt gtq2,gtg2,Heap.lt gtg2])
  refine AOpsL.call (first := []) (cap := []) hT rfl rfl rfl fn82 rfl (ACalls.mono (thr_fix (k := 62) (n := 1) (u := 0) h2 (by omega) (by omega) (by omega)) ?_)
  rintro y σ3 ⟨rfl, h3⟩
  have gtq3 := h3.1
  have gtg3 := h3.gone
  repeat (first | (with_reducible first | refine AW.seq ?_ | refine AW.block ?_ | refine AW.skip ?_ | refine AW.ret ?_ | refine AW.exit ?_ | refine AW.reg hT ?_) | ((with_reducible refine AW.cond_true ?_ ?_); · (simp (maxSteps := 3000000) (maxDischargeDepth := 12) only [seval,push_cast,appendX,gtq,Heap.lt gtq,gtg,Heap.lt gtg,dcc,gtq2,Heap.lt gtq2,gtg2,Heap.lt gtg2,gtq3,Heap.lt gtq3,gtg3,Heap.lt gtg3]; done)) | ((with_reducible refine AW.cond_false ?_ ?_); · (simp (maxSteps := 3000000) (maxDischargeDepth := 12) only [seval,push_cast,appendX,gtq,Heap.lt gtq,gtg,Heap.lt gtg,dcc,gtq2,Heap.lt gtq2,gtg2,Heap.lt gtg2,gtq3,Heap.lt gtq3,gtg3,Heap.lt gtg3]; done)) | simp (maxSteps := 3000000) (maxDischargeDepth := 12) only [seval,push_cast,appendX,Try.results56,ItO,itC,GonO,gtq,Heap.lt gtq,gtg,Heap.lt gtg,dcc,gtq2,Heap.lt gtq2,gtg2,Heap.lt gtg2,gtq3,Heap.lt gtq3,gtg3,Heap.lt gtg3])
  refine AOpsL.call (first := []) (cap := []) hT rfl rfl rfl fn83 rfl (ACalls.mono (thr_int (k := 61) (n := 1) (top := 255) h3 (j := 2) (by simp [isI]) (by omega) (by omega) hwb.2) ?_)
  rintro y σ4 ⟨rfl, h4⟩
  have gtq4 := h4.1
  have gtg4 := h4.gone
  repeat (first | (with_reducible first | refine AW.seq ?_ | refine AW.block ?_ | refine AW.skip ?_ | refine AW.ret ?_ | refine AW.exit ?_ | refine AW.reg hT ?_) | ((with_reducible refine AW.cond_true ?_ ?_); · (simp (maxSteps := 3000000) (maxDischargeDepth := 12) only [seval,push_cast,appendX,gtq,Heap.lt gtq,gtg,Heap.lt gtg,dcc,gtq2,Heap.lt gtq2,gtg2,Heap.lt gtg2,gtq3,Heap.lt gtq3,gtg3,Heap.lt gtg3,gtq4,Heap.lt gtq4,gtg4,Heap.lt gtg4]; done)) | ((with_reducible refine AW.cond_false ?_ ?_); · (simp (maxSteps := 3000000) (maxDischargeDepth := 12) only [seval,push_cast,appendX,gtq,Heap.lt gtq,gtg,Heap.lt gtg,dcc,gtq2,Heap.lt gtq2,gtg2,Heap.lt gtg2,gtq3,Heap.lt gtq3,gtg3,Heap.lt gtg3,gtq4,Heap.lt gtq4,gtg4,Heap.lt gtg4]; done)) | simp (maxSteps := 3000000) (maxDischargeDepth := 12) only [seval,push_cast,appendX,Try.results56,ItO,itC,GonO,gtq,Heap.lt gtq,gtg,Heap.lt gtg,dcc,gtq2,Heap.lt gtq2,gtg2,Heap.lt gtg2,gtq3,Heap.lt gtq3,gtg3,Heap.lt gtg3,gtq4,Heap.lt gtq4,gtg4,Heap.lt gtg4])
  refine AOpsL.call (first := []) (cap := []) hT rfl rfl rfl fn83 rfl (ACalls.mono (thr_int (k := 60) (n := 2) (top := 65535) h4 (j := 3) (by simp [isI]) (by omega) (by omega) hwcc.2) ?_)
  rintro y σ5 ⟨rfl, h5⟩
  have gtq5 := h5.1
  have gtg5 := h5.gone
  repeat (first | (with_reducible first | refine AW.seq ?_ | refine AW.block ?_ | refine AW.skip ?_ | refine AW.ret ?_ | refine AW.exit ?_ | refine AW.reg hT ?_) | ((with_reducible refine AW.cond_true ?_ ?_); · (simp (maxSteps := 3000000) (maxDischargeDepth := 12) only [seval,push_cast,appendX,gtq,Heap.lt gtq,gtg,Heap.lt gtg,dcc,gtq2,Heap.lt gtq2,gtg2,Heap.lt gtg2,gtq3,Heap.lt gtq3,gtg3,Heap.lt gtg3,gtq4,Heap.lt gtq4,gtg4,Heap.lt gtg4,gtq5,Heap.lt gtq5,gtg5,Heap.lt gtg5]; done)) | ((with_reducible refine AW.cond_false ?_ ?_); · (simp (maxSteps := 3000000) (maxDischargeDepth := 12) only [seval,push_cast,appendX,gtq,Heap.lt gtq,gtg,Heap.lt gtg,dcc,gtq2,Heap.lt gtq2,gtg2,Heap.lt gtg2,gtq3,Heap.lt gtq3,gtg3,Heap.lt gtg3,gtq4,Heap.lt gtq4,gtg4,Heap.lt gtg4,gtq5,Heap.lt gtq5,gtg5,Heap.lt gtg5]; done)) | simp (maxSteps := 3000000) (maxDischargeDepth := 12) only [seval,push_cast,appendX,Try.results56,ItO,itC,GonO,gtq,Heap.lt gtq,gtg,Heap.lt gtg,dcc,gtq2,Heap.lt gtq2,gtg2,Heap.lt gtg2,gtq3,Heap.lt gtq3,gtg3,Heap.lt gtg3,gtq4,Heap.lt gtq4,gtg4,Heap.lt gtg4,gtq5,Heap.lt gtq5,gtg5,Heap.lt gtg5])
  exact h5
theorem through_8 (h : Thr F σ σ1 g p q fp d 64 (z, x)) (hw : x.Wf) (hcc : x.cls = 8) :
    ACalls Try.prog 56 [.ptr g 0 0 1, .ptr q 0 0 1] σ1 (fun y σ' => y = .sc (.int .i64 1) ∧ Thr F σ σ' g p q fp d 63 (GS.run z x [.fix 4 18])) := by
  obtain ⟨hwc, hwa, hwb, hwcc, hwu, hwbw, hwsu, hwho, hwan, hwal, hwno⟩ := hw
  have gtq := h.1
  have gtg := h.gone
  have dcc := hcc
  refine ACalls.code hT Try.func56 rfl ?_
  simp only [Try.ntmps56, List.length_cons, List.length_nil, Nat.reduceSub, Nat.reduceAdd, List.replicate, List.cons_append, List.nil_append]
  repeat (first | (with_reducible first | refine AW.seq ?_ | refine AW.block ?_ | refine AW.skip ?_ | refine AW.ret ?_ | refine AW.exit ?_ | refine AW.reg hT ?_) | ((with_reducible refine AW.cond_true ?_ ?_); · (simp (maxSteps := 3000000) (maxDischargeDepth := 12) only [seval,push_cast,appendX,gtq,Heap.lt gtq,gtg,Heap.lt gtg,dcc]; done)) | ((with_reducible refine AW.cond_false ?_ ?_); · (simp (maxSteps := 3000000) (maxDischargeDepth := 12) only [seval,push_cast,appendX,gtq,Heap.lt gtq,gtg,Heap.lt gtg,dcc]; done)) | simp (maxSteps := 3000000) (maxDischargeDepth := 12) only [seval,push_cast,appendX,Try.results56,ItO,itC,GonO,gtq,Heap.lt gtq,gtg,Heap.lt gtg,dcc])
  refine AOpsL.call (first := []) (cap := []) hT rfl rfl rfl fn82 rfl (ACalls.mono (thr_fix (k := 63) (n := 4) (u := 18) h (by omega) (by omega) (by omega)) ?_)
  rintro y σ2 ⟨rfl, h2⟩
  have gtq2 := h2.1
  have gtg2 := h2.gone
  repeat (first | (with_reducible first | refine AW.seq ?_ | refine AW.block ?_ | refine AW.skip ?_ | refine AW.ret ?_ | refine AW.exit ?_ | refine AW.reg hT ?_) | ((with_reducible refine AW.cond_true ?_ ?_); · (simp (maxSteps := 3000000) (maxDischargeDepth := 12) only [seval,push_cast,appendX,gtq,Heap.lt gtq,gtg,Heap.lt gtg,dcc,gtq2,Heap.lt gtq2,gtg2,Heap.lt gtg2]; done)) | ((with_reducible refine AW.cond_false ?_ ?_); · (simp (maxSteps := 3000000) (maxDischargeDepth := 12) only [seval,push_cast,appendX,gtq,Heap.lt gtq,gtg,Heap.lt gtg,dcc,gtq2,Heap.lt gtq2,gtg2,Heap.lt gtg2]; done)) | simp (maxSteps := 3000000) (maxDischargeDepth := 12) only [seval,push_cast,appendX,Try.results56,ItO,itC,GonO,gtq,Heap.lt gtq,gtg,Heap.lt gtg,dcc,gtq2,Heap.lt gtq2,gtg2,Heap.lt gtg2])
  exact h2
theorem through_9 (h : Thr F σ σ1 g p q fp d 64 (z, x)) (hw : x.Wf) (hcc : x.cls = 9) :
    ACalls Try.prog 56 [.ptr g 0 0 1, .ptr q 0 0 1] σ1 (fun y σ' => y = .sc (.int .i64 2) ∧ Thr F σ σ' g p q fp d 63 (GS.run z x [.raw 8 4])) := by
  obtain ⟨hwc, hwa, hwb, hwcc, hwu, hwbw, hwsu, hwho, hwan, hwal, hwno⟩ := hw
  have gtq := h.1
  have gtg := h.gone
  have dcc := hcc
  refine ACalls.code hT Try.func56 rfl ?_
  simp only [Try.ntmps56, List.length_cons, List.length_nil, Nat.reduceSub, Nat.reduceAdd, List.replicate, List.cons_append, List.nil_append]
  repeat (first | (with_reducible first | refine AW.seq ?_ | refine AW.block ?_ | refine AW.skip ?_ | refine AW.ret ?_ | refine AW.exit ?_ | refine AW.reg hT ?_) | ((with_reducible show AW _ (.region 14 _ _) _ _ _); (with_reducible refine AW.drawn (id := 14) hT [0,1,2,3,4,5,6,7,8,9,10,11,12,13,14] [[],[],[1],[1,2],[1,2,3],[],[5],[5,6],[5,6,7],[1,2,3,4],[1,2,3,4,9],[1,2,3,4,5,6,7,8,9,10],[0,1,2,3,4,5,6,7,8,9,10,11],[0,1,2,3,4,5,6,7,8,9,10,11,12],[0,1,2,3,4,5,6,7,8,9,10,11,12,13]] mix (by kernel_rfl) ?_)) | ((with_reducible show AW _ (.region 24 _ _) _ _ _); (with_reducible refine AW.drawn (id := 24) hT [0,1,2,3,4,5,6,7,8,9,10,11,12,13,14] [[],[],[1],[1,2],[1,2,3],[],[5],[5,6],[5,6,7],[1,2,3,4],[1,2,3,4,9],[1,2,3,4,5,6,7,8,9,10],[0,1,2,3,4,5,6,7,8,9,10,11],[0,1,2,3,4,5,6,7,8,9,10,11,12],[0,1,2,3,4,5,6,7,8,9,10,11,12,13]] mix (by kernel_rfl) ?_)) | ((with_reducible show AW _ (.region 43 _ _) _ _ _); (with_reducible refine AW.drawn (id := 43) hT [0,1,2,3,4,5,6,7,8,9,10,11,12,13,14] [[],[],[1],[1,2],[1,2,3],[],[5],[5,6],[5,6,7],[1,2,3,4],[1,2,3,4,9],[1,2,3,4,5,6,7,8,9,10],[0,1,2,3,4,5,6,7,8,9,10,11],[0,1,2,3,4,5,6,7,8,9,10,11,12],[0,1,2,3,4,5,6,7,8,9,10,11,12,13]] mix (by kernel_rfl) ?_)) | ((with_reducible show DLeft _ _ _ _ (_ :: _) _ _ _ _); (with_reducible apply DLeft.step hT); (case hoi => ((simp only [List.getElem?_toArray,List.getElem?_cons_zero,List.getElem?_cons_succ]); with_reducible rfl)); (case hg => rfl); (case hk => rfl); (case hr => ((try simp (maxSteps := 3000000) (maxDischargeDepth := 12) only [seval,push_cast,appendX,Try.results56,ItO,itC,GonO,gtq,Heap.lt gtq,gtg,Heap.lt gtg,dcc]); with_reducible rfl))) | ((with_reducible refine AW.cond_true ?_ ?_); · (simp (maxSteps := 3000000) (maxDischargeDepth := 12) only [seval,push_cast,appendX,gtq,Heap.lt gtq,gtg,Heap.lt gtg,dcc]; done)) | ((with_reducible refine AW.cond_false ?_ ?_); · (simp (maxSteps := 3000000) (maxDischargeDepth := 12) only [seval,push_cast,appendX,gtq,Heap.lt gtq,gtg,Heap.lt gtg,dcc]; done)) | simp (maxSteps := 3000000) (maxDischargeDepth := 12) only [seval,push_cast,appendX,Try.results56,ItO,itC,GonO,gtq,Heap.lt gtq,gtg,Heap.lt gtg,dcc])
  ((apply DLeft.invoke); (case hoi => ((simp only [List.getElem?_toArray, List.getElem?_cons_zero, List.getElem?_cons_succ]); with_reducible rfl)); (case hg => rfl); (case ho => rfl); (case hc => rfl); (case hm => exact F.mnum); (case has => rfl)); refine ACalls.mono (thr_raw (k := 63) (n := 8) h (by omega) (by omega) hwu.1) ?_
  rintro y σ2 ⟨v, rfl, gtq2, h2⟩
  repeat (first | (with_reducible first | refine AW.seq ?_ | refine AW.block ?_ | refine AW.skip ?_ | refine AW.ret ?_ | refine AW.exit ?_ | refine AW.reg hT ?_) | ((with_reducible show AW _ (.region 14 _ _) _ _ _); (with_reducible refine AW.drawn (id := 14) hT [0,1,2,3,4,5,6,7,8,9,10,11,12,13,14] [[],[],[1],[1,2],[1,2,3],[],[5],[5,6],[5,6,7],[1,2,3,4],[1,2,3,4,9],[1,2,3,4,5,6,7,8,9,10],[0,1,2,3,4,5,6,7,8,9,10,11],[0,1,2,3,4,5,6,7,8,9,10,11,12],[0,1,2,3,4,5,6,7,8,9,10,11,12,13]] mix (by kernel_rfl) ?_)) | ((with_reducible show AW _ (.region 24 _ _) _ _ _); (with_reducible refine AW.drawn (id := 24) hT [0,1,2,3,4,5,6,7,8,9,10,11,12,13,14] [[],[],[1],[1,2],[1,2,3],[],[5],[5,6],[5,6,7],[1,2,3,4],[1,2,3,4,9],[1,2,3,4,5,6,7,8,9,10],[0,1,2,3,4,5,6,7,8,9,10,11],[0,1,2,3,4,5,6,7,8,9,10,11,12],[0,1,2,3,4,5,6,7,8,9,10,11,12,13]] mix (by kernel_rfl) ?_)) | ((with_reducible show AW _ (.region 43 _ _) _ _ _); (with_reducible refine AW.drawn (id := 43) hT [0,1,2,3,4,5,6,7,8,9,10,11,12,13,14] [[],[],[1],[1,2],[1,2,3],[],[5],[5,6],[5,6,7],[1,2,3,4],[1,2,3,4,9],[1,2,3,4,5,6,7,8,9,10],[0,1,2,3,4,5,6,7,8,9,10,11],[0,1,2,3,4,5,6,7,8,9,10,11,12],[0,1,2,3,4,5,6,7,8,9,10,11,12,13]] mix (by kernel_rfl) ?_)) | ((with_reducible show DLeft _ _ _ _ (_ :: _) _ _ _ _); (with_reducible apply DLeft.step hT); (case hoi => ((simp only [List.getElem?_toArray,List.getElem?_cons_zero,List.getElem?_cons_succ]); with_reducible rfl)); (case hg => rfl); (case hk => rfl); (case hr => ((try simp (maxSteps := 3000000) (maxDischargeDepth := 12) only [seval,push_cast,appendX,Try.results56,ItO,itC,GonO,gtq,Heap.lt gtq,gtg,Heap.lt gtg,dcc,gtq2,Heap.lt gtq2]); with_reducible rfl))) | ((with_reducible refine AW.cond_true ?_ ?_); · (simp (maxSteps := 3000000) (maxDischargeDepth := 12) only [seval,push_cast,appendX,gtq,Heap.lt gtq,gtg,Heap.lt gtg,dcc,gtq2,Heap.lt gtq2]; done)) | ((with_reducible refine AW.cond_false ?_ ?_); · (simp (maxSteps := 3000000) (maxDischargeDepth := 12) only [seval,push_cast,appendX,gtq,Heap.lt gtq,gtg,Heap.lt gtg,dcc,gtq2,Heap.lt gtq2]; done)) | simp (maxSteps := 3000000) (maxDischargeDepth := 12) only [seval,push_cast,appendX,Try.results56,ItO,itC,GonO,gtq,Heap.lt gtq,gtg,Heap.lt gtg,dcc,gtq2,Heap.lt gtq2])
  first | exact h2 | (simp only [ItO, itC, dcc] at h2; exact h2)
theorem through_12 (h : Thr F σ σ1 g p q fp d 64 (z, x)) (hw : x.Wf) (hcc : x.cls = 12) :
    ACalls Try.prog 56 [.ptr g 0 0 1, .ptr q 0 0 1] σ1 (fun y σ' => y = .sc (.int .i64 2) ∧ Thr F σ σ' g p q fp d 63 (GS.run z x [.raw 8 4])) := by
  obtain ⟨hwc, hwa, hwb, hwcc, hwu, hwbw, hwsu, hwho, hwan, hwal, hwno⟩ := hw
  have gtq := h.1
  have gtg := h.gone
  have dcc := hcc
  refine ACalls.code hT Try.func56 rfl ?_
  simp only [Try.ntmps56, List.length_cons, List.length_nil, Nat.reduceSub, Nat.reduceAdd, List.replicate, List.cons_append, List.nil_append]
  repeat (first | (with_reducible first | refine AW.seq ?_ | refine AW.block ?_ | refine AW.skip ?_ | refine AW.ret ?_ | refine AW.exit ?_ | refine AW.reg hT ?_) | ((with_reducible show AW _ (.region 14 _ _) _ _ _); (with_reducible refine AW.drawn (id := 14) hT [0,1,2,3,4,5,6,7,8,9,10,11,12,13,14] [[],[],[1],[1,2],[1,2,3],[],[5],[5,6],[5,6,7],[1,2,3,4],[1,2,3,4,9],[1,2,3,4,5,6,7,8,9,10],[0,1,2,3,4,5,6,7,8,9,10,11],[0,1,2,3,4,5,6,7,8,9,10,11,12],[0,1,2,3,4,5,6,7,8,9,10,11,12,13]] mix (by kernel_rfl) ?_)) | ((with_reducible show AW _ (.region 24 _ _) _ _ _); (with_reducible refine AW.drawn (id := 24) hT [0,1,2,3,4,5,6,7,8,9,10,11,12,13,14] [[],[],[1],[1,2],[1,2,3],[],[5],[5,6],[5,6,7],[1,2,3,4],[1,2,3,4,9],[1,2,3,4,5,6,7,8,9,10],[0,1,2,3,4,5,6,7,8,9,10,11],[0,1,2,3,4,5,6,7,8,9,10,11,12],[0,1,2,3,4,5,6,7,8,9,10,11,12,13]] mix (by kernel_rfl) ?_)) | ((with_reducible show AW _ (.region 43 _ _) _ _ _); (with_reducible refine AW.drawn (id := 43) hT [0,1,2,3,4,5,6,7,8,9,10,11,12,13,14] [[],[],[1],[1,2],[1,2,3],[],[5],[5,6],[5,6,7],[1,2,3,4],[1,2,3,4,9],[1,2,3,4,5,6,7,8,9,10],[0,1,2,3,4,5,6,7,8,9,10,11],[0,1,2,3,4,5,6,7,8,9,10,11,12],[0,1,2,3,4,5,6,7,8,9,10,11,12,13]] mix (by kernel_rfl) ?_)) | ((with_reducible show DLeft _ _ _ _ (_ :: _) _ _ _ _); (with_reducible apply DLeft.step hT); (case hoi => ((simp only [List.getElem?_toArray,List.getElem?_cons_zero,List.getElem?_cons_succ]); with_reducible rfl)); (case hg => rfl); (case hk => rfl); (case hr => ((try simp (maxSteps := 3000000) (maxDischargeDepth := 12) only [seval,push_cast,appendX,Try.results56,ItO,itC,GonO,gtq,Heap.lt gtq,gtg,Heap.lt gtg,dcc]); with_reducible rfl))) | ((with_reducible refine AW.cond_true ?_ ?_); · (simp (maxSteps := 3000000) (maxDischargeDepth := 12) only [seval,push_cast,appendX,gtq,Heap.lt gtq,gtg,Heap.lt gtg,dcc]; done)) | ((with_reducible refine AW.cond_false ?_ ?_); · (simp (maxSteps := 3000000) (maxDischargeDepth := 12) only [seval,push_cast,appendX,gtq,Heap.lt gtq,gtg,Heap.lt gtg,dcc]; done)) | simp (maxSteps := 3000000) (maxDischargeDepth := 12) only [seval,push_cast,appendX,Try.results56,ItO,itC,GonO,gtq,Heap.lt gtq,gtg,Heap.lt gtg,dcc])
  ((apply DLeft.invoke); (case hoi => ((simp only [List.getElem?_toArray, List.getElem?_cons_zero, List.getElem?_cons_succ]); with_reducible rfl)); (case hg => rfl); (case ho => rfl); (case hc => rfl); (case hm => exact F.mnum); (case has => rfl)); refine ACalls.mono (thr_raw (k := 63) (n := 8) h (by omega) (by omega) hwu.1) ?_
  rintro y σ2 ⟨v, rfl, gtq2, h2⟩
  repeat (first | (with_reducible first | refine AW.seq ?_ | refine AW.block ?_ | refine AW.skip ?_ | refine AW.ret ?_ | refine AW.exit ?_ | refine AW.reg hT ?_) | ((with_reducible show AW _ (.region 14 _ _) _ _ _); (with_reducible refine AW.drawn (id := 14) hT [0,1,2,3,4,5,6,7,8,9,10,11,12,13,14] [[],[],[1],[1,2],[1,2,3],[],[5],[5,6],[5,6,7],[1,2,3,4],[1,2,3,4,9],[1,2,3,4,5,6,7,8,9,10],[0,1,2,3,4,5,6,7,8,9,10,11],[0,1,2,3,4,5,6,7,8,9,10,11,12],[0,1,2,3,4,5,6,7,8,9,10,11,12,13]] mix (by kernel_rfl) ?_)) | ((with_reducible show AW _ (.region 24 _ _) _ _ _); (with_reducible refine AW.drawn (id := 24) hT [0,1,2,3,4,5,6,7,8,9,10,11,12,13,14] [[],[],[1],[1,2],[1,2,3],[],[5],[5,6],[5,6,7],[1,2,3,4],[1,2,3,4,9],[1,2,3,4,5,6,7,8,9,10],[0,1,2,3,4,5,6,7,8,9,10,11],[0,1,2,3,4,5,6,7,8,9,10,11,12],[0,1,2,3,4,5,6,7,8,9,10,11,12,13]] mix (by kernel_rfl) ?_)) | ((with_reducible show AW _ (.region 43 _ _) _ _ _); (with_reducible refine AW.drawn (id := 43) hT [0,1,2,3,4,5,6,7,8,9,10,11,12,13,14] [[],[],[1],[1,2],[1,2,3],[],[5],[5,6],[5,6,7],[1,2,3,4],[1,2,3,4,9],[1,2,3,4,5,6,7,8,9,10],[0,1,2,3,4,5,6,7,8,9,10,11],[0,1,2,3,4,5,6,7,8,9,10,11,12],[0,1,2,3,4,5,6,7,8,9,10,11,12,13]] mix (by kernel_rfl) ?_)) | ((with_reducible show DLeft _ _ _ _ (_ :: _) _ _ _ _); (with_reducible apply DLeft.step hT); (case hoi => ((simp only [List.getElem?_toArray,List.getElem?_cons_zero,List.getElem?_cons_succ]); with_reducible rfl)); (case hg => rfl); (case hk => rfl); (case hr => ((try simp (maxSteps := 3000000) (maxDischargeDepth := 12) only [seval,push_cast,appendX,Try.results56,ItO,itC,GonO,gtq,Heap.lt gtq,gtg,Heap.lt gtg,dcc,gtq2,Heap.lt gtq2]); with_reducible rfl))) | ((with_reducible refine AW.cond_true ?_ ?_); · (simp (maxSteps := 3000000) (maxDischargeDepth := 12) only [seval,push_cast,appendX,gtq,Heap.lt gtq,gtg,Heap.lt gtg,dcc,gtq2,Heap.lt gtq2]; done)) | ((with_reducible refine AW.cond_false ?_ ?_); · (simp (maxSteps := 3000000) (maxDischargeDepth := 12) only [seval,push_cast,appendX,gtq,Heap.lt gtq,gtg,Heap.lt gtg,dcc,gtq2,Heap.lt gtq2]; done)) | simp (maxSteps := 3000000) (maxDischargeDepth := 12) only [seval,push_cast,appendX,Try.results56,ItO,itC,GonO,gtq,Heap.lt gtq,gtg,Heap.lt gtg,dcc,gtq2,Heap.lt gtq2])
  first | exact h2 | (simp only [ItO, itC, dcc] at h2; exact h2)
theorem through_10 (h : Thr F σ σ1 g p q fp d 64 (z, x)) (hw : x.Wf) (hcc : x.cls = 10) :
    ACalls Try.prog 56 [.ptr g 0 0 1, .ptr q 0 0 1] σ1 (fun y σ' => y = .sc (.int .i64 7) ∧ Thr F σ σ' g p q fp d 61 (GS.run z x [.node 1, .fix 2 0, .int 2 2 65535])) := by
  obtain ⟨hwc, hwa, hwb, hwcc, hwu, hwbw, hwsu, hwho, hwan, hwal, hwno⟩ := hw
  have gtq := h.1
  have gtg := h.gone
  have dcc := hcc
  refine ACalls.code hT Try.func56 rfl ?_
  simp only [Try.ntmps56, List.length_cons, List.length_nil, Nat.reduceSub, Nat.reduceAdd, List.replicate, List.cons_append, List.nil_append]
  repeat (first | (with_reducible first | refine AW.seq ?_ | refine AW.block ?_ | refine AW.skip ?_ | refine AW.ret ?_ | refine AW.exit ?_ | refine AW.reg hT ?_) | ((with_reducible refine AW.cond_true ?_ ?_); · (simp (maxSteps := 3000000) (maxDischargeDepth := 12) only [seval,push_cast,appendX,gtq,Heap.lt gtq,gtg,Heap.lt gtg,dcc]; done)) | ((with_reducible refine AW.cond_false ?_ ?_); · (simp (maxSteps := 3000000) (maxDischargeDepth := 12) only [seval,push_cast,appendX,gtq,Heap.lt gtq,gtg,Heap.lt gtg,dcc]; done)) | simp (maxSteps := 3000000) (maxDischargeDepth := 12) only [seval,push_cast,appendX,Try.results56,ItO,itC,GonO,gtq,Heap.lt gtq,gtg,Heap.lt gtg,dcc])
  refine AOpsL.call (first := []) (cap := []) hT rfl rfl rfl fn81 rfl (ACalls.mono (thr_node (k := 63) h (j := 1) (by simp [isI])) ?_)
  rintro y σ2 ⟨rfl, h2⟩
  have gtq2 := h2.1
  have gtg2 := h2.gone
  repeat (first | (with_reducible first | refine AW.seq ?_ | refine AW.block ?_ | refine AW.skip ?_ | refine AW.ret ?_ | refine AW.exit ?_ | refine AW.reg hT ?_) | ((with_reducible refine AW.cond_true ?_ ?_); · (simp (maxSteps := 3000000) (maxDischargeDepth := 12) only [seval,push_cast,appendX,gtq,Heap.lt gtq,gtg,Heap.lt gtg,dcc,gtq2,Heap.lt gtq2,gtg2,Heap.lt gtg2]; done)) | ((with_reducible refine AW.cond_false ?_ ?_); · (simp (maxSteps := 3000000) (maxDischargeDepth := 12) only [seval,push_cast,appendX,gtq,Heap.lt gtq,gtg,Heap.lt gtg,dcc,gtq2,Heap.lt gtq2,gtg2,Heap.lt gtg2]; done)) | simp (maxSteps := 3000000) (maxDischargeDepth := 12) only [seval,push_cast,appendX,Try.results56,ItO,itC,GonO,gtq,Heap.lt gtq,gtg,Heap.lt gtg,dcc,gtq2,Heap.lt gtq2,gtg2,Heap.lt gtg2])
  refine AOpsL.call (first := []) (cap := []) hT rfl rfl rfl fn82 rfl (ACalls.mono (thr_fix (k := 62) (n := 2) (u := 0) h2 (by omega) (by omega) (by omega)) ?_)
  rintro y σ3 ⟨rfl, h3⟩
  have gtq3 := h3.1
  have gtg3 := h3.gone
  repeat (first | (with_reducible first | refine AW.seq ?_ | refine AW.block ?_ | refine AW.skip ?_ | refine AW.ret ?_ | refine AW.exit ?_ | refine AW.reg hT ?_) | ((with_reducible refine AW.cond_true ?_ ?_); · (simp (maxSteps := 3000000) (maxDischargeDepth := 12) only [seval,push_cast,appendX,gtq,Heap.lt gtq,gtg,Heap.lt gtg,dcc,gtq2,Heap.lt gtq2,gtg2,Heap.lt gtg2,gtq3,Heap.lt gtq3,gtg3,Heap.lt gtg3]; done)) | ((with_reducible refine AW.cond_false ?_ ?_); · (simp (maxSteps := 3000000) (maxDischargeDepth := 12) only [seval,push_cast,appendX,gtq,Heap.lt gtq,gtg,Heap.lt gtg,dcc,gtq2,Heap.lt gtq2,gtg2,Heap.lt gtg2,gtq3,Heap.lt gtq3,gtg3,Heap.lt gtg3]; done)) | simp (maxSteps := 3000000) (maxDischargeDepth := 12) only [seval,push_cast,appendX,Try.results56,ItO,itC,GonO,gtq,Heap.lt gtq,gtg,Heap.lt gtg,dcc,gtq2,Heap.lt gtq2,gtg2,Heap.lt gtg2,gtq3,Heap.lt gtq3,gtg3,Heap.lt gtg3])
  refine AOpsL.call (first := []) (cap := []) hT rfl rfl rfl fn83 rfl (ACalls.mono (thr_int (k := 61) (n := 2) (top := 65535) h3 (j := 2) (by simp [isI]) (by omega) (by omega) hwb.2) ?_)
  rintro y σ4 ⟨rfl, h4⟩
  have gtq4 := h4.1
  have gtg4 := h4.gone
  repeat (first | (with_reducible first | refine AW.seq ?_ | refine AW.block ?_ | refine AW.skip ?_ | refine AW.ret ?_ | refine AW.exit ?_ | refine AW.reg hT ?_) | ((with_reducible refine AW.cond_true ?_ ?_); · (simp (maxSteps := 3000000) (maxDischargeDepth := 12) only [seval,push_cast,appendX,gtq,Heap.lt gtq,gtg,Heap.lt gtg,dcc,gtq2,Heap.lt gtq2,gtg2,Heap.lt gtg2,gtq3,Heap.lt gtq3,gtg3,Heap.lt gtg3,gtq4,Heap.lt gtq4,gtg4,Heap.lt gtg4]; done)) | ((with_reducible refine AW.cond_false ?_ ?_); · (simp (maxSteps := 3000000) (maxDischargeDepth := 12) only [seval,push_cast,appendX,gtq,Heap.lt gtq,gtg,Heap.lt gtg,dcc,gtq2,Heap.lt gtq2,gtg2,Heap.lt gtg2,gtq3,Heap.lt gtq3,gtg3,Heap.lt gtg3,gtq4,Heap.lt gtq4,gtg4,Heap.lt gtg4]; done)) | simp (maxSteps := 3000000) (maxDischargeDepth := 12) only [seval,push_cast,appendX,Try.results56,ItO,itC,GonO,gtq,Heap.lt gtq,gtg,Heap.lt gtg,dcc,gtq2,Heap.lt gtq2,gtg2,Heap.lt gtg2,gtq3,Heap.lt gtq3,gtg3,Heap.lt gtg3,gtq4,Heap.lt gtq4,gtg4,Heap.lt gtg4])
  exact h4
theorem through_11 (h : Thr F σ σ1 g p q fp d 64 (z, x)) (hw : x.Wf) (hcc : x.cls = 11) :
    ACalls Try.prog 56 [.ptr g 0 0 1, .ptr q 0 0 1] σ1 (fun y σ' => y = .sc (.int .i64 7) ∧ Thr F σ σ' g p q fp d 61 (GS.run z x [.node 1, .fix 2 0, .int 2 2 65535])) := by
  obtain ⟨hwc, hwa, hwb, hwcc, hwu, hwbw, hwsu, hwho, hwan, hwal, hwno⟩ := hw
  have gtq := h.1
  have gtg := h.gone
  have dcc := hcc
  refine ACalls.code hT Try.func56 rfl ?_
  simp only [Try.ntmps56, List.length_cons, List.length_nil, Nat.reduceSub, Nat.reduceAdd, List.replicate, List.cons_append, List.nil_append]
  repeat (first | (with_reducible first | refine AW.seq ?_ | refine AW.block ?_ | refine AW.skip ?_ | refine AW.ret ?_ | refine AW.exit ?_ | refine AW.reg hT ?_) | ((with_reducible refine AW.cond_true ?_ ?_); · (simp (maxSteps := 3000000) (maxDischargeDepth := 12) only [seval,push_cast,appendX,gtq,Heap.lt gtq,gtg,Heap.lt gtg,dcc]; done)) | ((with_reducible refine AW.cond_false ?_ ?_); · (simp (maxSteps := 3000000) (maxDischargeDepth := 12) only [seval,push_cast,appendX,gtq,Heap.lt gtq,gtg,Heap.lt gtg,dcc]; done)) | simp (maxSteps := 3000000) (maxDischargeDepth := 12) only [seval,push_cast,appendX,Try.results56,ItO,itC,GonO,gtq,Heap.lt gtq,gtg,Heap.lt gtg,dcc])
  refine AOpsL.call (first := []) (cap := []) hT rfl rfl rfl fn81 rfl (ACalls.mono (thr_node (k := 63) h (j := 1) (by simp [isI])) ?_)
  rintro y σ2 ⟨rfl, h2⟩
  have gtq2 := h2.1
  have gtg2 := h2.gone
  repeat (first | (with_reducible first | refine AW.seq ?_ | refine AW.block ?_ | refine AW.skip ?_ | refine AW.ret ?_ | refine AW.exit ?_ | refine AW.reg hT ?_) | ((with_reducible refine AW.cond_true ?_ ?_); · (simp (maxSteps := 3000000) (maxDischargeDepth := 12) only [seval,push_cast,appendX,gtq,Heap.lt gtq,gtg,Heap.lt gtg,dcc,gtq2,Heap.lt gtq2,gtg2,Heap.lt gtg2]; done)) | ((with_reducible refine AW.cond_false ?_ ?_); · (simp (maxSteps := 3000000) (maxDischargeDepth := 12) only [seval,push_cast,appendX,gtq,Heap.lt gtq,gtg,Heap.lt gtg,dcc,gtq2,Heap.lt gtq2,gtg2,Heap.lt gtg2]; done)) | simp (maxSteps := 3000000) (maxDischargeDepth := 12) only [seval,push_cast,appendX,Try.results56,ItO,itC,GonO,gtq,Heap.lt gtq,gtg,Heap.lt gtg,dcc,gtq2,Heap.lt gtq2,gtg2,Heap.lt gtg2])
  refine AOpsL.call (first := []) (cap := []) hT rfl rfl rfl fn82 rfl (ACalls.mono (thr_fix (k := 62) (n := 2) (u := 0) h2 (by omega) (by omega) (by omega)) ?_)
  rintro y σ3 ⟨rfl, h3⟩
  have gtq3 := h3.1
  have gtg3 := h3.gone
  repeat (first | (with_reducible first | refine AW.seq ?_ | refine AW.block ?_ | refine AW.skip ?_ | refine AW.ret ?_ | refine AW.exit ?_ | refine AW.reg hT ?_) | ((with_reducible refine AW.cond_true ?_ ?_); · (simp (maxSteps := 3000000) (maxDischargeDepth := 12) only [seval,push_cast,appendX,gtq,Heap.lt gtq,gtg,Heap.lt gtg,dcc,gtq2,Heap.lt gtq2,gtg2,Heap.lt gtg2,gtq3,Heap.lt gtq3,gtg3,Heap.lt gtg3]; done)) | ((with_reducible refine AW.cond_false ?_ ?_); · (simp (maxSteps := 3000000) (maxDischargeDepth := 12) only [seval,push_cast,appendX,gtq,Heap.lt gtq,gtg,Heap.lt gtg,dcc,gtq2,Heap.lt gtq2,gtg2,Heap.lt gtg2,gtq3,Heap.lt gtq3,gtg3,Heap.lt gtg3]; done)) | simp (maxSteps := 3000000) (maxDischargeDepth := 12) only [seval,push_cast,appendX,Try.results56,ItO,itC,GonO,gtq,Heap.lt gtq,gtg,Heap.lt gtg,dcc,gtq2,Heap.lt gtq2,gtg2,Heap.lt gtg2,gtq3,Heap.lt gtq3,gtg3,Heap.lt gtg3])
  refine AOpsL.call (first := []) (cap := []) hT rfl rfl rfl fn83 rfl (ACalls.mono (thr_int (k := 61) (n := 2) (top := 65535) h3 (j := 2) (by simp [isI]) (by omega) (by omega) hwb.2) ?_)
  rintro y σ4 ⟨rfl, h4⟩
  have gtq4 := h4.1
  have gtg4 := h4.gone
  repeat (first | (with_reducible first | refine AW.seq ?_ | refine AW.block ?_ | refine AW.skip ?_ | refine AW.ret ?_ | refine AW.exit ?_ | refine AW.reg hT ?_) | ((with_reducible refine AW.cond_true ?_ ?_); · (simp (maxSteps := 3000000) (maxDischargeDepth := 12) only [seval,push_cast,appendX,gtq,Heap.lt gtq,gtg,Heap.lt gtg,dcc,gtq2,Heap.lt gtq2,gtg2,Heap.lt gtg2,gtq3,Heap.lt gtq3,gtg3,Heap.lt gtg3,gtq4,Heap.lt gtq4,gtg4,Heap.lt gtg4]; done)) | ((with_reducible refine AW.cond_false ?_ ?_); · (simp (maxSteps := 3000000) (maxDischargeDepth := 12) only [seval,push_cast,appendX,gtq,Heap.lt gtq,gtg,Heap.lt gtg,dcc,gtq2,Heap.lt gtq2,gtg2,Heap.lt gtg2,gtq3,Heap.lt gtq3,gtg3,Heap.lt gtg3,gtq4,Heap.lt gtq4,gtg4,Heap.lt gtg4]; done)) | simp (maxSteps := 3000000) (maxDischargeDepth := 12) only [seval,push_cast,appendX,Try.results56,ItO,itC,GonO,gtq,Heap.lt gtq,gtg,Heap.lt gtg,dcc,gtq2,Heap.lt gtq2,gtg2,Heap.lt gtg2,gtq3,Heap.lt gtq3,gtg3,Heap.lt gtg3,gtq4,Heap.lt gtq4,gtg4,Heap.lt gtg4])
  exact h4
theorem through_16 (h : Thr F σ σ1 g p q fp d 64 (z, x)) (hw : x.Wf) (hcc : x.cls = 16) :
    ACalls Try.prog 56 [.ptr g 0 0 1, .ptr q 0 0 1] σ1 (fun y σ' => y = .sc (.int .i64 1) ∧ Thr F σ σ' g p q fp d 63 (GS.run z x [.int 4 1 1048575])) := by
  obtain ⟨hwc, hwa, hwb, hwcc, hwu, hwbw, hwsu, hwho, hwan, hwal, hwno⟩ := hw
  have gtq := h.1
  have gtg := h.gone
  have dcc := hcc
  refine ACalls.code hT Try.func56 rfl ?_
  simp only [Try.ntmps56, List.length_cons, List.length_nil, Nat.reduceSub, Nat.reduceAdd, List.replicate, List.cons_append, List.nil_append]
  repeat (first | (with_reducible first | refine AW.seq ?_ | refine AW.block ?_ | refine AW.skip ?_ | refine AW.ret ?_ | refine AW.exit ?_ | refine AW.reg hT ?_) | ((with_reducible refine AW.cond_true ?_ ?_); · (simp (maxSteps := 3000000) (maxDischargeDepth := 12) only [seval,push_cast,appendX,gtq,Heap.lt gtq,gtg,Heap.lt gtg,dcc]; done)) | ((with_reducible refine AW.cond_false ?_ ?_); · (simp (maxSteps := 3000000) (maxDischargeDepth := 12) only [seval,push_cast,appendX,gtq,Heap.lt gtq,gtg,Heap.lt gtg,dcc]; done)) | simp (maxSteps := 3000000) (maxDischargeDepth := 12) only [seval,push_cast,appendX,Try.results56,ItO,itC,GonO,gtq,Heap.lt gtq,gtg,Heap.lt gtg,dcc])
  refine AOpsL.call (first := []) (cap := []) hT rfl rfl rfl fn83 rfl (ACalls.mono (thr_int (k := 63) (n := 4) (top := 1048575) h (j := 1) (by simp [isI]) (by omega) (by omega) hwa.2) ?_)
  rintro y σ2 ⟨rfl, h2⟩
  have gtq2 := h2.1
  have gtg2 := h2.gone
  repeat (first | (with_reducible first | refine AW.seq ?_ | refine AW.block ?_ | refine AW.skip ?_ | refine AW.ret ?_ | refine AW.exit ?_ | refine AW.reg hT ?_) | ((with_reducible refine AW.cond_true ?_ ?_); · (simp (maxSteps := 3000000) (maxDischargeDepth := 12) only [seval,push_cast,appendX,gtq,Heap.lt gtq,gtg,Heap.lt gtg,dcc,gtq2,Heap.lt gtq2,gtg2,Heap.lt gtg2]; done)) | ((with_reducible refine AW.cond_false ?_ ?_); · (simp (maxSteps := 3000000) (maxDischargeDepth := 12) only [seval,push_cast,appendX,gtq,Heap.lt gtq,gtg,Heap.lt gtg,dcc,gtq2,Heap.lt gtq2,gtg2,Heap.lt gtg2]; done)) | simp (maxSteps := 3000000) (maxDischargeDepth := 12) only [seval,push_cast,appendX,Try.results56,ItO,itC,GonO,gtq,Heap.lt gtq,gtg,Heap.lt gtg,dcc,gtq2,Heap.lt gtq2,gtg2,Heap.lt gtg2])
  exact h2
theorem through_19 (h : Thr F σ σ1 g p q fp d 64 (z, x)) (hw : x.Wf) (hcc : x.cls = 19) :
    ACalls Try.prog 56 [.ptr g 0 0 1, .ptr q 0 0 1] σ1 (fun y σ' => y = .sc (.int .i64 1) ∧ Thr F σ σ' g p q fp d 62 (GS.run z x [.fix 2 0, .int 2 1 65535])) := by
  obtain ⟨hwc, hwa, hwb, hwcc, hwu, hwbw, hwsu, hwho, hwan, hwal, hwno⟩ := hw
  have gtq := h.1
  have gtg := h.gone
  have dcc := hcc
  refine ACalls.code hT Try.func56 rfl ?_
  simp only [Try.ntmps56, List.length_cons, List.length_nil, Nat.reduceSub, Nat.reduceAdd, List.replicate, List.cons_append, List.nil_append]
  repeat (first | (with_reducible first | refine AW.seq ?_ | refine AW.block ?_ | refine AW.skip ?_ | refine AW.ret ?_ | refine AW.exit ?_ | refine AW.reg hT ?_) | ((with_reducible refine AW.cond_true ?_ ?_); · (simp (maxSteps := 3000000) (maxDischargeDepth := 12) only [seval,push_cast,appendX,gtq,Heap.lt gtq,gtg,Heap.lt gtg,dcc]; done)) | ((with_reducible refine AW.cond_false ?_ ?_); · (simp (maxSteps := 3000000) (maxDischargeDepth := 12) only [seval,push_cast,appendX,gtq,Heap.lt gtq,gtg,Heap.lt gtg,dcc]; done)) | simp (maxSteps := 3000000) (maxDischargeDepth := 12) only [seval,push_cast,appendX,Try.results56,ItO,itC,GonO,gtq,Heap.lt gtq,gtg,Heap.lt gtg,dcc])
  refine AOpsL.call (first := []) (cap := []) hT rfl rfl rfl fn82 rfl (ACalls.mono (thr_fix (k := 63) (n := 2) (u := 0) h (by omega) (by omega) (by omega)) ?_)
  rintro y σ2 ⟨rfl, h2⟩
  have gtq2 := h2.1
  have gtg2 := h2.gone
  repeat (first | (with_reducible first | refine AW.seq ?_ | refine AW.block ?_ | refine AW.skip ?_ | refine AW.ret ?_ | refine AW.exit ?_ | refine AW.reg hT ?_) | ((with_reducible refine AW.cond_true ?_ ?_); · (simp (maxSteps := 3000000) (maxDischargeDepth := 12) only [seval,push_cast,appendX,gtq,Heap.lt gtq,gtg,Heap.lt gtg,dcc,gtq2,Heap.lt gtq2,gtg2,Heap.lt gtg2]; done)) | ((with_reducible refine AW.cond_false ?_ ?_); · (simp (maxSteps := 3000000) (maxDischargeDepth := 12) only [seval,push_cast,appendX,gtq,Heap.lt gtq,gtg,Heap.lt gtg,dcc,gtq2,Heap.lt gtq2,gtg2,Heap.lt gtg2]; done)) | simp (maxSteps := 3000000) (maxDischargeDepth := 12) only [seval,push_cast,appendX,Try.results56,ItO,itC,GonO,gtq,Heap.lt gtq,gtg,Heap.lt gtg,dcc,gtq2,Heap.lt gtq2,gtg2,Heap.lt gtg2])
  refine AOpsL.call (first := []) (cap := []) hT rfl rfl rfl fn83 rfl (ACalls.mono (thr_int (k := 62) (n := 2) (top := 65535) h2 (j := 1) (by simp [isI]) (by omega) (by omega) hwa.2) ?_)
  rintro y σ3 ⟨rfl, h3⟩
  have gtq3 := h3.1
  have gtg3 := h3.gone
  repeat (first | (with_reducible first | refine AW.seq ?_ | refine AW.block ?_ | refine AW.skip ?_ | refine AW.ret ?_ | refine AW.exit ?_ | refine AW.reg hT ?_) | ((with_reducible refine AW.cond_true ?_ ?_); · (simp (maxSteps := 3000000) (maxDischargeDepth := 12) only [seval,push_cast,appendX,gtq,Heap.lt gtq,gtg,Heap.lt gtg,dcc,gtq2,Heap.lt gtq2,gtg2,Heap.lt gtg2,gtq3,Heap.lt gtq3,gtg3,Heap.lt gtg3]; done)) | ((with_reducible refine AW.cond_false ?_ ?_); · (simp (maxSteps := 3000000) (maxDischargeDepth := 12) only [seval,push_cast,appendX,gtq,Heap.lt gtq,gtg,Heap.lt gtg,dcc,gtq2,Heap.lt gtq2,gtg2,Heap.lt gtg2,gtq3,Heap.lt gtq3,gtg3,Heap.lt gtg3]; done)) | simp (maxSteps := 3000000) (maxDischargeDepth := 12) only [seval,push_cast,appendX,Try.results56,ItO,itC,GonO,gtq,Heap.lt gtq,gtg,Heap.lt gtg,dcc,gtq2,Heap.lt gtq2,gtg2,Heap.lt gtg2,gtq3,Heap.lt gtq3,gtg3,Heap.lt gtg3])
  exact h3
theorem through_23 (h : Thr F σ σ1 g p q fp d 64 (z, x)) (hw : x.Wf) (hcc : x.cls = 23) :
    ACalls Try.prog 56 [.ptr g 0 0 1, .ptr q 0 0 1] σ1 (fun y σ' => y = .sc (.int .i64 1) ∧ Thr F σ σ' g p q fp d 62 (GS.run (z.needs (decide (x.u ≤ 4294967295))) x [.fix 4 0, .raw 4 4])) := by
  obtain ⟨hwc, hwa, hwb, hwcc, hwu, hwbw, hwsu, hwho, hwan, hwal, hwno⟩ := hw
  have gtq := h.1
  have gtg := h.gone
  have dcc := hcc
  refine ACalls.code hT Try.func56 rfl ?_
  simp only [Try.ntmps56, List.length_cons, List.length_nil, Nat.reduceSub, Nat.reduceAdd, List.replicate, List.cons_append, List.nil_append]
  repeat (first | (with_reducible first | refine AW.seq ?_ | refine AW.block ?_ | refine AW.skip ?_ | refine AW.ret ?_ | refine AW.exit ?_ | refine AW.reg hT ?_) | ((with_reducible refine AW.cond_true ?_ ?_); · (simp (maxSteps := 3000000) (maxDischargeDepth := 12) only [seval,push_cast,appendX,gtq,Heap.lt gtq,gtg,Heap.lt gtg,dcc]; done)) | ((with_reducible refine AW.cond_false ?_ ?_); · (simp (maxSteps := 3000000) (maxDischargeDepth := 12) only [seval,push_cast,appendX,gtq,Heap.lt gtq,gtg,Heap.lt gtg,dcc]; done)) | simp (maxSteps := 3000000) (maxDischargeDepth := 12) only [seval,push_cast,appendX,Try.results56,ItO,itC,GonO,gtq,Heap.lt gtq,gtg,Heap.lt gtg,dcc])
  refine AOpsL.call (first := []) (cap := []) hT rfl rfl rfl fn84 rfl (ACalls.mono (thr_needs h (decide (x.u ≤ 4294967295))) ?_)
  rintro y σ2 ⟨rfl, h2⟩
  have gtq2 := h2.1
  have gtg2 := h2.gone
  repeat (first | (with_reducible first | refine AW.seq ?_ | refine AW.block ?_ | refine AW.skip ?_ | refine AW.ret ?_ | refine AW.exit ?_ | refine AW.reg hT ?_) | ((with_reducible refine AW.cond_true ?_ ?_); · (simp (maxSteps := 3000000) (maxDischargeDepth := 12) only [seval,push_cast,appendX,gtq,Heap.lt gtq,gtg,Heap.lt gtg,dcc,gtq2,Heap.lt gtq2,gtg2,Heap.lt gtg2]; done)) | ((with_reducible refine AW.cond_false ?_ ?_); · (simp (maxSteps := 3000000) (maxDischargeDepth := 12) only [seval,push_cast,appendX,gtq,Heap.lt gtq,gtg,Heap.lt gtg,dcc,gtq2,Heap.lt gtq2,gtg2,Heap.lt gtg2]; done)) | simp (maxSteps := 3000000) (maxDischargeDepth := 12) only [seval,push_cast,appendX,Try.results56,ItO,itC,GonO,gtq,Heap.lt gtq,gtg,Heap.lt gtg,dcc,gtq2,Heap.lt gtq2,gtg2,Heap.lt gtg2])
  refine AOpsL.call (first := []) (cap := []) hT rfl rfl rfl fn82 rfl (ACalls.mono (thr_fix (k := 63) (n := 4) (u := 0) h2 (by omega) (by omega) (by omega)) ?_)
  rintro y σ3 ⟨rfl, h3⟩
  have gtq3 := h3.1
  have gtg3 := h3.gone
  repeat (first | (with_reducible first | refine AW.seq ?_ | refine AW.block ?_ | refine AW.skip ?_ | refine AW.ret ?_ | refine AW.exit ?_ | refine AW.reg hT ?_) | ((with_reducible show AW _ (.region 14 _ _) _ _ _); (with_reducible refine AW.drawn (id := 14) hT [0,1,2,3,4,5,6,7,8,9,10,11,12,13,14] [[],[],[1],[1,2],[1,2,3],[],[5],[5,6],[5,6,7],[1,2,3,4],[1,2,3,4,9],[1,2,3,4,5,6,7,8,9,10],[0,1,2,3,4,5,6,7,8,9,10,11],[0,1,2,3,4,5,6,7,8,9,10,11,12],[0,1,2,3,4,5,6,7,8,9,10,11,12,13]] mix (by kernel_rfl) ?_)) | ((with_reducible show AW _ (.region 24 _ _) _ _ _); (with_reducible refine AW.drawn (id := 24) hT [0,1,2,3,4,5,6,7,8,9,10,11,12,13,14] [[],[],[1],[1,2],[1,2,3],[],[5],[5,6],[5,6,7],[1,2,3,4],[1,2,3,4,9],[1,2,3,4,5,6,7,8,9,10],[0,1,2,3,4,5,6,7,8,9,10,11],[0,1,2,3,4,5,6,7,8,9,10,11,12],[0,1,2,3,4,5,6,7,8,9,10,11,12,13]] mix (by kernel_rfl) ?_)) | ((with_reducible show AW _ (.region 43 _ _) _ _ _); (with_reducible refine AW.drawn (id := 43) hT [0,1,2,3,4,5,6,7,8,9,10,11,12,13,14] [[],[],[1],[1,2],[1,2,3],[],[5],[5,6],[5,6,7],[1,2,3,4],[1,2,3,4,9],[1,2,3,4,5,6,7,8,9,10],[0,1,2,3,4,5,6,7,8,9,10,11],[0,1,2,3,4,5,6,7,8,9,10,11,12],[0,1,2,3,4,5,6,7,8,9,10,11,12,13]] mix (by kernel_rfl) ?_)) | ((with_reducible show DLeft _ _ _ _ (_ :: _) _ _ _ _); (with_reducible apply DLeft.step hT); (case hoi => ((simp only [List.getElem?_toArray,List.getElem?_cons_zero,List.getElem?_cons_succ]); with_reducible rfl)); (case hg => rfl); (case hk => rfl); (case hr => ((try simp (maxSteps := 3000000) (maxDischargeDepth := 12) only [seval,push_cast,appendX,Try.results56,ItO,itC,GonO,gtq,Heap.lt gtq,gtg,Heap.lt gtg,dcc,gtq2,Heap.lt gtq2,gtg2,Heap.lt gtg2,gtq3,Heap.lt gtq3,gtg3,Heap.lt gtg3]); with_reducible rfl))) | ((with_reducible refine AW.cond_true ?_ ?_); · (simp (maxSteps := 3000000) (maxDischargeDepth := 12) only [seval,push_cast,appendX,gtq,Heap.lt gtq,gtg,Heap.lt gtg,dcc,gtq2,Heap.lt gtq2,gtg2,Heap.lt gtg2,gtq3,Heap.lt gtq3,gtg3,Heap.lt gtg3]; done)) | ((with_reducible refine AW.cond_false ?_ ?_); · (simp (maxSteps := 3000000) (maxDischargeDepth := 12) only [seval,push_cast,appendX,gtq,Heap.lt gtq,gtg,Heap.lt gtg,dcc,gtq2,Heap.lt gtq2,gtg2,Heap.lt gtg2,gtq3,Heap.lt gtq3,gtg3,Heap.lt gtg3]; done)) | simp (maxSteps := 3000000) (maxDischargeDepth := 12) only [seval,push_cast,appendX,Try.results56,ItO,itC,GonO,gtq,Heap.lt gtq,gtg,Heap.lt gtg,dcc,gtq2,Heap.lt gtq2,gtg2,Heap.lt gtg2,gtq3,Heap.lt gtq3,gtg3,Heap.lt gtg3])
  ((apply DLeft.invoke); (case hoi => ((simp only [List.getElem?_toArray, List.getElem?_cons_zero, List.getElem?_cons_succ]); with_reducible rfl)); (case hg => rfl); (case ho => rfl); (case hc => rfl); (case hm => exact F.mnum); (case has => rfl)); refine ACalls.mono (thr_raw (k := 62) (n := 4) h3 (by omega) (by omega) hwu.1) ?_
  rintro y σ4 ⟨v, rfl, gtq4, h4⟩
  repeat (first | (with_reducible first | refine AW.seq ?_ | refine AW.block ?_ | refine AW.skip ?_ | refine AW.ret ?_ | refine AW.exit ?_ | refine AW.reg hT ?_) | ((with_reducible show AW _ (.region 14 _ _) _ _ _); (with_reducible refine AW.drawn (id := 14) hT [0,1,2,3,4,5,6,7,8,9,10,11,12,13,14] [[],[],[1],[1,2],[1,2,3],[],[5],[5,6],[5,6,7],[1,2,3,4],[1,2,3,4,9],[1,2,3,4,5,6,7,8,9,10],[0,1,2,3,4,5,6,7,8,9,10,11],[0,1,2,3,4,5,6,7,8,9,10,11,12],[0,1,2,3,4,5,6,7,8,9,10,11,12,13]] mix (by kernel_rfl) ?_)) | ((with_reducible show AW _ (.region 24 _ _) _ _ _); (with_reducible refine AW.drawn (id := 24) hT [0,1,2,3,4,5,6,7,8,9,10,11,12,13,14] [[],[],[1],[1,2],[1,2,3],[],[5],[5,6],[5,6,7],[1,2,3,4],[1,2,3,4,9],[1,2,3,4,5,6,7,8,9,10],[0,1,2,3,4,5,6,7,8,9,10,11],[0,1,2,3,4,5,6,7,8,9,10,11,12],[0,1,2,3,4,5,6,7,8,9,10,11,12,13]] mix (by kernel_rfl) ?_)) | ((with_reducible show AW _ (.region 43 _ _) _ _ _); (with_reducible refine AW.drawn (id := 43) hT [0,1,2,3,4,5,6,7,8,9,10,11,12,13,14] [[],[],[1],[1,2],[1,2,3],[],[5],[5,6],[5,6,7],[1,2,3,4],[1,2,3,4,9],[1,2,3,4,5,6,7,8,9,10],[0,1,2,3,4,5,6,7,8,9,10,11],[0,1,2,3,4,5,6,7,8,9,10,11,12],[0,1,2,3,4,5,6,7,8,9,10,11,12,13]] mix (by kernel_rfl) ?_)) | ((with_reducible show DLeft _ _ _ _ (_ :: _) _ _ _ _); (with_reducible apply DLeft.step hT); (case hoi => ((simp only [List.getElem?_toArray,List.getElem?_cons_zero,List.getElem?_cons_succ]); with_reducible rfl)); (case hg => rfl); (case hk => rfl); (case hr => ((try simp (maxSteps := 3000000) (maxDischargeDepth := 12) only [seval,push_cast,appendX,Try.results56,ItO,itC,GonO,gtq,Heap.lt gtq,gtg,Heap.lt gtg,dcc,gtq2,Heap.lt gtq2,gtg2,Heap.lt gtg2,gtq3,Heap.lt gtq3,gtg3,Heap.lt gtg3,gtq4,Heap.lt gtq4]); with_reducible rfl))) | ((with_reducible refine AW.cond_true ?_ ?_); · (simp (maxSteps := 3000000) (maxDischargeDepth := 12) only [seval,push_cast,appendX,gtq,Heap.lt gtq,gtg,Heap.lt gtg,dcc,gtq2,Heap.lt gtq2,gtg2,Heap.lt gtg2,gtq3,Heap.lt gtq3,gtg3,Heap.lt gtg3,gtq4,Heap.lt gtq4]; done)) | ((with_reducible refine AW.cond_false ?_ ?_); · (simp (maxSteps := 3000000) (maxDischargeDepth := 12) only [seval,push_cast,appendX,gtq,Heap.lt gtq,gtg,Heap.lt gtg,dcc,gtq2,Heap.lt gtq2,gtg2,Heap.lt gtg2,gtq3,Heap.lt gtq3,gtg3,Heap.lt gtg3,gtq4,Heap.lt gtq4]; done)) | simp (maxSteps := 3000000) (maxDischargeDepth := 12) only [seval,push_cast,appendX,Try.results56,ItO,itC,GonO,gtq,Heap.lt gtq,gtg,Heap.lt gtg,dcc,gtq2,Heap.lt gtq2,gtg2,Heap.lt gtg2,gtq3,Heap.lt gtq3,gtg3,Heap.lt gtg3,gtq4,Heap.lt gtq4])
  first | exact h4 | (simp only [ItO, itC, dcc] at h4; exact h4)
theorem through_207 (h : Thr F σ σ1 g p q fp d 64 (z, x)) (hw : x.Wf) (hcc : x.cls = 207) :
    ACalls Try.prog 56 [.ptr g 0 0 1, .ptr q 0 0 1] σ1 (fun y σ' => y = .sc (.int .i64 1) ∧ Thr F σ σ' g p q fp d 2 (GS.run (z.needs (x.bw == 0)) x [.raw 4 11, .raw 4 9, .raw 4 10, .int 1 7 7, .int 1 8 7, .fix 2 0])) := by
  obtain ⟨hwc, hwa, hwb, hwcc, hwu, hwbw, hwsu, hwho, hwan, hwal, hwno⟩ := hw
  have gtq := h.1
  have gtg := h.gone
  have dcc := hcc
  refine ACalls.code hT Try.func56 rfl ?_
  simp only [Try.ntmps56, List.length_cons, List.length_nil, Nat.reduceSub, Nat.reduceAdd, List.replicate, List.cons_append, List.nil_append]
  repeat (first | (with_reducible first | refine AW.seq ?_ | refine AW.block ?_ | refine AW.skip ?_ | refine AW.ret ?_ | refine AW.exit ?_ | refine AW.reg hT ?_) | ((with_reducible refine AW.cond_true ?_ ?_); · (simp (maxSteps := 3000000) (maxDischargeDepth := 12) only [seval,push_cast,appendX,gtq,Heap.lt gtq,gtg,Heap.lt gtg,dcc]; done)) | ((with_reducible refine AW.cond_false ?_ ?_); · (simp (maxSteps := 3000000) (maxDischargeDepth := 12) only [seval,push_cast,appendX,gtq,Heap.lt gtq,gtg,Heap.lt gtg,dcc]; done)) | simp (maxSteps := 3000000) (maxDischargeDepth := 12) only [seval,push_cast,appendX,Try.results56,ItO,itC,GonO,gtq,Heap.lt gtq,gtg,Heap.lt gtg,dcc])
  refine AOpsL.call (first := []) (cap := []) hT rfl rfl rfl fn86 rfl (ACalls.mono (want_ok (w := (z, x)) ⟨h.1, fits_le (by omega) h.2.1, h.2.2⟩ hwno hwan hwal hwsu.2 hwho.2) ?_)
  rintro y σ2 ⟨rfl, h2⟩
  repeat (first | (with_reducible first | refine AW.seq ?_ | refine AW.block ?_ | refine AW.skip ?_ | refine AW.ret ?_ | refine AW.exit ?_ | refine AW.reg hT ?_) | ((with_reducible refine AW.cond_true ?_ ?_); · (simp (maxSteps := 3000000) (maxDischargeDepth := 12) only [seval,push_cast,appendX,gtq,Heap.lt gtq,gtg,Heap.lt gtg,dcc]; done)) | ((with_reducible refine AW.cond_false ?_ ?_); · (simp (maxSteps := 3000000) (maxDischargeDepth := 12) only [seval,push_cast,appendX,gtq,Heap.lt gtq,gtg,Heap.lt gtg,dcc]; done)) | simp (maxSteps := 3000000) (maxDischargeDepth := 12) only [seval,push_cast,appendX,Try.results56,ItO,itC,GonO,gtq,Heap.lt gtq,gtg,Heap.lt gtg,dcc])
  exact h2
theorem through_no (h : Thr F σ σ1 g p q fp d 64 (z, x)) (hw : x.Wf) (hcc : x.cls ≠ 1 ∧ x.cls ≠ 3 ∧ x.cls ≠ 5 ∧ x.cls ≠ 6 ∧ x.cls ≠ 8 ∧ x.cls ≠ 9 ∧ x.cls ≠ 12 ∧ x.cls ≠ 10 ∧ x.cls ≠ 11 ∧ x.cls ≠ 16 ∧ x.cls ≠ 19 ∧ x.cls ≠ 20 ∧ x.cls ≠ 21 ∧ x.cls ≠ 23 ∧ x.cls ≠ 207) :
    ACalls Try.prog 56 [.ptr g 0 0 1, .ptr q 0 0 1] σ1 (fun y σ' => y = .sc (.int .i64 1) ∧ Thr F σ σ' g p q fp d 64 (z.needs false, x)) := by
  obtain ⟨hwc, hwa, hwb, hwcc, hwu, hwbw, hwsu, hwho, hwan, hwal, hwno⟩ := hw
  have gtq := h.1
  have gtg := h.gone
  obtain ⟨hc1, hc3, hc5, hc6, hc8, hc9, hc12, hc10, hc11, hc16, hc19, hc20, hc21, hc23, hc207⟩ := hcc
  have dcq1 : (x.cls == 1) = false := by simpa using hc1
  have dcq3 : (x.cls == 3) = false := by simpa using hc3
  have dcq5 : (x.cls == 5) = false := by simpa using hc5
  have dcq6 : (x.cls == 6) = false := by simpa using hc6
  have dcq8 : (x.cls == 8) = false := by simpa using hc8
  have dcq9 : (x.cls == 9) = false := by simpa using hc9
  have dcq12 : (x.cls == 12) = false := by simpa using hc12
  have dcq10 : (x.cls == 10) = false := by simpa using hc10
  have dcq11 : (x.cls == 11) = false := by simpa using hc11
  have dcq16 : (x.cls == 16) = false := by simpa using hc16
  have dcq19 : (x.cls == 19) = false := by simpa using hc19
  have dcq20 : (x.cls == 20) = false := by simpa using hc20
  have dcq21 : (x.cls == 21) = false := by simpa using hc21
  have dcq23 : (x.cls == 23) = false := by simpa using hc23
  have dcq207 : (x.cls == 207) = false := by simpa using hc207
  refine ACalls.code hT Try.func56 rfl ?_
  simp only [Try.ntmps56, List.length_cons, List.length_nil, Nat.reduceSub, Nat.reduceAdd, List.replicate, List.cons_append, List.nil_append]
  repeat (first | (with_reducible first | refine AW.seq ?_ | refine AW.block ?_ | refine AW.skip ?_ | refine AW.ret ?_ | refine AW.exit ?_ | refine AW.reg hT ?_) | ((with_reducible refine AW.cond_true ?_ ?_); · (simp (maxSteps := 3000000) (maxDischargeDepth := 12) only [seval,push_cast,appendX,gtq,Heap.lt gtq,gtg,Heap.lt gtg,dcq1,dcq3,dcq5,dcq6,dcq8,dcq9,dcq12,dcq10,dcq11,dcq16,dcq19,dcq20,dcq21,dcq23,dcq207]; done)) | ((with_reducible refine AW.cond_false ?_ ?_); · (simp (maxSteps := 3000000) (maxDischargeDepth := 12) only [seval,push_cast,appendX,gtq,Heap.lt gtq,gtg,Heap.lt gtg,dcq1,dcq3,dcq5,dcq6,dcq8,dcq9,dcq12,dcq10,dcq11,dcq16,dcq19,dcq20,dcq21,dcq23,dcq207]; done)) | simp (maxSteps := 3000000) (maxDischargeDepth := 12) only [seval,push_cast,appendX,Try.results56,ItO,itC,GonO,gtq,Heap.lt gtq,gtg,Heap.lt gtg,dcq1,dcq3,dcq5,dcq6,dcq8,dcq9,dcq12,dcq10,dcq11,dcq16,dcq19,dcq20,dcq21,dcq23,dcq207])
  refine AOpsL.call (first := []) (cap := []) hT rfl rfl rfl fn84 rfl (ACalls.mono (thr_needs h false) ?_)
  rintro y σ2 ⟨rfl, h2⟩
  repeat (first | (with_reducible first | refine AW.seq ?_ | refine AW.block ?_ | refine AW.skip ?_ | refine AW.ret ?_ | refine AW.exit ?_ | refine AW.reg hT ?_) | ((with_reducible refine AW.cond_true ?_ ?_); · (simp (maxSteps := 3000000) (maxDischargeDepth := 12) only [seval,push_cast,appendX,gtq,Heap.lt gtq,gtg,Heap.lt gtg,dcq1,dcq3,dcq5,dcq6,dcq8,dcq9,dcq12,dcq10,dcq11,dcq16,dcq19,dcq20,dcq21,dcq23,dcq207]; done)) | ((with_reducible refine AW.cond_false ?_ ?_); · (simp (maxSteps := 3000000) (maxDischargeDepth := 12) only [seval,push_cast,appendX,gtq,Heap.lt gtq,gtg,Heap.lt gtg,dcq1,dcq3,dcq5,dcq6,dcq8,dcq9,dcq12,dcq10,dcq11,dcq16,dcq19,dcq20,dcq21,dcq23,dcq207]; done)) | simp (maxSteps := 3000000) (maxDischargeDepth := 12) only [seval,push_cast,appendX,Try.results56,ItO,itC,GonO,gtq,Heap.lt gtq,gtg,Heap.lt gtg,dcq1,dcq3,dcq5,dcq6,dcq8,dcq9,dcq12,dcq10,dcq11,dcq16,dcq19,dcq20,dcq21,dcq23,dcq207])
  exact h2
theorem through_20 (gtq : σ1.get q = some (ItO x d)) (hcc : x.cls = 20) {K : DV → Heap → Prop} (h : ACalls Try.prog 85 [.ptr g 0 0 1, .ptr q 0 5 1] σ1 (fun y σ' => y = .tup [] ∧ K (.sc (.int .i64 1)) σ')) :
    ACalls Try.prog 56 [.ptr g 0 0 1, .ptr q 0 0 1] σ1 K := by
  have dcc := hcc
  refine ACalls.code hT Try.func56 rfl ?_
  simp only [Try.ntmps56, List.length_cons, List.length_nil, Nat.reduceSub, Nat.reduceAdd, List.replicate, List.cons_append, List.nil_append]
  repeat (first | (with_reducible first | refine AW.seq ?_ | refine AW.block ?_ | refine AW.skip ?_ | refine AW.ret ?_ | refine AW.exit ?_ | refine AW.reg hT ?_) | ((with_reducible refine AW.cond_true ?_ ?_); · (simp (maxSteps := 3000000) (maxDischargeDepth := 12) only [seval,push_cast,appendX,gtq,Heap.lt gtq,dcc]; done)) | ((with_reducible refine AW.cond_false ?_ ?_); · (simp (maxSteps := 3000000) (maxDischargeDepth := 12) only [seval,push_cast,appendX,gtq,Heap.lt gtq,dcc]; done)) | simp (maxSteps := 3000000) (maxDischargeDepth := 12) only [seval,push_cast,appendX,Try.results56,ItO,itC,gtq,Heap.lt gtq,dcc])
  refine AOpsL.call (first := []) (cap := []) hT rfl rfl rfl fn85 rfl (ACalls.mono (h) ?_)
  rintro y σ2 ⟨rfl, h2⟩
  repeat (first | (with_reducible first | refine AW.seq ?_ | refine AW.block ?_ | refine AW.skip ?_ | refine AW.ret ?_ | refine AW.exit ?_ | refine AW.reg hT ?_) | ((with_reducible refine AW.cond_true ?_ ?_); · (simp (maxSteps := 3000000) (maxDischargeDepth := 12) only [seval,push_cast,appendX,gtq,Heap.lt gtq,dcc]; done)) | ((with_reducible refine AW.cond_false ?_ ?_); · (simp (maxSteps := 3000000) (maxDischargeDepth := 12) only [seval,push_cast,appendX,gtq,Heap.lt gtq,dcc]; done)) | simp (maxSteps := 3000000) (maxDischargeDepth := 12) only [seval,push_cast,appendX,Try.results56,ItO,itC,gtq,Heap.lt gtq,dcc])
  exact h2
theorem through_21 (gtq : σ1.get q = some (ItO x d)) (hcc : x.cls = 21) {K : DV → Heap → Prop} (h : ACalls Try.prog 85 [.ptr g 0 0 1, .ptr q 0 5 1] σ1 (fun y σ' => y = .tup [] ∧ K (.sc (.int .i64 1)) σ')) :
    ACalls Try.prog 56 [.ptr g 0 0 1, .ptr q 0 0 1] σ1 K := by
  have dcc := hcc
  refine ACalls.code hT Try.func56 rfl ?_
  simp only [Try.ntmps56, List.length_cons, List.length_nil, Nat.reduceSub, Nat.reduceAdd, List.replicate, List.cons_append, List.nil_append]
  repeat (first | (with_reducible first | refine AW.seq ?_ | refine AW.block ?_ | refine AW.skip ?_ | refine AW.ret ?_ | refine AW.exit ?_ | refine AW.reg hT ?_) | ((with_reducible refine AW.cond_true ?_ ?_); · (simp (maxSteps := 3000000) (maxDischargeDepth := 12) only [seval,push_cast,appendX,gtq,Heap.lt gtq,dcc]; done)) | ((with_reducible refine AW.cond_false ?_ ?_); · (simp (maxSteps := 3000000) (maxDischargeDepth := 12) only [seval,push_cast,appendX,gtq,Heap.lt gtq,dcc]; done)) | simp (maxSteps := 3000000) (maxDischargeDepth := 12) only [seval,push_cast,appendX,Try.results56,ItO,itC,gtq,Heap.lt gtq,dcc])
  refine AOpsL.call (first := []) (cap := []) hT rfl rfl rfl fn85 rfl (ACalls.mono (h) ?_)
  rintro y σ2 ⟨rfl, h2⟩
  repeat (first | (with_reducible first | refine AW.seq ?_ | refine AW.block ?_ | refine AW.skip ?_ | refine AW.ret ?_ | refine AW.exit ?_ | refine AW.reg hT ?_) | ((with_reducible refine AW.cond_true ?_ ?_); · (simp (maxSteps := 3000000) (maxDischargeDepth := 12) only [seval,push_cast,appendX,gtq,Heap.lt gtq,dcc]; done)) | ((with_reducible refine AW.cond_false ?_ ?_); · (simp (maxSteps := 3000000) (maxDischargeDepth := 12) only [seval,push_cast,appendX,gtq,Heap.lt gtq,dcc]; done)) | simp (maxSteps := 3000000) (maxDischargeDepth := 12) only [seval,push_cast,appendX,Try.results56,ItO,itC,gtq,Heap.lt gtq,dcc])
  exact h2
end
end Go.Proofs.Ytdkhlhfdjggbpaa.Cm
