/- Package pool: pools that no call made; Copy. -/
import Derived.Test.YthdamnemoaaigaaPool3
import Derived.Shelf.Lay
import Derived.Shelf.SlMaps.Clone
namespace Go.Proofs
open Go.Shelf
shelf_lay_g SlLaysW.n5 Slmc 5 at Try 23 as Try.laysClone
end Go.Proofs
namespace Go.Proofs.Ythdamnemoaaigaa.Cm
open Go.RowKit
set_option linter.unusedVariables false
set_option linter.unusedSimpArgs false
set_option maxRecDepth 20000
set_option maxHeartbeats 8000000
theorem maps_Clone (b : Nat) (es : Array MapEntry) (clock : Nat) (w : World) (hb : w.heap[b]? = some (.map es clock)) : Calls Try.prog 23 #[.map (some b)] w fun e w' => e = .returned (.map (some w.heap.size)) ∧ w' = w.alloc (.map es clock) := AnyW.maps_Clone Try.laysClone b es clock w hb
theorem clone_ok (σ : Heap) {t : Nat} {els : List (List DV)} (gt : σ.get t = some ⟨els, 49, none⟩) : ACalls Try.prog 23 [.mp t] σ (fun y σ' => y = .mp σ.n ∧ σ' = σ.push ⟨els, 49, none⟩) := by
  intro c hc hσ vs hvs
  subst hσ
  obtain ⟨v, rfl⟩ : ∃ v, vs = [v] := List.length_eq_one_iff.1 hvs.1
  have hv := mp_V (hvs.2 0 _ v rfl rfl) gt rfl
  subst hv
  obtain ⟨_, kt, et, es, clock, hu, hb, hz, hs, hst, hkk, hvv⟩ := mapOk hc gt (by decide)
  refine (maps_Clone _ es clock c.w hb).mono ?_
  rintro e w' ⟨rfl, rfl⟩
  obtain ⟨h1, h2⟩ := makeG hc (o := ⟨els, 49, none⟩) (loc := ⟨c.w.heap.size, 0, 0⟩) (w' := c.w.alloc (.map es clock)) (World.grownBy_alloc _ _ _) (Nat.le_refl _) (by
    rintro c' rfl hev hZ
    refine nrow_obj rfl (.inl ⟨49, kt, et, es, clock, .inl rfl, by decide, hu, ?_, by simpa using hZ, hs, hst, hkk, fun i el e hi he => ?_⟩)
    · simpa using (MapKept.heap_alloc c.w _).1
    · obtain ⟨k, v, r1, r2, r3⟩ := hvv i el e hi he
      exact ⟨k, v, r1, r2.ev hev, r3.ev hev⟩)
  refine ⟨_, .mp c.σ.n, _, rfl, rfl, h1, h2, .mp (by simp) (fun loc hg => ?_), rfl, rfl⟩
  simp only [Cf.G, Heap.get_push, AObj.ln, if_true, Option.some.injEq] at hg
  rw [← hg]
/-- A pool that no call made. -/
def NB (σ : Heap) (d : DV) : Prop := d = .sc (.pointer none) ∨ ∃ q, d = .ptr q 0 0 1 ∧ σ.get q = some ⟨[[.sc (.int .i64 0), .sc (.int .i64 0), .sc (.map none)]], 51, true⟩
theorem goodzero_ok (σ : Heap) {q : Nat} (gtq : σ.get q = some ⟨[[.sc (.int .i64 0), .sc (.int .i64 0), .sc (.map none)]], 51, true⟩) : ACalls Try.prog 21 [.ptr q 0 0 1] σ (fun y σ' => y = .sc (.bool false) ∧ σ' = σ) := by
  refine ACalls.code hT Try.func21 rfl ?_
  simp only [Try.ntmps21, List.length_cons, List.length_nil, Nat.reduceSub, Nat.reduceAdd, List.replicate, List.cons_append, List.nil_append]
  repeat (first | (with_reducible first | refine AW.seq ?_ | refine AW.block ?_ | refine AW.skip ?_ | refine AW.ret ?_ | refine AW.exit ?_ | refine AW.reg hT ?_) | ((with_reducible refine AW.cond_true ?_ ?_); · rfl) | ((with_reducible refine AW.cond_false ?_ ?_); · rfl) | simp (maxSteps := 3000000) (maxDischargeDepth := 12) only [seval,push_cast,appendX,Try.results21,gtq,Heap.lt gtq])
  refine AOpsL.rule hT rfl (AOp.neqNilMap0 hT rfl rfl rfl rfl ?_)
  repeat (first | (with_reducible first | refine AW.seq ?_ | refine AW.block ?_ | refine AW.skip ?_ | refine AW.ret ?_ | refine AW.exit ?_ | refine AW.reg hT ?_) | ((with_reducible refine AW.cond_true ?_ ?_); · rfl) | ((with_reducible refine AW.cond_false ?_ ?_); · rfl) | simp (maxSteps := 3000000) (maxDischargeDepth := 12) only [seval,push_cast,appendX,Try.results21,gtq,Heap.lt gtq])
theorem goodnb_ok (σ : Heap) {d : DV} (h : NB σ d) : ACalls Try.prog 21 [d] σ (fun y σ' => y = .sc (.bool false) ∧ σ' = σ) := by
  rcases h with rfl | ⟨q, rfl, hq⟩
  · exact goodnil_ok σ
  · exact goodzero_ok σ hq
theorem takenb_ok (σ : Heap) {d : DV} (h : NB σ d) : ACalls Try.prog 13 [d] σ (fun y σ' => y = .tup [.sc (.int .i64 0), .sc (.int .i64 1)] ∧ σ' = σ) := by
  refine ACalls.code hT Try.func13 rfl ?_
  simp only [Try.ntmps13, List.length_cons, List.length_nil, Nat.reduceSub, Nat.reduceAdd, List.replicate, List.cons_append, List.nil_append]
  repeat (first | (with_reducible first | refine AW.seq ?_ | refine AW.block ?_ | refine AW.skip ?_ | refine AW.ret ?_ | refine AW.exit ?_ | refine AW.reg hT ?_) | ((with_reducible show AW _ (.region 3 _ _) _ _ _); (with_reducible refine AW.drawn (id := 3) hT [0,1,2,3,4,5,6,7,8,9] [[],[0],[0,1],[0,1,2],[],[4],[4,5],[4,5,6],[0,1,2,3,4,5,6,7],[0,1,2,3,4,5,6,7,8]] mix (by kernel_rfl) ?_)) | ((with_reducible show DLeft _ _ _ _ (_ :: _) _ _ _ _); (with_reducible apply DLeft.step hT); (case hoi => ((simp only [List.getElem?_toArray,List.getElem?_cons_zero,List.getElem?_cons_succ]); with_reducible rfl)); (case hg => rfl); (case hk => rfl); (case hr => ((try simp (maxSteps := 3000000) (maxDischargeDepth := 12) only [seval,push_cast,appendX,Try.results13]); with_reducible rfl))) | ((with_reducible refine AW.cond_true ?_ ?_); · rfl) | ((with_reducible refine AW.cond_false ?_ ?_); · rfl) | simp (maxSteps := 3000000) (maxDischargeDepth := 12) only [seval,push_cast,appendX,Try.results13])
  refine AOpsL.call (first := []) (cap := []) hT rfl rfl rfl fn21 rfl (ACalls.mono (goodnb_ok _ h) ?_)
  rintro y s ⟨rfl, rfl⟩
  repeat (first | (with_reducible first | refine AW.seq ?_ | refine AW.block ?_ | refine AW.skip ?_ | refine AW.ret ?_ | refine AW.exit ?_ | refine AW.reg hT ?_) | ((with_reducible show AW _ (.region 3 _ _) _ _ _); (with_reducible refine AW.drawn (id := 3) hT [0,1,2,3,4,5,6,7,8,9] [[],[0],[0,1],[0,1,2],[],[4],[4,5],[4,5,6],[0,1,2,3,4,5,6,7],[0,1,2,3,4,5,6,7,8]] mix (by kernel_rfl) ?_)) | ((with_reducible show DLeft _ _ _ _ (_ :: _) _ _ _ _); (with_reducible apply DLeft.step hT); (case hoi => ((simp only [List.getElem?_toArray,List.getElem?_cons_zero,List.getElem?_cons_succ]); with_reducible rfl)); (case hg => rfl); (case hk => rfl); (case hr => ((try simp (maxSteps := 3000000) (maxDischargeDepth := 12) only [seval,push_cast,appendX,Try.results13]); with_reducible rfl))) | ((with_reducible refine AW.cond_true ?_ ?_); · rfl) | ((with_reducible refine AW.cond_false ?_ ?_); · rfl) | simp (maxSteps := 3000000) (maxDischargeDepth := 12) only [seval,push_cast,appendX,Try.results13])
theorem dropnb_ok (σ : Heap) {d : DV} (l : Int) (h : NB σ d) : ACalls Try.prog 12 [d, .sc (.int .i64 l)] σ (fun y σ' => y = .sc (.int .i64 1) ∧ σ' = σ) := by
  refine ACalls.code hT Try.func12 rfl ?_
  simp only [Try.ntmps12, List.length_cons, List.length_nil, Nat.reduceSub, Nat.reduceAdd, List.replicate, List.cons_append, List.nil_append]
  repeat (first | (with_reducible first | refine AW.seq ?_ | refine AW.block ?_ | refine AW.skip ?_ | refine AW.ret ?_ | refine AW.exit ?_ | refine AW.reg hT ?_) | ((with_reducible refine AW.cond_true ?_ ?_); · rfl) | ((with_reducible refine AW.cond_false ?_ ?_); · rfl) | simp (maxSteps := 3000000) (maxDischargeDepth := 12) only [seval,push_cast,appendX,Try.results12])
  refine AOpsL.call (first := []) (cap := []) hT rfl rfl rfl fn21 rfl (ACalls.mono (goodnb_ok _ h) ?_)
  rintro y s ⟨rfl, rfl⟩
  repeat (first | (with_reducible first | refine AW.seq ?_ | refine AW.block ?_ | refine AW.skip ?_ | refine AW.ret ?_ | refine AW.exit ?_ | refine AW.reg hT ?_) | ((with_reducible refine AW.cond_true ?_ ?_); · rfl) | ((with_reducible refine AW.cond_false ?_ ?_); · rfl) | simp (maxSteps := 3000000) (maxDischargeDepth := 12) only [seval,push_cast,appendX,Try.results12])
theorem outnb_ok (σ : Heap) {d : DV} (h : NB σ d) : ACalls Try.prog 16 [d] σ (fun y σ' => y = .sc (.slice none 0 0) ∧ σ' = σ) := by
  refine ACalls.code hT Try.func16 rfl ?_
  simp only [Try.ntmps16, List.length_cons, List.length_nil, Nat.reduceSub, Nat.reduceAdd, List.replicate, List.cons_append, List.nil_append]
  repeat (first | (with_reducible first | refine AW.seq ?_ | refine AW.block ?_ | refine AW.skip ?_ | refine AW.ret ?_ | refine AW.exit ?_ | refine AW.reg hT ?_) | ((with_reducible refine AW.cond_true ?_ ?_); · rfl) | ((with_reducible refine AW.cond_false ?_ ?_); · rfl) | simp (maxSteps := 3000000) (maxDischargeDepth := 12) only [seval,push_cast,appendX,Try.results16])
  refine AOpsL.call (first := []) (cap := []) hT rfl rfl rfl fn21 rfl (ACalls.mono (goodnb_ok _ h) ?_)
  rintro y s ⟨rfl, rfl⟩
  repeat (first | (with_reducible first | refine AW.seq ?_ | refine AW.block ?_ | refine AW.skip ?_ | refine AW.ret ?_ | refine AW.exit ?_ | refine AW.reg hT ?_) | ((with_reducible refine AW.cond_true ?_ ?_); · rfl) | ((with_reducible refine AW.cond_false ?_ ?_); · rfl) | simp (maxSteps := 3000000) (maxDischargeDepth := 12) only [seval,push_cast,appendX,Try.results16])
theorem leftnb_ok (σ : Heap) {d : DV} (h : NB σ d) : ACalls Try.prog 18 [d] σ (fun y σ' => y = .sc (.int .i64 0) ∧ σ' = σ) := by
  refine ACalls.code hT Try.func18 rfl ?_
  simp only [Try.ntmps18, List.length_cons, List.length_nil, Nat.reduceSub, Nat.reduceAdd, List.replicate, List.cons_append, List.nil_append]
  repeat (first | (with_reducible first | refine AW.seq ?_ | refine AW.block ?_ | refine AW.skip ?_ | refine AW.ret ?_ | refine AW.exit ?_ | refine AW.reg hT ?_) | ((with_reducible show AW _ (.region 3 _ _) _ _ _); (with_reducible refine AW.drawn (id := 3) hT [0,1,2,3,4,5,6,7,8,9,10] [[],[0],[0,1],[0,1,2],[],[4],[4,5],[4,5,6],[0,1,2,3,4,5,6,7],[0,1,2,3,4,5,6,7,8],[0,1,2,3,4,5,6,7,8,9]] mix (by kernel_rfl) ?_)) | ((with_reducible show DLeft _ _ _ _ (_ :: _) _ _ _ _); (with_reducible apply DLeft.step hT); (case hoi => ((simp only [List.getElem?_toArray,List.getElem?_cons_zero,List.getElem?_cons_succ]); with_reducible rfl)); (case hg => rfl); (case hk => rfl); (case hr => ((try simp (maxSteps := 3000000) (maxDischargeDepth := 12) only [seval,push_cast,appendX,Try.results18]); with_reducible rfl))) | ((with_reducible refine AW.cond_true ?_ ?_); · rfl) | ((with_reducible refine AW.cond_false ?_ ?_); · rfl) | simp (maxSteps := 3000000) (maxDischargeDepth := 12) only [seval,push_cast,appendX,Try.results18])
  refine AOpsL.call (first := []) (cap := []) hT rfl rfl rfl fn21 rfl (ACalls.mono (goodnb_ok _ h) ?_)
  rintro y s ⟨rfl, rfl⟩
  repeat (first | (with_reducible first | refine AW.seq ?_ | refine AW.block ?_ | refine AW.skip ?_ | refine AW.ret ?_ | refine AW.exit ?_ | refine AW.reg hT ?_) | ((with_reducible show AW _ (.region 3 _ _) _ _ _); (with_reducible refine AW.drawn (id := 3) hT [0,1,2,3,4,5,6,7,8,9,10] [[],[0],[0,1],[0,1,2],[],[4],[4,5],[4,5,6],[0,1,2,3,4,5,6,7],[0,1,2,3,4,5,6,7,8],[0,1,2,3,4,5,6,7,8,9]] mix (by kernel_rfl) ?_)) | ((with_reducible show DLeft _ _ _ _ (_ :: _) _ _ _ _); (with_reducible apply DLeft.step hT); (case hoi => ((simp only [List.getElem?_toArray,List.getElem?_cons_zero,List.getElem?_cons_succ]); with_reducible rfl)); (case hg => rfl); (case hk => rfl); (case hr => ((try simp (maxSteps := 3000000) (maxDischargeDepth := 12) only [seval,push_cast,appendX,Try.results18]); with_reducible rfl))) | ((with_reducible refine AW.cond_true ?_ ?_); · rfl) | ((with_reducible refine AW.cond_false ?_ ?_); · rfl) | simp (maxSteps := 3000000) (maxDischargeDepth := 12) only [seval,push_cast,appendX,Try.results18])
theorem copynb_ok (σ : Heap) {d : DV} (h : NB σ d) : ACalls Try.prog 20 [d] σ (fun y σ' => y = .sc (.pointer none) ∧ σ' = σ) := by
  refine ACalls.code hT Try.func20 rfl ?_
  simp only [Try.ntmps20, List.length_cons, List.length_nil, Nat.reduceSub, Nat.reduceAdd, List.replicate, List.cons_append, List.nil_append]
  repeat (first | (with_reducible first | refine AW.seq ?_ | refine AW.block ?_ | refine AW.skip ?_ | refine AW.ret ?_ | refine AW.exit ?_ | refine AW.reg hT ?_) | ((with_reducible show AW _ (.region 3 _ _) _ _ _); (with_reducible refine AW.drawn (id := 3) hT [0,1,2,3,4,5,6,7,8,9,10,11,12,13,14,15] [[],[0],[0,1],[0,1,2],[],[4],[4,5],[4,5,6],[],[8],[8,9],[8,9,10],[8,9,10,11],[0,1,2,3,4,5,6,7,8,9,10,11,12],[0,1,2,3,4,5,6,7,8,9,10,11,12,13],[0,1,2,3,4,5,6,7,8,9,10,11,12,13,14]] mix (by kernel_rfl) ?_)) | ((with_reducible show DLeft _ _ _ _ (_ :: _) _ _ _ _); (with_reducible apply DLeft.step hT); (case hoi => ((simp only [List.getElem?_toArray,List.getElem?_cons_zero,List.getElem?_cons_succ]); with_reducible rfl)); (case hg => rfl); (case hk => rfl); (case hr => ((try simp (maxSteps := 3000000) (maxDischargeDepth := 12) only [seval,push_cast,appendX,Try.results20]); with_reducible rfl))) | ((with_reducible refine AW.cond_true ?_ ?_); · rfl) | ((with_reducible refine AW.cond_false ?_ ?_); · rfl) | simp (maxSteps := 3000000) (maxDischargeDepth := 12) only [seval,push_cast,appendX,Try.results20])
  refine AOpsL.call (first := []) (cap := []) hT rfl rfl rfl fn21 rfl (ACalls.mono (goodnb_ok _ h) ?_)
  rintro y s ⟨rfl, rfl⟩
  repeat (first | (with_reducible first | refine AW.seq ?_ | refine AW.block ?_ | refine AW.skip ?_ | refine AW.ret ?_ | refine AW.exit ?_ | refine AW.reg hT ?_) | ((with_reducible show AW _ (.region 3 _ _) _ _ _); (with_reducible refine AW.drawn (id := 3) hT [0,1,2,3,4,5,6,7,8,9,10,11,12,13,14,15] [[],[0],[0,1],[0,1,2],[],[4],[4,5],[4,5,6],[],[8],[8,9],[8,9,10],[8,9,10,11],[0,1,2,3,4,5,6,7,8,9,10,11,12],[0,1,2,3,4,5,6,7,8,9,10,11,12,13],[0,1,2,3,4,5,6,7,8,9,10,11,12,13,14]] mix (by kernel_rfl) ?_)) | ((with_reducible show DLeft _ _ _ _ (_ :: _) _ _ _ _); (with_reducible apply DLeft.step hT); (case hoi => ((simp only [List.getElem?_toArray,List.getElem?_cons_zero,List.getElem?_cons_succ]); with_reducible rfl)); (case hg => rfl); (case hk => rfl); (case hr => ((try simp (maxSteps := 3000000) (maxDischargeDepth := 12) only [seval,push_cast,appendX,Try.results20]); with_reducible rfl))) | ((with_reducible refine AW.cond_true ?_ ?_); · rfl) | ((with_reducible refine AW.cond_false ?_ ?_); · rfl) | simp (maxSteps := 3000000) (maxDischargeDepth := 12) only [seval,push_cast,appendX,Try.results20])
theorem copy_ok (σ : Heap) {p t : Nat} {nx hi : Int} {E : List (Int × DV)} (h : Pl σ p t nx hi E) : ACalls Try.prog 20 [.ptr p 0 0 1] σ (fun y σ' => ∃ p2 t2, y = .ptr p2 0 0 1 ∧ σ.n ≤ p2 ∧ σ.n ≤ t2 ∧ Pl σ' p2 t2 nx hi E ∧ Ext [] σ σ') := by
  have gtp := h.po
  unfold pO at gtp
  have hltp := Heap.lt gtp
  refine ACalls.code hT Try.func20 rfl ?_
  simp only [Try.ntmps20, List.length_cons, List.length_nil, Nat.reduceSub, Nat.reduceAdd, List.replicate, List.cons_append, List.nil_append]
  repeat (first | (with_reducible first | refine AW.seq ?_ | refine AW.block ?_ | refine AW.skip ?_ | refine AW.ret ?_ | refine AW.exit ?_ | refine AW.reg hT ?_) | ((with_reducible show AW _ (.region 3 _ _) _ _ _); (with_reducible refine AW.drawn (id := 3) hT [0,1,2,3,4,5,6,7,8,9,10,11,12,13,14,15] [[],[0],[0,1],[0,1,2],[],[4],[4,5],[4,5,6],[],[8],[8,9],[8,9,10],[8,9,10,11],[0,1,2,3,4,5,6,7,8,9,10,11,12],[0,1,2,3,4,5,6,7,8,9,10,11,12,13],[0,1,2,3,4,5,6,7,8,9,10,11,12,13,14]] mix (by kernel_rfl) ?_)) | ((with_reducible show DLeft _ _ _ _ (_ :: _) _ _ _ _); (with_reducible apply DLeft.step hT); (case hoi => ((simp only [List.getElem?_toArray,List.getElem?_cons_zero,List.getElem?_cons_succ]); with_reducible rfl)); (case hg => rfl); (case hk => rfl); (case hr => ((try simp (maxSteps := 3000000) (maxDischargeDepth := 12) only [seval,push_cast,appendX,Try.results20,gtp,Heap.lt gtp]); with_reducible rfl))) | ((with_reducible refine AW.cond_true ?_ ?_); · rfl) | ((with_reducible refine AW.cond_false ?_ ?_); · rfl) | simp (maxSteps := 3000000) (maxDischargeDepth := 12) only [seval,push_cast,appendX,Try.results20,gtp,Heap.lt gtp])
  refine AOpsL.call (first := []) (cap := []) hT rfl rfl rfl fn21 rfl (ACalls.mono (good_ok _ h.po) ?_)
  rintro y s ⟨rfl, rfl⟩
  repeat (first | (with_reducible first | refine AW.seq ?_ | refine AW.block ?_ | refine AW.skip ?_ | refine AW.ret ?_ | refine AW.exit ?_ | refine AW.reg hT ?_) | ((with_reducible show AW _ (.region 3 _ _) _ _ _); (with_reducible refine AW.drawn (id := 3) hT [0,1,2,3,4,5,6,7,8,9,10,11,12,13,14,15] [[],[0],[0,1],[0,1,2],[],[4],[4,5],[4,5,6],[],[8],[8,9],[8,9,10],[8,9,10,11],[0,1,2,3,4,5,6,7,8,9,10,11,12],[0,1,2,3,4,5,6,7,8,9,10,11,12,13],[0,1,2,3,4,5,6,7,8,9,10,11,12,13,14]] mix (by kernel_rfl) ?_)) | ((with_reducible show DLeft _ _ _ _ (_ :: _) _ _ _ _); (with_reducible apply DLeft.step hT); (case hoi => ((simp only [List.getElem?_toArray,List.getElem?_cons_zero,List.getElem?_cons_succ]); with_reducible rfl)); (case hg => rfl); (case hk => rfl); (case hr => ((try simp (maxSteps := 3000000) (maxDischargeDepth := 12) only [seval,push_cast,appendX,Try.results20,gtp,Heap.lt gtp]); with_reducible rfl))) | ((with_reducible refine AW.cond_true ?_ ?_); · rfl) | ((with_reducible refine AW.cond_false ?_ ?_); · rfl) | simp (maxSteps := 3000000) (maxDischargeDepth := 12) only [seval,push_cast,appendX,Try.results20,gtp,Heap.lt gtp])
  ((apply DLeft.call (f := 23) (first := []) (cap := [])); (case hoi => ((simp only [List.getElem?_toArray, List.getElem?_cons_zero, List.getElem?_cons_succ]); with_reducible rfl)); (case hg => rfl); (case ho => rfl); (case hc => rfl); (case hf => exact fn23); (case has => rfl)); refine ACalls.mono (clone_ok _ h.pm) ?_
  rintro y s6 ⟨rfl, rfl⟩
  repeat (first | (with_reducible first | refine AW.seq ?_ | refine AW.block ?_ | refine AW.skip ?_ | refine AW.ret ?_ | refine AW.exit ?_ | refine AW.reg hT ?_) | ((with_reducible show AW _ (.region 3 _ _) _ _ _); (with_reducible refine AW.drawn (id := 3) hT [0,1,2,3,4,5,6,7,8,9,10,11,12,13,14,15] [[],[0],[0,1],[0,1,2],[],[4],[4,5],[4,5,6],[],[8],[8,9],[8,9,10],[8,9,10,11],[0,1,2,3,4,5,6,7,8,9,10,11,12],[0,1,2,3,4,5,6,7,8,9,10,11,12,13],[0,1,2,3,4,5,6,7,8,9,10,11,12,13,14]] mix (by kernel_rfl) ?_)) | ((with_reducible show DLeft _ _ _ _ (_ :: _) _ _ _ _); (with_reducible apply DLeft.step hT); (case hoi => ((simp only [List.getElem?_toArray,List.getElem?_cons_zero,List.getElem?_cons_succ]); with_reducible rfl)); (case hg => rfl); (case hk => rfl); (case hr => ((try simp (maxSteps := 3000000) (maxDischargeDepth := 12) only [seval,push_cast,appendX,Try.results20,gtp,Heap.lt gtp]); with_reducible rfl))) | ((with_reducible refine AW.cond_true ?_ ?_); · rfl) | ((with_reducible refine AW.cond_false ?_ ?_); · rfl) | simp (maxSteps := 3000000) (maxDischargeDepth := 12) only [seval,push_cast,appendX,Try.results20,gtp,Heap.lt gtp])
  refine ⟨s.n + 1, s.n, rfl, by omega, Nat.le_refl _, ⟨by simp (maxSteps := 3000000) (maxDischargeDepth := 12) only [push_cast, appendX, Nat.reduceAdd, Nat.reduceEqDiff, Nat.reduceLT, Nat.reduceLeDiff, reduceIte, reduceCtorEq, pO, gtp, Heap.lt gtp], by simp (maxSteps := 3000000) (maxDischargeDepth := 12) only [push_cast, appendX, Nat.reduceAdd, Nat.reduceEqDiff, Nat.reduceLT, Nat.reduceLeDiff, reduceIte, reduceCtorEq, pM, gtp, Heap.lt gtp]⟩, by repeat (first | exact Ext.refl _ _ | assumption | refine Ext.push ?_ _ | ((refine Ext.set ?_ ?_ _); rotate_left; · (simp (maxSteps := 3000000) (maxDischargeDepth := 12) only [push_cast, appendX, Nat.reduceAdd, Nat.reduceEqDiff, Nat.reduceLT, Nat.reduceLeDiff, reduceIte, reduceCtorEq, gtp, Heap.lt gtp])) | ((refine Ext.then1 (by assumption) ?_ ?_); rotate_left; · (intro p hp _; first | assumption | exact List.mem_cons_of_mem _ hp | (cases hp; done) | (simp at hp; subst hp; simp))))⟩
end Go.Proofs.Ythdamnemoaaigaa.Cm
