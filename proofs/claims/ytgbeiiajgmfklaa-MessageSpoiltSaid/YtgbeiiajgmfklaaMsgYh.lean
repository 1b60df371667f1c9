/- Chapter 8: MessageHeads. -/
import Derived.Test.YtgbeiiajgmfklaaMsgYe
import Derived.Test.YtgbeiiajgmfklaaCmYf
namespace Go.Proofs.Ytgbeiiajgmfklaa.Cm
open Go.RowKit
set_option linter.unusedVariables false
set_option linter.unusedSimpArgs false
set_option maxRecDepth 20000
set_option maxHeartbeats 8000000
attribute [-push_cast] List.getElem?_cons_succ List.set_cons_succ
abbrev Ms := S30
abbrev eM := e30
abbrev wM := w30
def mS (x : Ms) : Me := ⟨⟨x.f0, x.f1, x.f2.f0, x.f2.f1, x.f2.f2, x.f2.f3, x.f3, x.f4, x.f5, x.f6.f0, x.f6.f1, x.f6.f2, x.f6.f3, x.f6.f4, x.f6.f5, x.f9, x.f10, x.f11⟩, x.f7, x.f8⟩
theorem eM_eq (x : Ms) : eM x = meC (mS x) := rfl
theorem wM_wf {x : Ms} (h : wM x) (h1 : (mS x).rt.length ≤ 6000) (h2 : (mS x).rc.length ≤ 6000) : (mS x).Wf := by
  obtain ⟨k0, k1, ⟨k2, k3, k4, k5⟩, k6, k7, k8, ⟨k9, k10, k11, k12, k13, k14⟩, _, _, k15, k16, k17⟩ := h
  have hu : ∀ n : Int, (Lit.int .u32 n).wf = true → u32r n := fun n hn => by have := wf_u32 hn; exact ⟨this.1, by omega⟩
  exact ⟨wf_i64 k0, wf_i64 k1, wf_i64 k2, wf_i64 k3, wf_i64 k4, wf_i64 k5, wf_i64 k6, wf_i64 k7, wf_i64 k8, wf_u64 k9, wf_i64 k10, wf_i64 k11, hu _ k12, hu _ k13, hu _ k14, wf_i64 k15, wf_i64 k16, wf_i64 k17, by omega, by omega⟩
open Classical in
theorem headsZ (σ : Heap) {z : Me} (hw : z.rt.length ≤ 6000 ∧ z.rc.length ≤ 6000 → z.Wf) : ACalls Try.prog 6 [.agg (meC z)] σ (fun y σ' => y = .sc (.bool true)) := by
  simp only [meC, mgC]
  refine ACalls.code hT Try.func6 rfl ?_
  simp only [Try.ntmps6, List.length_cons, List.length_nil, Nat.reduceSub, Nat.reduceAdd, List.replicate, List.cons_append, List.nil_append]
  repeat (first | (with_reducible first | refine AW.seq ?_ | refine AW.block ?_ | refine AW.skip ?_ | refine AW.ret ?_ | refine AW.exit ?_ | refine AW.reg hT ?_) | ((with_reducible refine AW.cond_true ?_ ?_); · rfl) | ((with_reducible refine AW.cond_false ?_ ?_); · rfl) | simp (maxSteps := 3000000) (maxDischargeDepth := 12) only [seval,push_cast,appendX,get32,get8,get_0,get_1,get_2,get_3,get_4,get_5,get_6,get_7,set32,set8,set_0,set_1,set_2,set_3,set_4,set_5,set_6,set_7,Try.results6])
  refine AOpsL.call (first := []) (cap := []) hT rfl rfl rfl fn7 rfl (ACalls.mono (alive_ok _) ?_)
  rintro y σ1 ⟨rfl, xt1⟩
  have gt1 : σ1.get σ.n = some ⟨[meC z], 30, true⟩ := xt1.get (by simp (maxSteps := 3000000) (maxDischargeDepth := 12) only [push_cast, appendX, Nat.reduceAdd, Nat.reduceEqDiff, Nat.reduceLT, Nat.reduceLeDiff, reduceIte, reduceCtorEq, meC, mgC, xt1.2, xt1.ltT, xt1.leT]) (by simp)
  clear xt1
  repeat (first | (with_reducible first | refine AW.seq ?_ | refine AW.block ?_ | refine AW.skip ?_ | refine AW.ret ?_ | refine AW.exit ?_ | refine AW.reg hT ?_) | ((with_reducible refine AW.cond_true ?_ ?_); · rfl) | ((with_reducible refine AW.cond_false ?_ ?_); · rfl) | simp (maxSteps := 3000000) (maxDischargeDepth := 12) only [seval,push_cast,appendX,get32,get8,get_0,get_1,get_2,get_3,get_4,get_5,get_6,get_7,set32,set8,set_0,set_1,set_2,set_3,set_4,set_5,set_6,set_7,Try.results6,meC,mgC,gt1,Heap.lt gt1])
  refine AOpsL.call (first := []) (cap := []) hT rfl rfl rfl fn8 rfl (ACalls.mono (fits_ok _ z) ?_)
  rintro y σ2 ⟨rfl, xt2⟩
  have gt2 := xt2.get gt1 (by simp)
  clear xt2 gt1
  by_cases hf : ¬ (z.rt.length ≤ 6000 ∧ z.rc.length ≤ 6000)
  · rw [decide_eq_false hf]
    repeat (first | (with_reducible first | refine AW.seq ?_ | refine AW.block ?_ | refine AW.skip ?_ | refine AW.ret ?_ | refine AW.exit ?_ | refine AW.reg hT ?_) | ((with_reducible refine AW.cond_true ?_ ?_); · rfl) | ((with_reducible refine AW.cond_false ?_ ?_); · rfl) | simp (maxSteps := 3000000) (maxDischargeDepth := 12) only [seval,push_cast,appendX,get32,get8,get_0,get_1,get_2,get_3,get_4,get_5,get_6,get_7,set32,set8,set_0,set_1,set_2,set_3,set_4,set_5,set_6,set_7,Try.results6,gt2,Heap.lt gt2])
  · have hf := Decidable.not_not.1 hf
    have hw := hw hf
    rw [decide_eq_true hf]
    repeat (first | (with_reducible first | refine AW.seq ?_ | refine AW.block ?_ | refine AW.skip ?_ | refine AW.ret ?_ | refine AW.exit ?_ | refine AW.reg hT ?_) | ((with_reducible refine AW.cond_true ?_ ?_); · rfl) | ((with_reducible refine AW.cond_false ?_ ?_); · rfl) | simp (maxSteps := 3000000) (maxDischargeDepth := 12) only [seval,push_cast,appendX,get32,get8,get_0,get_1,get_2,get_3,get_4,get_5,get_6,get_7,set32,set8,set_0,set_1,set_2,set_3,set_4,set_5,set_6,set_7,Try.results6,meC,mgC,gt2,Heap.lt gt2])
    refine AOpsL.call (first := []) (cap := []) hT rfl rfl rfl fn10 rfl (ACalls.mono (theirs_ok _ z) ?_)
    rintro y σ3 ⟨rfl, xt3⟩
    have gt3 := xt3.get gt2 (by simp)
    clear xt3 gt2
    have hE := fun σ' => mencI_ok σ' hw
    by_cases hm : ¬ mayM z
    · simp only [encM_no hm] at hE
      have dc20 : ((2 : Int) == 0) = false := rfl
      have dcb0 : (bytesD []).length = 0 := rfl
      repeat (first | (with_reducible first | refine AW.seq ?_ | refine AW.block ?_ | refine AW.skip ?_ | refine AW.ret ?_ | refine AW.exit ?_ | refine AW.reg hT ?_) | ((with_reducible refine AW.cond_true ?_ ?_); · rfl) | ((with_reducible refine AW.cond_false ?_ ?_); · rfl) | simp (maxSteps := 3000000) (maxDischargeDepth := 12) only [seval,push_cast,appendX,get32,get8,get_0,get_1,get_2,get_3,get_4,get_5,get_6,get_7,set32,set8,set_0,set_1,set_2,set_3,set_4,set_5,set_6,set_7,Try.results6,gt3,Heap.lt gt3,dc20,dcb0])
      refine AOpsL.call (first := []) (cap := []) hT rfl rfl rfl fn9 rfl (ACalls.mono (hE _) ?_)
      rintro y σ4 ⟨rfl, xt4⟩
      have gt4 := xt4.get gt3 (by simp)
      clear xt4 gt3
      repeat (first | (with_reducible first | refine AW.seq ?_ | refine AW.block ?_ | refine AW.skip ?_ | refine AW.ret ?_ | refine AW.exit ?_ | refine AW.reg hT ?_) | ((with_reducible refine AW.cond_true ?_ ?_); · rfl) | ((with_reducible refine AW.cond_false ?_ ?_); · rfl) | simp (maxSteps := 3000000) (maxDischargeDepth := 12) only [seval,push_cast,appendX,get32,get8,get_0,get_1,get_2,get_3,get_4,get_5,get_6,get_7,set32,set8,set_0,set_1,set_2,set_3,set_4,set_5,set_6,set_7,Try.results6,meC,mgC,dc20,dcb0,gt4,Heap.lt gt4])
      refine AOpsL.call (first := []) (cap := []) hT rfl rfl rfl fn10 rfl (ACalls.mono (theirs_ok _ z) ?_)
      rintro y σ5 ⟨rfl, xt5⟩
      repeat (first | (with_reducible first | refine AW.seq ?_ | refine AW.block ?_ | refine AW.skip ?_ | refine AW.ret ?_ | refine AW.exit ?_ | refine AW.reg hT ?_) | ((with_reducible refine AW.cond_true ?_ ?_); · rfl) | ((with_reducible refine AW.cond_false ?_ ?_); · rfl) | simp (maxSteps := 3000000) (maxDischargeDepth := 12) only [seval,push_cast,appendX,get32,get8,get_0,get_1,get_2,get_3,get_4,get_5,get_6,get_7,set32,set8,set_0,set_1,set_2,set_3,set_4,set_5,set_6,set_7,Try.results6,dc20,dcb0,gt4,Heap.lt gt4,xt5.2,xt5.ltT,xt5.leT])
      refine AOpsL.call (first := []) (cap := []) hT rfl rfl rfl fn14 rfl (ACalls.mono (mmay_ok _ hw) ?_)
      rw [decide_eq_false hm]
      rintro y σ6 ⟨rfl, xt6⟩
      repeat (first | (with_reducible first | refine AW.seq ?_ | refine AW.block ?_ | refine AW.skip ?_ | refine AW.ret ?_ | refine AW.exit ?_ | refine AW.reg hT ?_) | ((with_reducible refine AW.cond_true ?_ ?_); · rfl) | ((with_reducible refine AW.cond_false ?_ ?_); · rfl) | simp (maxSteps := 3000000) (maxDischargeDepth := 12) only [seval,push_cast,appendX,get32,get8,get_0,get_1,get_2,get_3,get_4,get_5,get_6,get_7,set32,set8,set_0,set_1,set_2,set_3,set_4,set_5,set_6,set_7,Try.results6,dc20,dcb0,gt4,Heap.lt gt4,xt5.2,xt5.ltT,xt5.leT,xt6.2,xt6.ltT,xt6.leT])
    · have hm := Decidable.not_not.1 hm
      simp only [encM_yes hm] at hE
      repeat (first | (with_reducible first | refine AW.seq ?_ | refine AW.block ?_ | refine AW.skip ?_ | refine AW.ret ?_ | refine AW.exit ?_ | refine AW.reg hT ?_) | ((with_reducible refine AW.cond_true ?_ ?_); · rfl) | ((with_reducible refine AW.cond_false ?_ ?_); · rfl) | simp (maxSteps := 3000000) (maxDischargeDepth := 12) only [seval,push_cast,appendX,get32,get8,get_0,get_1,get_2,get_3,get_4,get_5,get_6,get_7,set32,set8,set_0,set_1,set_2,set_3,set_4,set_5,set_6,set_7,Try.results6])
      refine AOpsL.call (first := []) (cap := []) hT rfl rfl rfl fn9 rfl (ACalls.mono (hE _) ?_)
      rintro y σ4 ⟨rfl, xt4⟩
      have gt4 := xt4.get gt3 (by simp)
      clear xt4 gt3 hE
      have hob := objs_may hm.2.2.2.2.1
      have hty := mayM_ty hm
      have httl := hm.1
      have hl := sealM_len z
      have hd := digit_two (u := 8 + ((obsB (objsM z)).length : Int)) (by omega) (by have := hob.2.2.1; omega)
      have hd1 := digit_octet (8 + ((obsB (objsM z)).length : Int)) 1
      have hd0 := digit_octet (8 + ((obsB (objsM z)).length : Int)) 0
      have e0 : (bytesD (sealM z))[0]? = some [.sc (.int .u8 16)] := by rw [sealM_form]; rfl
      have e1 : (bytesD (sealM z))[1]? = some [.sc (.int .u8 z.m.ty)] := by rw [sealM_form]; rfl
      have e4 : (bytesD (sealM z))[4]? = some [.sc (.int .u8 z.m.ttl)] := by rw [sealM_form]; rfl
      have e5 : (bytesD (sealM z))[5]? = some [.sc (.int .u8 0)] := by rw [sealM_form]; rfl
      have e6 : (bytesD (sealM z))[6]? = some [.sc (.int .u8 (digit (8 + ((obsB (objsM z)).length : Int)) 1))] := by rw [sealM_form]; rfl
      have e7 : (bytesD (sealM z))[7]? = some [.sc (.int .u8 (digit (8 + ((obsB (objsM z)).length : Int)) 0))] := by rw [sealM_form]; rfl
      have el : (bytesD (sealM z)).length = (obsB (objsM z)).length + 8 := by rw [bytesD_length, hl]
      have h4 := hob.2.2.2.1
      have h5 := hob.2.2.1
      obtain ⟨n, hn⟩ : ∃ n, (obsB (objsM z)).length + 8 = n := ⟨_, rfl⟩
      have hd' : digit (8 + ((obsB (objsM z)).length : Int)) 1 * 256 + digit (8 + ((obsB (objsM z)).length : Int)) 0 = (n : Int) := by rw [hd]; omega
      rw [hn] at el
      revert hd' hd1 hd0 e6 e7
      generalize digit (8 + ((obsB (objsM z)).length : Int)) 1 = d1
      generalize digit (8 + ((obsB (objsM z)).length : Int)) 0 = d0
      intro hd1 hd0 e6 e7 hd'
      generalize sealM z = sb at *
      have dcl := el
      have dc0 := e0
      have dc1 := e1
      have dc4 := e4
      have dc5 := e5
      have dc6 := e6
      have dc7 := e7
      have dcge : decide (8 ≤ (n : Int)) = true := by simp; omega
      have dctm : ((n : Int).tmod 4 == 0) = true := by rw [Int.tmod_eq_emod_of_nonneg (by omega)]; simp; omega
      have dcb0 : ((0 : Int) < (n : Int)) = True := by simp; omega
      have dcb1 : ((1 : Int) < (n : Int)) = True := by simp; omega
      have dcb4 : ((4 : Int) < (n : Int)) = True := by simp; omega
      have dcb5 : ((5 : Int) < (n : Int)) = True := by simp; omega
      have dcb6 : ((6 : Int) < (n : Int)) = True := by simp; omega
      have dcb7 : ((7 : Int) < (n : Int)) = True := by simp; omega
      have dcw1 : IntKind.i64.wrap z.m.ty = z.m.ty := wrap_i64 (by omega) (by omega)
      have dcw4 : IntKind.i64.wrap z.m.ttl = z.m.ttl := wrap_i64 (by omega) (by omega)
      have dcw6 : IntKind.i64.wrap d1 = d1 := wrap_i64 (by omega) (by omega)
      have dcw7 : IntKind.i64.wrap d0 = d0 := wrap_i64 (by omega) (by omega)
      have dcw8 : IntKind.i64.wrap (d1 * 256) = d1 * 256 := wrap_i64 (by omega) (by omega)
      have dcw9 : IntKind.i64.wrap (d1 * 256 + d0) = (n : Int) := by rw [hd']; exact wrap_i64 (by omega) (by omega)
      repeat (first | (with_reducible first | refine AW.seq ?_ | refine AW.block ?_ | refine AW.skip ?_ | refine AW.ret ?_ | refine AW.exit ?_ | refine AW.reg hT ?_) | ((with_reducible show AW _ (.region 8 _ _) _ _ _); (with_reducible refine AW.drawnF (id := 8) hT [0,1,2,3,4,5,6,7,8,9,10,11,12,13,14,15,16,17,18,19,20,21,22,23,24,25,26,27,28,29,30,31,32,33,34,35,36,37,38,39,40,41,42,43,44,45,46,47,48,49,50,51,52,53,54] [[],[0],[0,1],[0,1,2],[0,1,2,3],[0,1,2,3,4],[0,1,2,3,4,5],[0,1,2,3,4,5,6],[0,1,2,3,4,5,6,7],[0,1,2,3,4,5,6,7,8],[0,1,2,3,4,5,6,7,8,9],[0,1,2,3,4,5,6,7,8,9,10],[0,1,2,3,4,5,6,7,8,9,10,11],[0,1,2,3,4,5,6,7,8,9,10,11,12],[0,1,2,3,4,5,6,7,8,9,10,11,12,13],[0,1,2,3,4,5,6,7,8,9,10,11,12,13,14],[0,1,2,3,4,5,6,7,8,9,10,11,12,13,14,15],[0,1,2,3,4,5,6,7,8,9,10,11,12,13,14,15,16],[0,1,2,3,4,5,6,7,8,9,10,11,12,13,14,15,16,17],[0,1,2,3,4,5,6,7,8,9,10,11,12,13,14,15,16,17,18],[0,1,2,3,4,5,6,7,8,9,10,11,12,13,14,15],[0,1,2,3,4,5,6,7,8,9,10,11,12,13,14,15,20],[0,1,2,3,4,5,6,7,8,9,10,11,12,13,14,15,16,17,18,19,20,21],[0,1,2,3,4,5,6,7,8,9,10,11,12,13,14,15,16,17,18,19,20,21,22],[0,1,2,3,4,5,6,7,8,9,10,11,12,13,14,15,16,17,18,19,20,21,22,23],[0,1,2,3,4,5,6,7,8,9,10,11,12,13,14,15,16,17,18,19,20,21,22,23,24],[0,1,2,3,4,5,6,7,8,9,10,11,12,13,14,15,16,17,18,19,20,21,22,23,24,25],[0,1,2,3,4,5,6,7,8,9,10,11,12,13,14,15,16,17,18,19,20,21,22,23,24,25,26],[0,1,2,3,4,5,6,7,8,9,10,11,12,13,14,15,16,17,18,19,20,21,22,23,24,25,26,27],[0,1,2,3,4,5,6,7,8,9,10,11,12,13,14,15,16,17,18,19,20,21,22,23,24],[0,1,2,3,4,5,6,7,8,9,10,11,12,13,14,15,16,17,18,19,20,21,22,23,24,29],[0,1,2,3,4,5,6,7,8,9,10,11,12,13,14,15,16,17,18,19,20,21,22,23,24,25,26,27,28,29,30],[0,1,2,3,4,5,6,7,8,9,10,11,12,13,14,15,16,17,18,19,20,21,22,23,24,25,26,27,28,29,30,31],[0,1,2,3,4,5,6,7,8,9,10,11,12,13,14,15,16,17,18,19,20,21,22,23,24,25,26,27,28,29,30,31,32],[0,1,2,3,4,5,6,7,8,9,10,11,12,13,14,15,16,17,18,19,20,21,22,23,24,25,26,27,28,29,30,31,32,33],[0,1,2,3,4,5,6,7,8,9,10,11,12,13,14,15,16,17,18,19,20,21,22,23,24,25,26,27,28,29,30,31,32,33,34],[0,1,2,3,4,5,6,7,8,9,10,11,12,13,14,15,16,17,18,19,20,21,22,23,24,25,26,27,28,29,30,31,32,33,34,35],[0,1,2,3,4,5,6,7,8,9,10,11,12,13,14,15,16,17,18,19,20,21,22,23,24,25,26,27,28,29,30,31,32,33,34,35,36],[0,1,2,3,4,5,6,7,8,9,10,11,12,13,14,15,16,17,18,19,20,21,22,23,24,25,26,27,28,29,30,31,32,33,34,35,36,37],[0,1,2,3,4,5,6,7,8,9,10,11,12,13,14,15,16,17,18,19,20,21,22,23,24,25,26,27,28,29,30,31,32,33,34,35,36,37,38],[0,1,2,3,4,5,6,7,8,9,10,11,12,13,14,15,16,17,18,19,20,21,22,23,24,25,26,27,28,29,30,31,32,33,34,35,36,37,38,39],[0,1,2,3,4,5,6,7,8,9,10,11,12,13,14,15,16,17,18,19,20,21,22,23,24,25,26,27,28,29,30,31,32,33,34,35,36,37,38,39,40],[0,1,2,3,4,5,6,7,8,9,10,11,12,13,14,15,16,17,18,19,20,21,22,23,24,25,26,27,28,29,30,31,32,33,34,35,36,37,38,39,40,41],[0,1,2,3,4,5,6,7,8,9,10,11,12,13,14,15,16,17,18,19,20,21,22,23,24,25,26,27,28,29,30,31,32,33,34,35,36,37,38,39,40,41,42],[0,1,2,3,4,5,6,7,8,9,10,11,12,13,14,15,16,17,18,19,20,21,22,23,24,25,26,27,28,29,30,31,32,33,34,35,36,37,38,39,40,41,42,43],[0,1,2,3,4,5,6,7,8,9,10,11,12,13,14,15,16,17,18,19,20,21,22,23,24,25,26,27,28,29,30,31,32,33,34,35,36,37,38,39],[0,1,2,3,4,5,6,7,8,9,10,11,12,13,14,15,16,17,18,19,20,21,22,23,24,25,26,27,28,29,30,31,32,33,34,35,36,37,38,39,45],[0,1,2,3,4,5,6,7,8,9,10,11,12,13,14,15,16,17,18,19,20,21,22,23,24,25,26,27,28,29,30,31,32,33,34,35,36,37,38,39,45,46],[0,1,2,3,4,5,6,7,8,9,10,11,12,13,14,15,16,17,18,19,20,21,22,23,24,25,26,27,28,29,30,31,32,33,34,35,36,37,38,39,45,46,47],[0,1,2,3,4,5,6,7,8,9,10,11,12,13,14,15,16,17,18,19,20,21,22,23,24,25,26,27,28,29,30,31,32,33,34,35,36,37,38,39,40,41,42,43,44,45,46,47,48],[0,1,2,3,4,5,6,7,8,9,10,11,12,13,14,15,16,17,18,19,20,21,22,23,24,25,26,27,28,29,30,31,32,33,34,35,36,37,38,39],[0,1,2,3,4,5,6,7,8,9,10,11,12,13,14,15,16,17,18,19,20,21,22,23,24,25,26,27,28,29,30,31,32,33,34,35,36,37,38,39,50],[0,1,2,3,4,5,6,7,8,9,10,11,12,13,14,15,16,17,18,19,20,21,22,23,24,25,26,27,28,29,30,31,32,33,34,35,36,37,38,39,40,41,42,43,44,45,46,47,48,49,50,51],[0,1,2,3,4,5,6,7,8,9,10,11,12,13,14,15,16,17,18,19,20,21,22,23,24,25,26,27,28,29,30,31,32,33,34,35,36,37,38,39,40,41,42,43,44,45,46,47,48,49,50,51,52],[0,1,2,3,4,5,6,7,8,9,10,11,12,13,14,15,16,17,18,19,20,21,22,23,24,25,26,27,28,29,30,31,32,33,34,35,36,37,38,39,40,41,42,43,44,45,46,47,48,49,50,51,52,53]] mix (by kernel_rfl) ?_)) | ((with_reducible show DF _ _ _ _ _ _ _ _ _); first | (with_reducible refine DF.nil ?_) | ((with_reducible apply DF.step); (case ho => ((simp only [List.getElem?_toArray,get32,get8,get_0,get_1,get_2,get_3,get_4,get_5,get_6,get_7]); with_reducible rfl)); (case hs => ((try simp (maxSteps := 3000000) (maxDischargeDepth := 12) only [seval,push_cast,appendX,get32,get8,get_0,get_1,get_2,get_3,get_4,get_5,get_6,get_7,set32,set8,set_0,set_1,set_2,set_3,set_4,set_5,set_6,set_7,Try.results6,meC,mgC,gt4,Heap.lt gt4,dcl,dc0,dc1,dc4,dc5,dc6,dc7,dcge,dctm,dcb0,dcb1,dcb4,dcb5,dcb6,dcb7,dcw1,dcw4,dcw6,dcw7,dcw8,dcw9]); with_reducible rfl)); (case hp => ((try simp only [putD,set32,set8,set_0,set_1,set_2,set_3,set_4,set_5,set_6,set_7]); with_reducible rfl))) | ((with_reducible apply DF.heap hT); (case hoi => ((simp only [List.getElem?_toArray,get32,get8,get_0,get_1,get_2,get_3,get_4,get_5,get_6,get_7]); with_reducible rfl)); (case hg => rfl); (case hk => rfl); (case hr => ((try simp (maxSteps := 3000000) (maxDischargeDepth := 12) only [seval,push_cast,appendX,get32,get8,get_0,get_1,get_2,get_3,get_4,get_5,get_6,get_7,set32,set8,set_0,set_1,set_2,set_3,set_4,set_5,set_6,set_7,Try.results6,meC,mgC,gt4,Heap.lt gt4,dcl,dc0,dc1,dc4,dc5,dc6,dc7,dcge,dctm,dcb0,dcb1,dcb4,dcb5,dcb6,dcb7,dcw1,dcw4,dcw6,dcw7,dcw8,dcw9]); with_reducible rfl)); (case hl => (simp (maxSteps := 3000000) (maxDischargeDepth := 12) only [seval,push_cast,appendX,get32,get8,get_0,get_1,get_2,get_3,get_4,get_5,get_6,get_7,set32,set8,set_0,set_1,set_2,set_3,set_4,set_5,set_6,set_7,Try.results6,meC,mgC,gt4,Heap.lt gt4,dcl,dc0,dc1,dc4,dc5,dc6,dc7,dcge,dctm,dcb0,dcb1,dcb4,dcb5,dcb6,dcb7,dcw1,dcw4,dcw6,dcw7,dcw8,dcw9]; done)); (case hp => ((try simp only [putD,set32,set8,set_0,set_1,set_2,set_3,set_4,set_5,set_6,set_7]); with_reducible rfl)))) | ((with_reducible refine AW.cond_true ?_ ?_); · rfl) | ((with_reducible refine AW.cond_false ?_ ?_); · rfl) | simp (maxSteps := 3000000) (maxDischargeDepth := 12) only [seval,push_cast,appendX,get32,get8,get_0,get_1,get_2,get_3,get_4,get_5,get_6,get_7,set32,set8,set_0,set_1,set_2,set_3,set_4,set_5,set_6,set_7,Try.results6,meC,mgC,gt4,Heap.lt gt4,dcl,dc0,dc1,dc4,dc5,dc6,dc7,dcge,dctm,dcb0,dcb1,dcb4,dcb5,dcb6,dcb7,dcw1,dcw4,dcw6,dcw7,dcw8,dcw9])
theorem heads_ok (x : Ms) (h : wM x) : ACalls Try.prog 6 [.agg (eM x)] ⟨[]⟩ (fun y _ => y = .sc (.bool true)) := by
  rw [eM_eq]
  exact headsZ _ (fun hf => wM_wf h hf.1 hf.2)
end Go.Proofs.Ytgbeiiajgmfklaa.Cm
