/- Values with methods: they are made, and a method of one whose own type is told is called. -/
import Derived.Test.YtdkhlhfdjggbpaaCmYl
namespace Go.Proofs.Ytdkhlhfdjggbpaa.Cm
open Go.RowKit
set_option linter.unusedVariables false
set_option linter.unusedSimpArgs false
section
variable {P : Program} {T : Tab} {o : Oper} {ts : List DV} {σ : Heap} {K : DV → Heap → Prop}
/-- A pointer behind an interface. -/
theorem AOp.makeIface {xt e : TypeId} {x : Operand} {d : DV} (ho : o.op = .makeInterface xt x) (hx : Cm.eval ts x = some d) (hu : P.underlying xt = some (.pointer e)) (hK : K (.ifc xt d) σ) : AOp P o ts σ K := by
  refine AOp.val (fun c hc hσ a hTR => ?_) hK
  refine ⟨.iface xt (a.eval x), ?_, .ifc (hTR.eval hx)⟩
  simp [execOp, ho, Instr.makeInterface, run_underlying hu]
/-- The method that a value of this type has. -/
def Meth (P : Program) (ty : TypeId) (name : String) (f : FuncId) : Prop := ∀ (v : Value) (args : Array Value) (w : World), (callMethod (.iface ty v) name args).run P w = .ok (.enter f (#[v] ++ args)) w
theorem AOp.invoke {recv : Operand} {name : String} {ars : Array Operand} {at_ : Array TypeId} {ty : TypeId} {f : FuncId} {x : DV} {ds : List DV} (ho : o.op = .call { callee := .invoke recv name, args := ars, argTypes := at_ }) (hc : Cm.eval ts recv = some (.ifc ty x)) (hm : Meth P ty name f)
    (has : evalL ts ars.toList = some ds) (h : ACalls P f (x :: ds) σ K) : AOp P o ts σ K := by
  intro c hok hσ a hTR next Q hn
  have hv := hTR.eval hc
  generalize hax : a.eval recv = ax at hv
  cases hv with
  | ifc hvx =>
    rename_i u
    have hvl := evalL_VL hTR has
    have hcalls := h c hok hσ _ (VL.cons hvx hvl)
    unfold Oper.wp
    have hr : (execOp a.eval o).run P c.w = .ok (.enter f (u :: ars.toList.map a.eval).toArray) c.w := by
      have he : (u :: ars.toList.map a.eval).toArray = #[u] ++ ars.map a.eval := by
        apply Array.ext'; simp
      rw [he]
      have h2 := hm u (ars.map a.eval) c.w
      have h3 : ((#[Value.iface ty u] ++ ars.map a.eval)[0]? : Option Value) = some (.iface ty u) := by rw [Array.getElem?_append_left (by simp)]; rfl
      have h4 : (#[Value.iface ty u] ++ ars.map a.eval).extract 1 (#[Value.iface ty u] ++ ars.map a.eval).size = ars.map a.eval := by
        apply Array.ext'
        simp only [Array.toList_extract, Array.toList_append, List.extract_eq_take_drop, Array.toList_map]
        simp
        rw [List.take_of_length_le (by simp)]
      simp only [execOp, ho, resolve, hax, Sem.run_bind, Sem.run_pure, Result.andThen_ok, Go.invoke]
      rw [h3]
      simp only [h4]
      exact h2
    rw [hr, Oper.upon_enter]
    refine hcalls.mono fun e w' hh => ?_
    obtain ⟨v, x, c', rfl, rfl, h3, h4, h5, h6⟩ := hh
    exact hn v x c' h3 h4 h5 h6
theorem AOpA.invoke {recv : Operand} {name : String} {ars : Array Operand} {at_ : Array TypeId} {ty : TypeId} {f : FuncId} {x : DV} {ds : List DV} (ho : o.op = .call { callee := .invoke recv name, args := ars, argTypes := at_ }) (hc : Cm.eval ts recv = some (.ifc ty x)) (hm : Meth P ty name f)
    (has : evalL ts ars.toList = some ds) (h : ACalls P f (x :: ds) σ K) : AOpA P o ts σ K := by
  intro ts' he
  rw [ho] at he
  simp only [Op.operands, Call.operands] at he
  exact AOp.invoke ho ((he recv (by simp)).trans hc) hm ((evalL_congr (fun x hx => he x (by simp [hx]))).trans has) h
end
section
variable {P : Program} {T : Tab} {σ : Heap} {ops : Array Oper} {B : List (List Nat)}
/-- The next step of the heap is the call of a method. -/
theorem DLeft.invoke {i : Nat} {rest fl : List Nat} {ts : List DV} {K : List DV → Heap → Prop} {oi : Oper} {recv : Operand} {name : String} {ars : Array Operand} {at_ : Array TypeId} {ty : TypeId} {f : FuncId} {y : DV} {ds : List DV} (hoi : ops[i]? = some oi) (hg : gon ops ts oi.guard = some true)
    (ho : oi.op = .call { callee := .invoke recv name, args := ars, argTypes := at_ }) (hc : Cm.eval ts recv = some (.ifc ty y)) (hm : Meth P ty name f) (has : evalL ts ars.toList = some ds)
    (h : ACalls P f (y :: ds) σ (fun x σ' => lateL T ops B i ts σ' fl ∧ dfin P T ops B (drun T ops rest fl (putD ts oi.dst x) σ') σ' K)) : DLeft P T ops B (i :: rest) fl ts σ K := by
  unfold DLeft dops
  rw [hoi]
  simp only [hg]
  have hk : kindOf T oi.op = .core := by rw [ho]; rfl
  rw [hk]
  exact AOpA.invoke ho hc hm has (h.mono (fun x σ' hh => ⟨hh.1, dfin_ok hh.2⟩))
end
end Go.Proofs.Ytdkhlhfdjggbpaa.Cm
