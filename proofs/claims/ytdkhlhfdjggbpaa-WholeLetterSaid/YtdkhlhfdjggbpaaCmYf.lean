/- Drawn regions by steps, and lists read by strides: what keeps the kernel's work small. -/
import Derived.Test.YtdkhlhfdjggbpaaCmYl
namespace Go.Proofs.Ytdkhlhfdjggbpaa.Cm
open Go.RowKit
set_option linter.unusedVariables false
theorem get32 {α : Type} (a0 a1 a2 a3 a4 a5 a6 a7 a8 a9 a10 a11 a12 a13 a14 a15 a16 a17 a18 a19 a20 a21 a22 a23 a24 a25 a26 a27 a28 a29 a30 a31 : α) (l : List α) (n : Nat) : (a0 :: a1 :: a2 :: a3 :: a4 :: a5 :: a6 :: a7 :: a8 :: a9 :: a10 :: a11 :: a12 :: a13 :: a14 :: a15 :: a16 :: a17 :: a18 :: a19 :: a20 :: a21 :: a22 :: a23 :: a24 :: a25 :: a26 :: a27 :: a28 :: a29 :: a30 :: a31 :: l)[n + 32]? = l[n]? := rfl
theorem set32 {α : Type} (a0 a1 a2 a3 a4 a5 a6 a7 a8 a9 a10 a11 a12 a13 a14 a15 a16 a17 a18 a19 a20 a21 a22 a23 a24 a25 a26 a27 a28 a29 a30 a31 b : α) (l : List α) (n : Nat) : (a0 :: a1 :: a2 :: a3 :: a4 :: a5 :: a6 :: a7 :: a8 :: a9 :: a10 :: a11 :: a12 :: a13 :: a14 :: a15 :: a16 :: a17 :: a18 :: a19 :: a20 :: a21 :: a22 :: a23 :: a24 :: a25 :: a26 :: a27 :: a28 :: a29 :: a30 :: a31 :: l).set (n + 32) b = a0 :: a1 :: a2 :: a3 :: a4 :: a5 :: a6 :: a7 :: a8 :: a9 :: a10 :: a11 :: a12 :: a13 :: a14 :: a15 :: a16 :: a17 :: a18 :: a19 :: a20 :: a21 :: a22 :: a23 :: a24 :: a25 :: a26 :: a27 :: a28 :: a29 :: a30 :: a31 :: l.set n b := rfl
theorem get8 {α : Type} (a0 a1 a2 a3 a4 a5 a6 a7 : α) (l : List α) (n : Nat) : (a0 :: a1 :: a2 :: a3 :: a4 :: a5 :: a6 :: a7 :: l)[n + 8]? = l[n]? := rfl
theorem set8 {α : Type} (a0 a1 a2 a3 a4 a5 a6 a7 b : α) (l : List α) (n : Nat) : (a0 :: a1 :: a2 :: a3 :: a4 :: a5 :: a6 :: a7 :: l).set (n + 8) b = a0 :: a1 :: a2 :: a3 :: a4 :: a5 :: a6 :: a7 :: l.set n b := rfl
theorem get_0 {α : Type} (a0 : α) (l : List α) : (a0 :: l)[0]? = some a0 := rfl
theorem set_0 {α : Type} (a0 b : α) (l : List α) : (a0 :: l).set 0 b = b :: l := rfl
theorem get_1 {α : Type} (a0 a1 : α) (l : List α) : (a0 :: a1 :: l)[1]? = some a1 := rfl
theorem set_1 {α : Type} (a0 a1 b : α) (l : List α) : (a0 :: a1 :: l).set 1 b = a0 :: b :: l := rfl
theorem get_2 {α : Type} (a0 a1 a2 : α) (l : List α) : (a0 :: a1 :: a2 :: l)[2]? = some a2 := rfl
theorem set_2 {α : Type} (a0 a1 a2 b : α) (l : List α) : (a0 :: a1 :: a2 :: l).set 2 b = a0 :: a1 :: b :: l := rfl
theorem get_3 {α : Type} (a0 a1 a2 a3 : α) (l : List α) : (a0 :: a1 :: a2 :: a3 :: l)[3]? = some a3 := rfl
theorem set_3 {α : Type} (a0 a1 a2 a3 b : α) (l : List α) : (a0 :: a1 :: a2 :: a3 :: l).set 3 b = a0 :: a1 :: a2 :: b :: l := rfl
theorem get_4 {α : Type} (a0 a1 a2 a3 a4 : α) (l : List α) : (a0 :: a1 :: a2 :: a3 :: a4 :: l)[4]? = some a4 := rfl
theorem set_4 {α : Type} (a0 a1 a2 a3 a4 b : α) (l : List α) : (a0 :: a1 :: a2 :: a3 :: a4 :: l).set 4 b = a0 :: a1 :: a2 :: a3 :: b :: l := rfl
theorem get_5 {α : Type} (a0 a1 a2 a3 a4 a5 : α) (l : List α) : (a0 :: a1 :: a2 :: a3 :: a4 :: a5 :: l)[5]? = some a5 := rfl
theorem set_5 {α : Type} (a0 a1 a2 a3 a4 a5 b : α) (l : List α) : (a0 :: a1 :: a2 :: a3 :: a4 :: a5 :: l).set 5 b = a0 :: a1 :: a2 :: a3 :: a4 :: b :: l := rfl
theorem get_6 {α : Type} (a0 a1 a2 a3 a4 a5 a6 : α) (l : List α) : (a0 :: a1 :: a2 :: a3 :: a4 :: a5 :: a6 :: l)[6]? = some a6 := rfl
theorem set_6 {α : Type} (a0 a1 a2 a3 a4 a5 a6 b : α) (l : List α) : (a0 :: a1 :: a2 :: a3 :: a4 :: a5 :: a6 :: l).set 6 b = a0 :: a1 :: a2 :: a3 :: a4 :: a5 :: b :: l := rfl
theorem get_7 {α : Type} (a0 a1 a2 a3 a4 a5 a6 a7 : α) (l : List α) : (a0 :: a1 :: a2 :: a3 :: a4 :: a5 :: a6 :: a7 :: l)[7]? = some a7 := rfl
theorem set_7 {α : Type} (a0 a1 a2 a3 a4 a5 a6 a7 b : α) (l : List α) : (a0 :: a1 :: a2 :: a3 :: a4 :: a5 :: a6 :: a7 :: l).set 7 b = a0 :: a1 :: a2 :: a3 :: a4 :: a5 :: a6 :: b :: l := rfl
section
variable {P : Program} {T : Tab} {ops : Array Oper} {B : List (List Nat)} {rest fl fl' : List Nat} {ts ts' : List DV} {σ : Heap} {K : List DV → Heap → Prop} {i : Nat} {o : Oper} {x : DV}
/-- What is left of a region that draws its order. -/
structure DF (P : Program) (T : Tab) (ops : Array Oper) (B : List (List Nat)) (sched fl : List Nat) (ts : List DV) (σ : Heap) (K : List DV → Heap → Prop) : Prop where
  h : dfin P T ops B (drun T ops sched fl ts σ) σ K
theorem DF.nil (h : K ts σ) : DF P T ops B [] fl ts σ K := ⟨h⟩
theorem DF.step (ho : ops[i]? = some o) (hs : dstep T ops i o fl ts σ = some (fl', x)) (hp : putD ts o.dst x = ts') (h : DF P T ops B rest fl' ts' σ K) : DF P T ops B (i :: rest) fl ts σ K := by
  refine ⟨?_⟩
  unfold drun
  rw [ho]
  simp only [hs, hp]
  exact h.h
theorem DF.core (ho : ops[i]? = some o) (hs : dstep T ops i o fl ts σ = none) (h : DLeft P T ops B (i :: rest) fl ts σ K) : DF P T ops B (i :: rest) fl ts σ K := by
  refine ⟨?_⟩
  unfold drun
  rw [ho]
  simp only [hs]
  exact h
theorem dstep_core (hg : gon ops ts o.guard = some true) (hk : kindOf T o.op = .core) : dstep T ops i o fl ts σ = none := by
  unfold dstep
  rw [hg]
  simp only [hk]
theorem DF.call {cal : Operand} {ars : Array Operand} {at_ : Array TypeId} {f : FuncId} {first cap ds : List DV} (hoi : ops[i]? = some o) (hg : gon ops ts o.guard = some true)
    (ho : o.op = .call { callee := .value cal, args := ars, argTypes := at_ }) (hc : Cm.eval ts cal = some (.fn (.func f) first cap)) (hf : FnOk P f) (has : evalL ts ars.toList = some ds)
    (h : ACalls P f (first ++ ds ++ cap) σ (fun x σ' => lateL T ops B i ts σ' fl ∧ DF P T ops B rest fl (putD ts o.dst x) σ' K)) : DF P T ops B (i :: rest) fl ts σ K :=
  .core hoi (dstep_core hg (by rw [ho]; rfl)) (DLeft.call hoi hg ho hc hf has (h.mono (fun x σ' hh => ⟨hh.1, hh.2.h⟩)))
theorem DF.heap (hT : TOk P T) {r : DV × Heap} (hoi : ops[i]? = some o) (hg : gon ops ts o.guard = some true) (hk : kindOf T o.op = .core) (hr : aop T o ts σ = some r) (hl : lateL T ops B i ts r.2 fl) (hp : putD ts o.dst r.1 = ts') (h : DF P T ops B rest fl ts' r.2 K) : DF P T ops B (i :: rest) fl ts σ K :=
  .core hoi (dstep_core hg hk) (DLeft.step hT hoi hg hk hr ⟨hl, by rw [hp]; exact h.h⟩)
/-- The slots, told anew. -/
theorem DF.put (hp : ts = ts') (h : DF P T ops B rest fl ts' σ K) : DF P T ops B rest fl ts σ K := by rw [hp]; exact h
end
end Go.Proofs.Ytdkhlhfdjggbpaa.Cm
