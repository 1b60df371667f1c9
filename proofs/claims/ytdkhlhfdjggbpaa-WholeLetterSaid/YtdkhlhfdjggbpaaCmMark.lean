import Derived.Test.YtdkhlhfdjggbpaaCmOp3
set_option linter.unusedVariables false
set_option linter.unusedSimpArgs false
namespace Go.Proofs.Ytdkhlhfdjggbpaa.Cm
open Go.RowKit

theorem freeze_other {w : World} {a : Addr} {n b : Nat} (hb : b ≠ a.block) : (w.freeze a n).heap[b]? = w.heap[b]? := by
  unfold World.freeze
  split
  · rfl
  · show (w.heap.modify a.block _)[b]? = _
    rw [Array.getElem?_modify, if_neg (Ne.symm hb)]
theorem freeze_block {w : World} {a : Addr} {cur : Array Value} {e : TypeId} (h : w.heap[a.block]? = some (.cells cur e (0, 0))) : (w.freeze a 1).heap[a.block]? = some (.cells cur e (a.off, a.off + 1)) := by
  unfold World.freeze
  rw [if_neg (by decide)]
  show (w.heap.modify a.block _)[a.block]? = _
  rw [Array.getElem?_modify, if_pos rfl, h]; rfl
theorem freeze_size {w : World} {a : Addr} {n : Nat} : (w.freeze a n).heap.size = w.heap.size := by
  unfold World.freeze
  split
  · rfl
  · show (w.heap.modify a.block _).size = _
    exact Array.size_modify
/-- A row's block gets the run-time's mark, and is written no more. -/
theorem mark {P : Program} {c : Cf} (hok : Ok P c) {t : Nat} {o : AObj} (ho : c.σ.get t = some o) (hown : o.own = true) (k : Nat) :
    Ok P { σ := c.σ.set t { o with own := false }, μ := c.μ, Z := fun b => c.Z b ∨ b = (c.μ t).blk, w := c.w.freeze ⟨(c.μ t).blk, k, none⟩ 1 } ∧ Ev c { σ := c.σ.set t { o with own := false }, μ := c.μ, Z := fun b => c.Z b ∨ b = (c.μ t).blk, w := c.w.freeze ⟨(c.μ t).blk, k, none⟩ 1 } := by
  have ht := Heap.lt ho
  obtain ⟨cur0, fr0, hc0, hz0, hz0', hs0, hm0, hp0, hi0, hl0, ho0, hes0, hv0⟩ := hok.row ho (isSome_of hown)
  have hln : AObj.ln { o with own := false } = o.ln := by rw [AObj.ln_row (isSome_of hown)]; rfl
  obtain ⟨rfl, hZ0⟩ := hz0 hown
  have hev : Ev c { σ := c.σ.set t { o with own := false }, μ := c.μ, Z := fun b => c.Z b ∨ b = (c.μ t).blk, w := c.w.freeze ⟨(c.μ t).blk, k, none⟩ 1 } := by
    refine ⟨by simp, fun s hs => ?_, fun s m lc hs hm hgl => ?_, fun b hb => .inl hb, fun b hb => freeze_other (fun e => by simp only at e; subst e; exact hZ0 hb), by rw [freeze_size]; exact Nat.le_refl _, rfl, rfl, rfl⟩
    · by_cases hst : s = t
      · subst hst; simp [Cf.len, ho, Heap.get_set ht, hln]
      · simp only [Cf.len]; rw [Heap.get_set_ne (Ne.symm hst)]; exact Nat.le_refl _
    · by_cases hst : s = t
      · subst hst; simp only [Cf.G, Heap.get_set ht, hln] at hgl; simp only [Cf.G, ho]; exact hgl
      · simp only [Cf.G] at hgl ⊢; rw [Heap.get_set_ne (Ne.symm hst)] at hgl; exact hgl
  have hlt : ∀ s os, c.σ.get s = some os → (c.μ s).blk < c.w.heap.size := fun s os h => (hok.obj s os h).lt
  refine ⟨⟨fun s os hs => ?_, fun t1 t2 o1 o2 h1' h2 hw hne => ?_, fun b hb => ?_⟩, hev⟩
  · by_cases hst : s = t
    · subst hst
      simp only [Heap.get_set ht, Option.some.injEq] at hs
      subst hs
      refine RowOk.obj ?_ rfl
      exact ⟨cur0, _, freeze_block (a := ⟨(c.μ s).blk, k, none⟩) hc0, fun h => by simp at h, fun _ => .inr rfl, hs0, hm0, hp0, hi0, hl0, ho0, hes0, fun i j el x hi hx => by obtain ⟨u, hu, hvu⟩ := hv0 i j el x hi hx; exact ⟨u, hu, hvu.ev hev⟩⟩
    · simp only [Heap.get_set_ne (Ne.symm hst)] at hs
      have hbne : (c.μ s).blk ≠ (c.μ t).blk := fun e => hok.inj t s o os ho hs (ne_false_of hown) (Ne.symm hst) e.symm
      refine (hok.obj s os hs).keep hev rfl (freeze_other hbne) (fun _ h => ?_)
      rintro (h2 | h2)
      · exact h h2
      · exact hbne h2
  · have hget : ∀ s os, (c.σ.set t { o with own := false }).get s = some os → ∃ os', c.σ.get s = some os' ∧ (os.own ≠ some false → os'.own ≠ some false ∧ s ≠ t) := fun s os h => by
      by_cases hst : s = t
      · subst hst
        simp only [Heap.get_set ht, Option.some.injEq] at h
        subst h
        exact ⟨o, ho, fun h => by simp at h⟩
      · rw [Heap.get_set_ne (Ne.symm hst)] at h; exact ⟨os, h, fun h' => ⟨h', hst⟩⟩
    obtain ⟨o1', g1, k1⟩ := hget t1 o1 h1'
    obtain ⟨o2', g2, k2⟩ := hget t2 o2 h2
    exact hok.inj t1 t2 o1' o2' g1 g2 (k1 hw).1 hne
  · show b < (c.w.freeze _ 1).heap.size
    rw [freeze_size]
    rcases hb with hb | rfl
    · exact hok.zlt b hb
    · exact hlt t o ho

section
variable {P : Program} {T : Tab} {o : Oper} {ts : List DV} {σ : Heap} {K : DV → Heap → Prop}
/-- A literal's bytes, converted to their own type: marked. -/
def markD (T : Tab) (σ : Heap) (src dst : TypeId) (x : DV) : Option (DV × Heap) :=
  match T src with
  | some ⟨.slice e, _, _, _⟩ => if src = dst then (match T e, x with
    | some ⟨.int .u8, _, _, _⟩, .sl t off len m => (match getO σ t m with
      | some o => if off = 0 ∧ len = m ∧ o.own = true then some (.imm o.els, σ.set t { o with own := false }) else none
      | none => none)
    | _, _ => none) else none
  | _ => none
theorem AOp.mark (hT : TOk P T) {src dst : TypeId} {x : Operand} {d : DV} {r : DV × Heap} (ho : o.op = .convert src dst x) (hx : Cm.eval ts x = some d) (hf : markD T σ src dst d = some r) (hK : K r.1 r.2) : AOp P o ts σ K := by
  refine AOp.run (fun c hc hσ a hTR => ?_)
  subst hσ
  have hvx := hTR.eval hx
  unfold markD at hf
  split at hf
  · rename_i e s0 b0 z0 hty
    have hd := (hT _ _ hty).desc
    simp only [descOk] at hd
    split at hf
    · rename_i hsd
      subst hsd
      split at hf
      · rename_i s1 b1 z1 t off len m he
        have hde := (hT _ _ he).desc
        simp only [descOk] at hde
        split at hf
        · rename_i ob hob0
          obtain ⟨hob, hm, hrw⟩ := getO_eq hob0
          split at hf
          · rename_i hcond
            obtain ⟨rfl, rfl, hown⟩ := hcond
            cases hf
            obtain ⟨cur, fr, hcur, hz, _, hcs, hcm1, hp1, hiz1, hle, h1c, hes, hcv⟩ := hc.row hob hrw
            have hG : c.G t len = some (c.μ t) := by rw [← hm]; exact Cf.G_of hob hrw
            generalize hsv : a.eval x = sv at hvx
            have hvs' := hvx
            cases hvx with
            | sl ht2 hmm hcl h' =>
              rename_i ad0 cp0
              obtain ⟨ha0, hcap0⟩ : ad0 = ⟨(c.μ t).blk, 0, none⟩ ∧ cp0 = (c.μ t).cap := by
                rcases h' _ hG with ⟨h2, h3⟩ | ⟨_, _, h4⟩
                · exact ⟨by simpa using h2, by omega⟩
                · exact absurd rfl h4
              obtain ⟨h1, h2⟩ := Cm.mark hc hob hown cur.size
              have hsh : c.w.shape? (c.μ t).blk = some (ob.e, cur.size) := by unfold World.shape?; rw [hcur]
              refine ⟨.slice (some ad0) len cp0, .imm ob.els, _, ?_, h1, h2, ?_, hK⟩
              · simp only [execOp, ho, hsv]
                subst ha0
                rw [Sem.run_bind]
                have : (convert src src (.slice (some ⟨(c.μ t).blk, 0, none⟩) len cp0)).run P c.w = .ok (.slice (some ⟨(c.μ t).blk, 0, none⟩) len cp0) (c.w.freeze ⟨(c.μ t).blk, cur.size, none⟩ 1) := by
                  simp [convert, run_underlying hd, run_underlying hde, markStringish, hsh]
                rw [this]; rfl
              · exact FZ.v h1 (ob := { ob with own := false }) (Heap.get_set (Heap.lt hob)) hm (.inr rfl) (FZ.all rfl) (hvs'.ev h2)
          · cases hf
        · cases hf
      · cases hf
    · cases hf
  · cases hf
end
end Go.Proofs.Ytdkhlhfdjggbpaa.Cm
