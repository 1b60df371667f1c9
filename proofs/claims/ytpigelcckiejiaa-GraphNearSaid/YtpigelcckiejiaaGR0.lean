/- Which nodes can be come to: plain. -/
import Derived.Test.YtpigelcckiejiaaGS2
import Derived.Test.YtpigelcckiejiaaCmQ
namespace Go.Proofs.Ytpigelcckiejiaa.Cm
open Go.RowKit
set_option linter.unusedVariables false
set_option linter.unusedSimpArgs false
set_option maxRecDepth 20000
inductive Rc (l : List Lk) (a : Int) : Int → Prop
  | start : Rc l a a
  | step {x : Lk} : x ∈ l → Rc l a x.f0 → Rc l a x.f1
def eB (b : Bool) : List DV := [.sc (.bool b)]
/-- What a Reach answers. -/
def RchOk (n : Int) (l : List Lk) (a : Int) (out : List Bool) : Prop := (¬ (chk n l = 0 ∧ 0 ≤ a ∧ a < n) → out = []) ∧ (chk n l = 0 ∧ 0 ≤ a ∧ a < n → (out.length : Int) = n ∧ ∀ v : Nat, out[v]? = some true ↔ (v : Int) < n ∧ Rc l a v)
theorem RchOk.one {n : Int} {l : List Lk} {a : Int} {x y : List Bool} (hx : RchOk n l a x) (hy : RchOk n l a y) : x = y := by
  by_cases h : chk n l = 0 ∧ 0 ≤ a ∧ a < n
  · obtain ⟨x1, x2⟩ := hx.2 h
    obtain ⟨y1, y2⟩ := hy.2 h
    apply List.ext_getElem (by omega)
    intro i h1 h2
    have hxi := x2 i
    have hyi := y2 i
    rw [List.getElem?_eq_getElem h1] at hxi
    rw [List.getElem?_eq_getElem h2] at hyi
    simp only [Option.some.injEq] at hxi hyi
    cases hb : x[i] with
    | true => exact (hyi.2 (hxi.1 hb)).symm
    | false =>
      cases hc : y[i] with
      | false => rfl
      | true => rw [hxi.2 (hyi.1 hc)] at hb; cases hb
  · rw [hx.1 h, hy.1 h]
theorem ck_of {n : Int} {l : List Lk} (h : chk n l = 0) : ckOk n l ∧ 1 ≤ n ∧ n ≤ 16 ∧ l.length ≤ 64 := by
  unfold chk at h
  split at h
  · cases h
  · split at h
    · cases h
    · split at h
      · rename_i h1 h2 h3; exact ⟨h3, by omega, by omega, by omega⟩
      · cases h
theorem nodup_lt : ∀ (n : Nat) (L : List Nat), L.Nodup → (∀ x ∈ L, x < n) → L.length ≤ n
  | 0, L, _, h => by
    cases L with
    | nil => simp
    | cons x L => have := h x (by simp); omega
  | n + 1, L, hn, h => by
    have key : ∀ M : List Nat, M.Nodup → M.length ≤ (M.filter (fun x => decide (x ≠ n))).length + 1 := by
      intro M
      induction M with
      | nil => simp
      | cons x M ih =>
        intro hM
        obtain ⟨h1, h2⟩ := List.nodup_cons.1 hM
        by_cases hx : x = n
        · subst hx
          have : M.filter (fun y => decide (y ≠ x)) = M := List.filter_eq_self.2 (fun y hy => by simp; rintro rfl; exact h1 hy)
          rw [List.filter_cons_of_neg (by simp), this]; simp
        · rw [List.filter_cons_of_pos (by simpa using hx)]
          have := ih h2
          simp only [List.length_cons]; omega
    have h1 := key L hn
    have h2 := nodup_lt n (L.filter (fun x => decide (x ≠ n))) (hn.sublist List.filter_sublist) (fun x hx => by
      obtain ⟨h3, h4⟩ := List.mem_filter.1 hx
      have := h x h3
      simp at h4; omega)
    omega
theorem mem_outsI (l : List Lk) (v : Int) : ∀ i k, k ∈ outsI l v i ↔ k < i ∧ ∃ x, l[k]? = some x ∧ x.f0 = v
  | 0, k => by simp [outsI]
  | i + 1, k => by
    rw [outsI, List.mem_append, mem_outsI l v i k]
    constructor
    · rintro (⟨h1, h2⟩ | h)
      · exact ⟨by omega, h2⟩
      · split at h
        · rename_i x hx
          split at h
          · rename_i hv
            simp at h; subst h
            exact ⟨by omega, x, hx, hv⟩
          · cases h
        · cases h
    · rintro ⟨h1, x, hx, hv⟩
      by_cases hk : k < i
      · exact .inl ⟨hk, x, hx, hv⟩
      · right
        have : k = i := by omega
        subst this
        rw [hx]; simp [hv]
/-- Few links lead from a node of a network that may be. -/
theorem outs_few {n : Int} {l : List Lk} (h : chk n l = 0) (v : Int) : (outsI l v l.length).length < 20 := by
  obtain ⟨⟨h1, h2⟩, _, h16, _⟩ := ck_of h
  have hm : ((outsI l v l.length).map (fun k => (key l k).toNat)).length ≤ 16 := by
    refine nodup_lt 16 _ ?_ ?_
    · rw [List.Nodup, List.pairwise_map]
      refine (outsI_sorted l v l.length).imp_of_mem (fun {a b} ha hb hab he => ?_)
      obtain ⟨_, x, hx, hxv⟩ := (mem_outsI l v _ a).1 ha
      obtain ⟨_, y, hy, hyv⟩ := (mem_outsI l v _ b).1 hb
      obtain ⟨ha2, hax⟩ := List.getElem?_eq_some_iff.1 hx
      obtain ⟨hb2, hbx⟩ := List.getElem?_eq_some_iff.1 hy
      have hp := List.pairwise_iff_getElem.1 h2 a b ha2 hb2 hab
      have hkx : key l a = x.f1 := by simp [key, hx]
      have hky : key l b = y.f1 := by simp [key, hy]
      have lx := h1 x (List.mem_of_getElem? hx)
      have ly := h1 y (List.mem_of_getElem? hy)
      rw [hax, hbx] at hp
      rw [hkx, hky] at he
      unfold lkOk at lx ly
      exact hp ⟨by rw [hxv, hyv], by omega⟩
    · intro k hk
      obtain ⟨a, ha, rfl⟩ := List.mem_map.1 hk
      obtain ⟨_, x, hx, hxv⟩ := (mem_outsI l v _ a).1 ha
      have lx := h1 x (List.mem_of_getElem? hx)
      have hkx : key l a = x.f1 := by simp [key, hx]
      rw [hkx]; unfold lkOk at lx; omega
  rw [List.length_map] at hm
  omega
def cntF (out : List Bool) : Nat := out.count false
theorem cntF_set {out : List Bool} {v : Nat} (h : out[v]? = some false) : cntF (out.set v true) + 1 = cntF out := by
  obtain ⟨hv, hx⟩ := List.getElem?_eq_some_iff.1 h
  induction out generalizing v with
  | nil => simp at hv
  | cons b out ih =>
    cases v with
    | zero =>
      simp at hx; subst hx
      simp [cntF]
    | succ v =>
      have := ih (v := v) (by simpa using h) (by simpa using hv) (by simpa using hx)
      simp only [cntF, List.set_cons_succ, List.count_cons] at this ⊢
      omega
/-- What holds of the marks and of those that are still to do. -/
def BF (l : List Lk) (a : Int) (out : List Bool) (todo more : List Nat) : Prop :=
  (∀ v : Nat, out[v]? = some true → Rc l a v) ∧ out[a.toNat]? = some true ∧ (∀ v ∈ todo, out[v]? = some true) ∧ ∀ k x, l[k]? = some x → out[x.f0.toNat]? = some true → x.f0.toNat ∈ todo ∨ out[x.f1.toNat]? = some true ∨ k ∈ more
theorem BF.close {n : Int} {l : List Lk} {a : Int} {out : List Bool} (h : BF l a out [] []) (hc : chk n l = 0) (ha : 0 ≤ a ∧ a < n) (hl : (out.length : Int) = n) : RchOk n l a out := by
  obtain ⟨h1, h2, _, h4⟩ := h
  obtain ⟨⟨hk, _⟩, _⟩ := ck_of hc
  refine ⟨fun hn => absurd ⟨hc, ha.1, ha.2⟩ hn, fun _ => ⟨hl, fun v => ⟨fun hv => ⟨?_, h1 v hv⟩, fun hv => ?_⟩⟩⟩
  · obtain ⟨hlt, _⟩ := List.getElem?_eq_some_iff.1 hv
    omega
  · have key : ∀ w, Rc l a w → out[w.toNat]? = some true := by
      intro w hw
      induction hw with
      | start => exact h2
      | step hx _ ih =>
        obtain ⟨k, hkx⟩ := List.mem_iff_getElem?.1 hx
        rcases h4 k _ hkx ih with h | h | h
        · cases h
        · exact h
        · cases h
    simpa using key v hv.2
end Go.Proofs.Ytpigelcckiejiaa.Cm
