/- slices.Sort at ints: the shelf's contract, told of the told heap. -/
import Derived.Test.YthdamnemoaaigaaCmLib3
import Derived.Shelf.Lay
import Derived.Shelf.Sort.Plain
import Derived.Sort.OwnSortedInts
import Derived.Shelf.Slices.In.SortNone
import Derived.Ground.NamesProg
namespace Go.Proofs
open Go.Shelf
shelf_lay Lays.n189 Nm 189 at Try as Try.lays189
end Go.Proofs
namespace Go.Proofs.Ythdamnemoaaigaa.Cm
open Go.RowKit
set_option linter.unusedVariables false
set_option linter.unusedSimpArgs false
open Go.Sort in
theorem slices_Sort_int (blk off cap : Nat) (zs : List Int) (w : World) (hH : Holds (Value.int .i64) w blk off zs.toArray) (hblk : blk < w.heap.size) (hsz : zs.length < 4611686018427387904) :
    Calls Try.prog 22 #[.slice (some ⟨blk, off, none⟩) zs.length cap] w fun e w' =>
      e = .returned (.tuple #[]) ∧ ∃ n os, w' = grow (putRow (Value.int .i64) (Sort.ahead w n) blk off (zs.mergeSort fun x y => decide (x ≤ y)).toArray) os := Any.slices_Sort_int Try.lays189 blk off cap zs w hH hblk hsz
def eZ' (z : Int) : List DV := [.sc (.int .i64 z)]
open Go.Sort in
theorem sortI_ok (σ : Heap) {t : Nat} (zs : List Int) (C : List (List DV)) (n m0 : Nat) (hn : n = zs.length) (hm : m0 = zs.length + C.length) (gt : σ.get t = some ⟨zs.map eZ' ++ C, 3, true⟩) (hb : n ≤ 1000000) :
    ACalls Try.prog 22 [.sl t 0 n m0] σ (fun y σ' => σ' = σ.set t ⟨(zs.mergeSort fun x y => decide (x ≤ y)).map eZ' ++ C, 3, true⟩) := by
  intro c hc hσ vs hvs
  subst hσ
  obtain ⟨v, rfl⟩ : ∃ v, vs = [v] := List.length_eq_one_iff.1 hvs.1
  have hv := hvs.2 0 _ v rfl rfl
  obtain ⟨cur, fr, hcur, hz, _, hcs, hcm, hp, hi, hle, h1c, hes, hcv⟩ := hc.row gt rfl
  obtain ⟨rfl, hZ⟩ := hz rfl
  simp only at hcur hi hle hes hcv
  have hlt : (c.μ t).blk < c.w.heap.size := (hc.obj t _ gt).lt
  have hG : c.G t m0 = some (c.μ t) := by
    have := Cf.G_of gt rfl
    simp only [List.length_append, List.length_map, ← hm] at this
    exact this
  have hsz1 : zs ≠ [] → (c.μ t).sz = 1 := by
    intro hne
    obtain ⟨z, zs', rfl⟩ := List.exists_cons_of_ne_nil hne
    exact (hes (eZ' z) (by simp)).symm
  have hall : ∀ (i : Nat) (hi : i < zs.length), cur[i]? = some (.int .i64 zs[i]) := by
    intro i hil
    have hne : zs ≠ [] := by intro e; rw [e] at hil; simp at hil
    have h := hcv i 0 (eZ' zs[i]) (.sc (.int .i64 zs[i])) (by rw [List.getElem?_append_left (by simpa using hil)]; simp [hil]) rfl
    obtain ⟨u, hu, hvu⟩ := h
    rw [hsz1 hne] at hu
    cases hvu
    simpa using hu
  have hH : Holds (Value.int .i64) c.w (c.μ t).blk 0 zs.toArray := by
    intro j hj
    have hj' : j < zs.length := by simpa using hj
    refine ⟨?_, by simp [World.frozen?, hcur]⟩
    simp only [World.cell?, hcur, Nat.zero_add]
    rw [if_neg (by simp), hall j hj']
    simp [hj']
  have hcap : zs.length ≤ cur.size := by
    by_cases hne : zs = []
    · rw [hne]; simp
    · rw [hcs, hsz1 hne, Nat.mul_one]
      rw [List.length_append, List.length_map] at hle; omega
  cases hv with
  | sl ht2 hmm hcl h' =>
    rename_i ad0 cp0
    obtain rfl : ad0 = ⟨(c.μ t).blk, 0, none⟩ := by
      rcases h' _ hG with ⟨h2, h3⟩ | ⟨_, _, h4⟩
      · simpa using h2
      · exact absurd rfl h4
    subst hn
    refine (slices_Sort_int (c.μ t).blk 0 cp0 zs c.w hH hlt (by omega)).mono ?_
    rintro e w' ⟨rfl, k, os, rfl⟩
    have hsl : (zs.mergeSort fun x y => decide (x ≤ y)).length = zs.length := List.length_mergeSort _
    generalize hss : (zs.mergeSort fun x y => decide (x ≤ y)) = ss at hsl
    have hp1 : ∀ (i : Nat) (hi : i < zs.length), (putCells (Value.int .i64) 0 ss.toArray cur)[i]? = some (.int .i64 (ss[i]'(by omega))) := by
      intro i hil
      have hic : i < cur.size := by omega
      simp [putCells, Array.getElem?_mapIdx, hic, hsl, hil]
    have hp2 : ∀ (i : Nat), zs.length ≤ i → (putCells (Value.int .i64) 0 ss.toArray cur)[i]? = cur[i]? := by
      intro i hil
      simp only [putCells, Array.getElem?_mapIdx, Nat.zero_le, true_and, Nat.zero_add, List.size_toArray, hsl]
      have hni : ¬ i < zs.length := by omega
      simp only [hni, if_false]
      cases cur[i]? <;> rfl
    obtain ⟨h1', h2'⟩ := upd hc gt rfl (o' := ⟨ss.map eZ' ++ C, 3, true⟩) rfl rfl (loc' := c.μ t)
      (w' := grow (putRow (Value.int .i64) (Sort.ahead c.w k) (c.μ t).blk 0 ss.toArray) os)
      (grownBy_sortedI _) (.inl rfl) rfl (.inr ⟨by simp [hsl], rfl⟩)
      (heap_sortedI _ hcur) (by simp [putCells, hcs]) hcm (by simpa [hsl] using hle)
      (fun u hu => by
        obtain ⟨i, hi, rfl⟩ := List.mem_iff_getElem.1 hu
        have hic : i < cur.size := by simpa [putCells] using hi
        by_cases hil : i < zs.length
        · have := hp1 i hil
          rw [← Array.getElem?_toList, List.getElem?_eq_getElem hi] at this
          rw [Option.some.inj this]; rfl
        · have := hp2 i (by omega)
          rw [← Array.getElem?_toList, ← Array.getElem?_toList, List.getElem?_eq_getElem hi, List.getElem?_eq_getElem (by simpa using hic)] at this
          rw [Option.some.inj this]
          exact h1c _ (List.getElem_mem _))
      (fun el hel => by
        rcases List.mem_append.1 hel with h | h
        · obtain ⟨z, hz, rfl⟩ := List.mem_map.1 h
          have hne : zs ≠ [] := by
            intro e; rw [e] at hsl
            rw [List.eq_nil_of_length_eq_zero hsl] at hz; cases hz
          rw [hsz1 hne]; rfl
        · exact hes el (List.mem_append_right _ h))
      (fun i j el x hi hx => by
        by_cases hil : i < zs.length
        · have hne : zs ≠ [] := by intro e; rw [e] at hil; simp at hil
          rw [List.getElem?_append_left (by simp [hsl]; exact hil), List.getElem?_map, List.getElem?_eq_getElem (by omega)] at hi
          cases hi
          rcases j with _ | j
          · simp only [eZ', List.getElem?_cons_zero, Option.some.injEq] at hx
            subst hx
            refine ⟨_, by rw [hsz1 hne, Nat.mul_one, Nat.add_zero]; exact hp1 i hil, .sc rfl⟩
          · simp [eZ'] at hx
        · rw [List.getElem?_append_right (by simp [hsl]; omega)] at hi
          obtain ⟨u, hu, hvu⟩ := hcv i j el x (by rw [List.getElem?_append_right (by simp; omega)]; simpa [hsl] using hi) hx
          refine ⟨u, ?_, hvu⟩
          rw [← hu]
          refine hp2 _ ?_
          by_cases hne : zs = []
          · rw [hne]; simp
          · rw [hsz1 hne]; omega)
    exact ⟨_, .any, _, rfl, rfl, h1', h2', .any, rfl⟩
theorem sortN_ok (σ : Heap) : ACalls Try.prog 22 [.sc (.slice none 0 0)] σ (fun y σ' => σ' = σ) := by
  intro c hc hσ vs hvs
  subst hσ
  obtain ⟨v, rfl⟩ : ∃ v, vs = [v] := List.length_eq_one_iff.1 hvs.1
  have hv := hvs.2 0 _ v rfl rfl
  cases hv
  refine (show Calls Try.prog 22 #[.slice none 0 0] c.w _ from Any.slices_Sort_int_none Try.lays189 none 0 c.w).mono ?_
  rintro e w' ⟨rfl, rfl⟩
  exact ⟨_, .any, c, rfl, rfl, hc, Ev.refl c, .any, rfl⟩
def srt (zs : List Int) : List Int := zs.mergeSort fun x y => decide (x ≤ y)
theorem srt_perm (zs : List Int) : (srt zs).Perm zs := List.mergeSort_perm _ _
theorem srt_sorted (zs : List Int) : (srt zs).Pairwise (· ≤ ·) := by
  have := List.pairwise_mergeSort (le := fun x y : Int => decide (x ≤ y)) (fun a b c h1 h2 => by simp at *; omega) (fun a b => by simp; omega) zs
  simpa [srt] using this
/-- The sort, of a row that was made on the way. -/
theorem sortHold (σ : Heap) {d : DV} (zs : List Int) (hh : Hold σ d 3 (zs.map eZ')) (hb : zs.length ≤ 1000000) : ACalls Try.prog 22 [d] σ (fun y σ' => Hold σ' d 3 ((srt zs).map eZ') ∧ Ext (tOf d) σ σ') := by
  rcases hh with ⟨rfl, he⟩ | ⟨t, full, rfl, gtt, hle, htk⟩
  · have : zs = [] := by simpa using he
    subst this
    refine (sortN_ok σ).mono ?_
    rintro y σ' rfl
    exact ⟨by simpa [srt] using Hold.nil _ _, Ext.refl _ _⟩
  · rw [List.length_map] at htk hle
    have hfull : full = zs.map eZ' ++ full.drop zs.length := by
      conv => lhs; rw [← List.take_append_drop zs.length full, htk]
    rw [List.length_map]
    have hl := (srt_perm zs).length_eq
    refine (sortI_ok σ zs (full.drop zs.length) zs.length full.length rfl (by rw [List.length_drop]; omega) (by rw [gtt, ← hfull]) hb).mono ?_
    rintro y σ' rfl
    refine ⟨.inr ⟨t, (srt zs).map eZ' ++ full.drop zs.length, ?_, Heap.get_set (Heap.lt gtt), by simp, by simp⟩, ?_⟩
    · simp [hl]; omega
    · show Ext [t] σ (σ.set t _)
      exact Ext.set (Ext.refl _ _) (by simp) _
end Go.Proofs.Ythdamnemoaaigaa.Cm
