/- WireKept: counts kept in a map by labels. -/
import Derived.Test.YtcjlnaplkodgpaaCmRange
import Derived.Test.YtcjlnaplkodgpaaWireA
import Derived.Test.YtcjlnaplkodgpaaPNum
import Derived.Test.YtcjlnaplkodgpaaCmFull
namespace Go.Proofs.Ytcjlnaplkodgpaa.Cm
open Go.RowKit
set_option linter.unusedVariables false
set_option linter.unusedSimpArgs false
set_option maxRecDepth 20000
set_option maxHeartbeats 8000000
abbrev KE := List Int × Int × Nat
def mK (e : KE) : List DV := [.sc (.string (strOfNums e.1)), .sc (.int .i64 e.2.1), .sc (.int .i64 (e.2.2 : Nat))]
def mO (E : List KE) : AObj := ⟨E.map mK, 55, none⟩
def cnt : List KE → List Int → Int
  | [], _ => 0
  | e :: E, k => if e.1 = k then e.2.1 else cnt E k
structure MOk (B : Int) (E : List KE) : Prop where
  nd : (E.map (·.1)).Nodup
  oct : ∀ e ∈ E, Octs e.1
  lo : ∀ e ∈ E, 1 ≤ e.2.1 ∧ e.2.1 ≤ B
  len : ∀ e ∈ E, e.1.length ≤ 1000000
theorem u8_inv {n : Int} (h : 0 ≤ n ∧ n < 256) : ((UInt8.ofNat n.toNat).toNat : Int) = n := by
  simp [UInt8.toNat_ofNat']; omega
theorem str_eq {a b : List Int} (ha : Octs a) (hb : Octs b) : ((strOfNums a).toList == (strOfNums b).toList) = decide (a = b) := by
  rw [ByteArray.toList_eq, ByteArray.toList_eq, strOfNums_data, strOfNums_data]
  have inv : ∀ {l : List Int}, Octs l → (l.map fun n => UInt8.ofNat n.toNat).map (fun u => (u.toNat : Int)) = l := fun {l} hl => by
    rw [List.map_map]
    conv => rhs; rw [← List.map_id l]
    exact List.map_congr_left (fun n hn => u8_inv (hl n hn))
  by_cases h : a = b
  · subst h; simp
  · rw [decide_eq_false h]
    simp only [beq_eq_false_iff_ne, ne_eq]
    intro he
    have := congrArg (List.map fun u : UInt8 => (u.toNat : Int)) he
    rw [inv ha, inv hb] at this
    exact h this
theorem str_inj {a b : List Int} (ha : Octs a) (hb : Octs b) (h : strOfNums a = strOfNums b) : a = b := by
  have h2 := str_eq ha hb
  rw [h] at h2
  simpa using h2.symm
theorem str_law : Maps.Keyed Try.prog 9 := Maps.string_keyed Try.underlying9
theorem cnt_not {E : List KE} {k : List Int} (h : k ∉ E.map (·.1)) : cnt E k = 0 := by
  induction E with
  | nil => rfl
  | cons e E ih =>
    simp only [List.map_cons, List.mem_cons, not_or] at h
    rw [cnt, if_neg (fun e2 => h.1 e2.symm), ih h.2]
theorem cnt_at {E : List KE} (hn : (E.map (·.1)).Nodup) : ∀ {i : Nat} {e : KE}, E[i]? = some e → cnt E e.1 = e.2.1 := by
  induction E with
  | nil => intro i e h; simp at h
  | cons a E ih =>
    intro i e h
    rw [List.map_cons, List.nodup_cons] at hn
    cases i with
    | zero => simp at h; subst h; rw [cnt, if_pos rfl]
    | succ i =>
      have he : E[i]? = some e := by simpa using h
      rw [cnt, if_neg (fun e2 => hn.1 (by rw [e2]; exact List.mem_map.2 ⟨e, List.mem_of_getElem? he, rfl⟩)), ih hn.2 he]
theorem cnt_set {E : List KE} (hn : (E.map (·.1)).Nodup) : ∀ {i : Nat} {e : KE} (v : Int) (s : Nat) (j : List Int), E[i]? = some e → cnt (E.set i (e.1, v, s)) j = if j = e.1 then v else cnt E j := by
  induction E with
  | nil => intro i e v s j h; simp at h
  | cons a E ih =>
    intro i e v s j h
    rw [List.map_cons, List.nodup_cons] at hn
    cases i with
    | zero =>
      simp at h; subst h
      rw [List.set_cons_zero, cnt, cnt]
      by_cases hj : a.1 = j
      · rw [if_pos hj, if_pos hj.symm]
      · rw [if_neg hj, if_neg (fun e => hj e.symm), if_neg hj]
    | succ i =>
      have he : E[i]? = some e := by simpa using h
      have hae : a.1 ≠ e.1 := fun e2 => hn.1 (by rw [e2]; exact List.mem_map.2 ⟨e, List.mem_of_getElem? he, rfl⟩)
      rw [List.set_cons_succ, cnt, cnt, ih hn.2 v s j he]
      by_cases hj : a.1 = j
      · rw [if_pos hj, if_pos hj, if_neg (fun e2 => hae (hj.trans e2))]
      · rw [if_neg hj, if_neg hj]
theorem cnt_app (E : List KE) (e : KE) (j : List Int) (h : e.1 ∉ E.map (·.1)) : cnt (E ++ [e]) j = if j = e.1 then e.2.1 else cnt E j := by
  induction E with
  | nil =>
    rw [List.nil_append]
    show (if e.1 = j then e.2.1 else cnt [] j) = if j = e.1 then e.2.1 else cnt [] j
    by_cases hj : e.1 = j
    · rw [if_pos hj, if_pos hj.symm]
    · rw [if_neg hj, if_neg (fun e2 => hj e2.symm)]
  | cons a E ih =>
    simp only [List.map_cons, List.mem_cons, not_or] at h
    rw [List.cons_append, cnt, cnt, ih h.2]
    by_cases hj : a.1 = j
    · rw [if_pos hj, if_pos hj, if_neg (fun e2 => h.1 (by rw [← e2, hj]))]
    · rw [if_neg hj, if_neg hj]
theorem cnt_pos {B : Int} {E : List KE} (h : MOk B E) (k : List Int) : k ∈ E.map (·.1) ↔ 1 ≤ cnt E k := by
  constructor
  · intro hk
    obtain ⟨e, he, rfl⟩ := List.mem_map.1 hk
    obtain ⟨i, hi⟩ := List.mem_iff_getElem?.1 he
    rw [cnt_at h.nd hi]
    exact (h.lo e he).1
  · intro hc
    rcases Decidable.em (k ∈ E.map (·.1)) with hk | hk
    · exact hk
    · rw [cnt_not hk] at hc; omega
theorem same_len {B C : Int} {E F : List KE} (h : MOk B E) (k : MOk C F) (hc : ∀ j, cnt E j = cnt F j) : E.length = F.length := by
  have hp : (E.map (·.1)).Perm (F.map (·.1)) := (List.perm_ext_iff_of_nodup h.nd k.nd).2 (fun j => by rw [cnt_pos h, cnt_pos k, hc j])
  have := hp.length_eq
  simpa using this
theorem str_key (l : List Int) (h : l.length ≤ 1000000) : ∃ k, keyOf Try.prog 9 (.string (strOfNums l)) = some k := by
  have hu := Try.underlying9
  have : (keyOf Try.prog 9 (.string (strOfNums l))).isSome = true := by
    simp [keyOf, hu, mapKey, Lit.wf, strOfNums_size]
    simp only [maxLen]; omega
  exact Option.isSome_iff_exists.1 this
theorem mk_hit {B : Int} {E : List KE} (h : MOk B E) {k : List Int} {i : Nat} {e : KE} (he : E[i]? = some e) (hk : e.1 = k) : MOk (B + 1) (E.set i (e.1, e.2.1 + 1, e.2.2)) ∧ ∀ j, cnt (E.set i (e.1, e.2.1 + 1, e.2.2)) j = cnt E j + if j = k then 1 else 0 := by
  have hlab : (E.set i (e.1, e.2.1 + 1, e.2.2)).map (·.1) = E.map (·.1) := by
    rw [List.map_set]
    apply List.ext_getElem? 
    intro m
    rw [List.getElem?_set]
    split
    · rename_i hm
      subst hm
      split
      · rw [List.getElem?_map, he]; rfl
      · rename_i h2
        rw [List.length_map] at h2
        rw [List.getElem?_map, List.getElem?_eq_none (by omega)]; rfl
    · rfl
  have hlo := h.lo e (List.mem_of_getElem? he)
  refine ⟨⟨by rw [hlab]; exact h.nd, fun x hx => ?_, fun x hx => ?_, fun x hx => ?_⟩, fun j => ?_⟩
  · rcases List.mem_or_eq_of_mem_set hx with hx | rfl
    · exact h.oct x hx
    · exact h.oct e (List.mem_of_getElem? he)
  · rcases List.mem_or_eq_of_mem_set hx with hx | rfl
    · have := h.lo x hx; omega
    · show 1 ≤ e.2.1 + 1 ∧ e.2.1 + 1 ≤ B + 1; omega
  · rcases List.mem_or_eq_of_mem_set hx with hx | rfl
    · exact h.len x hx
    · exact h.len e (List.mem_of_getElem? he)
  · rw [cnt_set h.nd _ _ j he]
    by_cases hj : j = e.1
    · rw [if_pos hj, if_pos (hj.trans hk), hj, cnt_at h.nd he]
    · rw [if_neg hj, if_neg (fun e2 => hj (e2.trans hk.symm))]; omega
theorem mk_miss {B : Int} {E : List KE} (h : MOk B E) (hB : 0 ≤ B) {k : List Int} (ho : Octs k) (hkl : k.length ≤ 1000000) (hk : k ∉ E.map (·.1)) (s : Nat) : MOk (B + 1) (E ++ [(k, 1, s)]) ∧ ∀ j, cnt (E ++ [(k, 1, s)]) j = cnt E j + if j = k then 1 else 0 := by
  refine ⟨⟨?_, fun x hx => ?_, fun x hx => ?_, fun x hx => ?_⟩, fun j => ?_⟩
  · rw [List.map_append, List.nodup_append]
    refine ⟨h.nd, by simp, ?_⟩
    intro a ha b hb
    simp at hb
    subst hb
    rintro rfl
    exact hk ha
  · rcases List.mem_append.1 hx with hx | hx
    · exact h.oct x hx
    · rw [List.mem_singleton.1 hx]; exact ho
  · rcases List.mem_append.1 hx with hx | hx
    · have := h.lo x hx; omega
    · rw [List.mem_singleton.1 hx]; show (1 : Int) ≤ 1 ∧ (1 : Int) ≤ B + 1; omega
  · rcases List.mem_append.1 hx with hx | hx
    · exact h.len x hx
    · rw [List.mem_singleton.1 hx]; exact hkl
  · rw [cnt_app E (k, 1, s) j hk]
    by_cases hj : j = k
    · rw [if_pos hj, if_pos hj, hj, cnt_not hk]; rfl
    · rw [if_neg hj, if_neg hj]; omega
/-- One more of a label: m[k]++. -/
theorem AOpsL.bump {ops : Array Oper} {os : List Oper} {K : List DV → Heap → Prop} {ts : List DV} {σ : Heap} {o1 o2 o3 : Oper} {x ix : Operand} {d1 d2 : Tmp} {t : Nat} {E : List KE} {k : List Int} {B : Int}
    (h1 : o1.op = .lookup 55 x ix false) (g1 : o1.guard = none) (e1 : o1.dst = some d1) (h2 : o2.op = .binOp .add 3 (.tmp d1) (.const (.int .i64 1)) 3) (g2 : o2.guard = none) (e2 : o2.dst = some d2)
    (h3 : o3.op = .mapUpdate 55 x ix (.tmp d2)) (g3 : o3.guard = none) (e3 : o3.dst = none) (hx : Cm.eval ts x = some (.mp t)) (hix : Cm.eval ts ix = some (.sc (.string (strOfNums k))))
    (hd1 : ∀ v, Cm.eval (ts.set d1 v) (.tmp d1) = some v) (hd2 : ∀ v w, Cm.eval ((ts.set d1 v).set d2 w) (.tmp d2) = some w ∧ Cm.eval ((ts.set d1 v).set d2 w) x = some (.mp t) ∧ Cm.eval ((ts.set d1 v).set d2 w) ix = some (.sc (.string (strOfNums k))))
    (hg : σ.get t = some (mO E)) (hE : MOk B E) (hB : 0 ≤ B ∧ B ≤ 1000000) (ho : Octs k) (hl : k.length ≤ 1000000)
    (hK : ∀ (E' : List KE) (v w : DV), MOk (B + 1) E' → (∀ j, cnt E' j = cnt E j + if j = k then 1 else 0) → AOpsL Try.prog ops os ((ts.set d1 v).set d2 w) (σ.set t (mO E')) K) : AOpsL Try.prog ops (o1 :: o2 :: o3 :: os) ts σ K := by
  obtain ⟨lk, hlk⟩ := str_key k hl
  have gg : ∀ (o : Oper) (ts : List DV), o.guard = none → gon ops ts o.guard = some true := fun o ts h => by rw [h]; rfl
  have hadd : ∀ c : Int, 0 ≤ c → c ≤ 1000000 → aop T o2 (putD ts (some d1) (.sc (.int .i64 c))) σ = some (.sc (.int .i64 (c + 1)), σ) := fun c h0 h9 => by
    have hw : IntKind.i64.wrap (c + 1) = c + 1 := wrap_i64 (by omega) (by omega)
    have hv := hd1 (.sc (.int .i64 c))
    unfold aop
    rw [h2]
    simp only [putD, hv]
    simp [Cm.eval, dvOf, plain, abin, hw]
  rcases Decidable.em (k ∈ E.map (·.1)) with hk | hk
  · obtain ⟨e, he, hke⟩ := List.mem_map.1 hk
    obtain ⟨i, hi⟩ := List.mem_iff_getElem?.1 he
    have hel : (E.map mK)[i]? = some [.sc (.string (strOfNums e.1)), .sc (.int .i64 e.2.1), .sc (.int .i64 (e.2.2 : Nat))] := by rw [List.getElem?_map, hi]; rfl
    rw [hke] at hel
    obtain ⟨hm, hc⟩ := mk_hit hE hi hke
    have hlo := hE.lo e he
    refine AOpsL.op (gg o1 _ g1) (AOp.lookup_hit (v0 := .string (strOfNums k)) (els := E.map mK) hT h1 rfl (by decide) str_law hx hix hg rfl hlk hel rfl ?_)
    rw [e1]
    have hr2 := hadd e.2.1 (by omega) (by omega)
    refine AOpsL.stp hT (gg o2 _ g2) hr2 rfl ?_
    rw [e2]
    obtain ⟨q1, q2, q3⟩ := hd2 (.sc (.int .i64 e.2.1)) (.sc (.int .i64 (e.2.1 + 1)))
    refine AOpsL.op (gg o3 _ g3) (AOp.mapUpdate_hit (v0 := .string (strOfNums k)) (els := E.map mK) hT h3 rfl (by decide) str_law q2 q3 q1 hg rfl hlk hel rfl ?_)
    rw [e3]
    have := hK _ (.sc (.int .i64 e.2.1)) (.sc (.int .i64 (e.2.1 + 1))) hm hc
    have hmo : mO (E.set i (e.1, e.2.1 + 1, e.2.2)) = ⟨(E.map mK).set i [.sc (.string (strOfNums k)), .sc (.int .i64 (e.2.1 + 1)), .sc (.int .i64 (e.2.2 : Nat))], 55, none⟩ := by
      simp [mO, List.map_set, mK, hke]
    rw [hmo] at this
    exact this
  · have hne : ∀ el ∈ E.map mK, ∃ k' v' r, el = k' :: r ∧ kval k' = some v' ∧ v' ≠ (.string (strOfNums k) : Value) := fun el hel => by
      obtain ⟨e, he, rfl⟩ := List.mem_map.1 hel
      refine ⟨_, _, _, rfl, rfl, fun h => hk ?_⟩
      have h2 : strOfNums e.1 = strOfNums k := by injection h
      rw [← str_inj (hE.oct e he) ho h2]
      exact List.mem_map.2 ⟨e, he, rfl⟩
    refine AOpsL.op (gg o1 _ g1) (AOp.lookup_miss (v0 := .string (strOfNums k)) (els := E.map mK) (z := .int .i64 0) (zd := .sc (.int .i64 0)) hT h1 rfl (by decide) str_law (fun w => rfl) rfl hx hix hg rfl hlk hne ?_)
    rw [e1]
    have hr2 := hadd 0 (by decide) (by decide)
    refine AOpsL.stp hT (gg o2 _ g2) hr2 rfl ?_
    rw [e2]
    obtain ⟨q1, q2, q3⟩ := hd2 (.sc (.int .i64 0)) (.sc (.int .i64 (0 + 1)))
    refine AOpsL.op (gg o3 _ g3) (AOp.mapUpdate_miss (v0 := .string (strOfNums k)) (els := E.map mK) hT h3 rfl (by decide) str_law q2 q3 q1 hg rfl hlk hne (fun s => ?_))
    rw [e3]
    obtain ⟨hm, hc⟩ := mk_miss hE hB.1 ho hl hk s
    have := hK _ (.sc (.int .i64 0)) (.sc (.int .i64 (0 + 1))) hm hc
    have hmo : mO (E ++ [(k, 1, s)]) = ⟨E.map mK ++ [[.sc (.string (strOfNums k)), .sc (.int .i64 (0 + 1)), .sc (.int .i64 s)]], 55, none⟩ := by
      simp [mO, mK]
    rw [hmo] at this
    exact this
end Go.Proofs.Ytcjlnaplkodgpaa.Cm
