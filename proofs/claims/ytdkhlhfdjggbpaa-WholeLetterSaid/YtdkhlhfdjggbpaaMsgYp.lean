/- The plain law of messages: no program here. The plain law of messages, second part: messages come back from their bytes. -/
import Derived.Test.YtdkhlhfdjggbpaaMsgYb
import Derived.Test.YtdkhlhfdjggbpaaMsgYo
import Derived.Test.YtdkhlhfdjggbpaaBodyYc
namespace Go.Proofs.Ytdkhlhfdjggbpaa.Cm
open Go.RowKit
set_option linter.unusedVariables false
set_option linter.unusedSimpArgs false
set_option maxRecDepth 20000
set_option maxHeartbeats 8000000
def i64r (x : Int) : Prop := -9223372036854775808 ≤ x ∧ x ≤ 9223372036854775807
def u64r (x : Int) : Prop := 0 ≤ x ∧ x ≤ 18446744073709551615
def u32r (x : Int) : Prop := 0 ≤ x ∧ x < 4294967296
def Me.Wf (z : Me) : Prop := i64r z.m.ty ∧ i64r z.m.ttl ∧ i64r z.m.tail ∧ i64r z.m.tun ∧ i64r z.m.hd ∧ i64r z.m.lsp ∧ i64r z.m.fro ∧ i64r z.m.per ∧ i64r z.m.ser ∧ u64r z.m.bw ∧ i64r z.m.su ∧ i64r z.m.ho ∧ u32r z.m.an ∧ u32r z.m.al ∧ u32r z.m.no ∧ i64r z.m.lab ∧ i64r z.m.whr ∧ i64r z.m.code ∧ z.rt.length ≤ 1000000 ∧ z.rc.length ≤ 1000000
def mz (ty ttl : Int) : Me := ⟨⟨ty, ttl, 0, 0, 0, 0, 0, 0, 0, 0, 0, 0, 0, 0, 0, 0, 0, 0⟩, [], []⟩
def classM (c : Int) : Prop := c = 1 ∨ c = 3 ∨ c = 5 ∨ c = 6 ∨ c = 8 ∨ c = 9 ∨ c = 10 ∨ c = 11 ∨ c = 12 ∨ c = 16 ∨ c = 19 ∨ c = 20 ∨ c = 21 ∨ c = 23 ∨ c = 207
theorem fields_class {k c : Int} (h : c ∈ fieldsI k) : classM c := by
  unfold fieldsI at h
  unfold classM
  repeat' split at h
  all_goals simp at h
  all_goals omega
theorem fields_len (k : Int) : (fieldsI k).length ≤ 9 := by
  unfold fieldsI
  repeat' split
  all_goals simp
theorem fields_kind {k : Int} (h : fieldsI k ≠ []) : 1 ≤ k ∧ k ≤ 7 := by
  unfold fieldsI at h
  repeat' split at h
  all_goals first | omega | exact absurd rfl h
theorem mlay_cls {c : Int} (hc : classM c) (z : Me) : (mlay c z).1.cls = c := by
  rcases hc with rfl | rfl | rfl | rfl | rfl | rfl | rfl | rfl | rfl | rfl | rfl | rfl | rfl | rfl | rfl
  all_goals rfl
theorem mlay_wf {c : Int} {z : Me} (hc : classM c) (hpe : 0 ≤ z.m.per) (hse : 0 ≤ z.m.ser) (h : z.Wf) : (mlay c z).1.Wf ∧ (mlay c z).2.length ≤ 1000000 := by
  obtain ⟨h1, h2, h3, h4, h5, h6, h7, h8, h9, h10, h11, h12, h13, h14, h15, h16, h17, h18, h19, h20⟩ := h
  simp only [i64r, u64r, u32r] at *
  rcases hc with rfl | rfl | rfl | rfl | rfl | rfl | rfl | rfl | rfl | rfl | rfl | rfl | rfl | rfl | rfl
  all_goals (simp only [mlay, zF, Fs.Wf]; first | omega | (simp; done) | (simp; omega))
theorem mtake_wf {c : Int} {z : Me} {x : Fs} {L : List Int} (hc : classM c) (h : z.Wf) (hx : x.Wf) (hu : c = 5 ∨ c = 23 → x.u ≤ 4294967295) (hL : L.length ≤ 1000000) : (mtake c z x L).Wf := by
  obtain ⟨h1, h2, h3, h4, h5, h6, h7, h8, h9, h10, h11, h12, h13, h14, h15, h16, h17, h18, h19, h20⟩ := h
  obtain ⟨k1, k2, k3, k4, k5, k6, k7, k8, k9, k10, k11⟩ := hx
  simp only [i64r, u64r, u32r] at *
  rcases hc with rfl | rfl | rfl | rfl | rfl | rfl | rfl | rfl | rfl | rfl | rfl | rfl | rfl | rfl | rfl
  all_goals (simp [mtake, Me.Wf, i64r, u64r, u32r] at *; omega)
def objM (z : Me) (c : Int) : Ob := ⟨c, kindI c, bodyI (mlay c z).1 (mlay c z).2⟩
def againI (z : Me) : Me := (fieldsI z.m.ty).foldl (fun a c => mtake c a (mlay c z).1 (mlay c z).2) (mz z.m.ty z.m.ttl)
def objsM (z : Me) : List Ob := (fieldsI z.m.ty).map (objM z)
def mayM (z : Me) : Prop := (0 ≤ z.m.ttl ∧ z.m.ttl ≤ 255) ∧ 0 ≤ z.m.per ∧ 0 ≤ z.m.ser ∧ fieldsI z.m.ty ≠ [] ∧ (∀ c ∈ fieldsI z.m.ty, mayI (mlay c z).1 (mlay c z).2) ∧ z = againI z
def headM (z : Me) : List Int := [z.m.ttl, 0] ++ digits 2 (8 + ((obsB (objsM z)).length : Int)) ++ obsB (objsM z)
def sealM (z : Me) : List Int := [16, z.m.ty, ofF (16 :: z.m.ty :: 0 :: 0 :: headM z) / 256, ofF (16 :: z.m.ty :: 0 :: 0 :: headM z) % 256] ++ headM z
open Classical in
noncomputable def encM (z : Me) : List Int × Int := if mayM z then (sealM z, 0) else ([], 2)
def decL : List Int → List Ob → Me → Option Me
  | c :: cs, o :: os, m => if (unpA o.f0 o.f1 o.f2).2.2 = 0 ∧ (unpA o.f0 o.f1 o.f2).1.cls = c then decL cs os (mtake c m (unpA o.f0 o.f1 o.f2).1 (unpA o.f0 o.f1 o.f2).2.1) else none
  | _, _, m => some m
noncomputable def decM (b : List Int) : Me × Int :=
  match b with
  | a0 :: a1 :: a2 :: a3 :: a4 :: a5 :: a6 :: a7 :: r =>
    if 4096 < b.length then (mz 0 0, 3) else
    if a0 ≠ 16 ∨ a5 ≠ 0 ∨ a6 * 256 + a7 ≠ (b.length : Int) then (mz 0 0, 5) else
    if ofF b ≠ 0 then (mz 0 0, 6) else
    if (decO r).2 ≠ 0 then (mz 0 0, (decO r).2) else
    if (fieldsI a1).length ≠ (decO r).1.length ∨ (decO r).1.length = 0 then (mz 0 0, 5) else
    match decL (fieldsI a1) (decO r).1 (mz a1 a4) with
    | none => (mz 0 0, 5)
    | some m => if encM m = (b, 0) then (m, 0) else (mz 0 0, 5)
  | _ => (mz 0 0, 4)
theorem decL_may {z : Me} : ∀ (cs : List Int) (m : Me), (∀ c ∈ cs, classM c ∧ mayI (mlay c z).1 (mlay c z).2) → decL cs (cs.map (objM z)) m = some (cs.foldl (fun a c => mtake c a (mlay c z).1 (mlay c z).2) m)
  | [], m, _ => rfl
  | c :: cs, m, h => by
    obtain ⟨h1, h2⟩ := h c (by simp)
    have hu := unp_may h2
    rw [mlay_cls h1] at hu
    have hu' : unpA (objM z c).f0 (objM z c).f1 (objM z c).f2 = ((mlay c z).1, (mlay c z).2, 0) := hu
    rw [List.map_cons, decL, hu', if_pos ⟨rfl, mlay_cls h1 z⟩, List.foldl_cons]
    exact decL_may cs _ (fun c hc => h c (by simp [hc]))
theorem body_len {x : Fs} {L : List Int} (h : mayI x L) : (bodyI x L).length ≤ 128 := by
  rcases h with ⟨h1, _, h3, _⟩ | ⟨h1, _, _, _, _⟩
  · rw [bodyI, if_pos h1, hops_len]; omega
  · rw [bodyI, if_neg (known_notL h1)]
    rcases h1 with h | h | h | h | h | h | h | h | h | h | h | h | h <;> rw [h] <;> simp [stepsOf, btsL, bts, digits_length]
theorem kind_r (c : Int) : 0 ≤ kindI c ∧ kindI c ≤ 255 := by unfold kindI; split <;> (try split) <;> omega
theorem obj_may {z : Me} {c : Int} (hc : classM c) (h : mayI (mlay c z).1 (mlay c z).2) : mayO (objM z c) := by
  refine ⟨?_, kind_r c, ?_, body_len4 h⟩
  · show 0 ≤ c ∧ c ≤ 255
    unfold classM at hc; omega
  · have := body_len h
    show (bodyI _ _).length ≤ 4096
    omega
theorem obs_small : ∀ {l : List Ob}, (∀ x ∈ l, x.f2.length ≤ 128) → (obsB l).length ≤ l.length * 132
  | [], _ => by simp [obsB]
  | x :: l, h => by
    have h1 := h x (by simp)
    have h2 := obs_small (l := l) (fun y hy => h y (by simp [hy]))
    have e : obsB (x :: l) = obB x ++ obsB l := rfl
    rw [e, List.length_append, obB_length, List.length_cons]; omega
theorem obs_four : ∀ {l : List Ob}, (∀ x ∈ l, x.f2.length % 4 = 0) → (obsB l).length % 4 = 0
  | [], _ => by simp [obsB]
  | x :: l, h => by
    have h1 := h x (by simp)
    have h2 := obs_four (l := l) (fun y hy => h y (by simp [hy]))
    have e : obsB (x :: l) = obB x ++ obsB l := rfl
    rw [e, List.length_append, obB_length]; omega
theorem objs_may {z : Me} (h : ∀ c ∈ fieldsI z.m.ty, mayI (mlay c z).1 (mlay c z).2) : (∀ x ∈ objsM z, mayO x) ∧ (objsM z).length ≤ 9 ∧ (obsB (objsM z)).length ≤ 1188 ∧ (obsB (objsM z)).length % 4 = 0 ∧ Octs (obsB (objsM z)) := by
  have h0 : ∀ x ∈ objsM z, ∃ c, classM c ∧ mayI (mlay c z).1 (mlay c z).2 ∧ x = objM z c := fun x hx => by
    obtain ⟨c, hc, rfl⟩ := List.mem_map.1 hx
    exact ⟨c, fields_class hc, h c hc, rfl⟩
  have h1 : ∀ x ∈ objsM z, mayO x := fun x hx => by
    obtain ⟨c, hc, hm, rfl⟩ := h0 x hx
    exact obj_may hc hm
  have h2 : (objsM z).length ≤ 9 := by rw [objsM, List.length_map]; exact fields_len _
  have h3 := obs_small (l := objsM z) (fun x hx => by obtain ⟨c, hc, hm, rfl⟩ := h0 x hx; exact body_len hm)
  exact ⟨h1, h2, by omega, obs_four (fun x hx => (h1 x hx).2.2.2), octs_obsB h1 (fun x hx => by obtain ⟨c, hc, hm, rfl⟩ := h0 x hx; exact bodyI_octs _ _)⟩
theorem enc_objs {z : Me} (h : ∀ c ∈ fieldsI z.m.ty, mayI (mlay c z).1 (mlay c z).2) : encO (objsM z) = (obsB (objsM z), 0) := by
  obtain ⟨h1, h2, h3, _⟩ := objs_may h
  exact encO_of h1 (by omega) (by omega)
theorem sealM_eq (z : Me) : sealM z = sealed (16 :: z.m.ty :: 0 :: 0 :: headM z) 2 := by
  simp [sealM, sealed, zeroed]
theorem mayM_ty {z : Me} (h : mayM z) : 1 ≤ z.m.ty ∧ z.m.ty ≤ 7 := fields_kind h.2.2.2.1
theorem headM_octs {z : Me} (h : mayM z) : Octs (headM z) := by
  have h1 := (objs_may h.2.2.2.2.1).2.2.2.2
  have h2 := h.1
  refine Octs.append (Octs.append ?_ (digits_octs _ _)) h1
  intro x hx
  simp at hx
  omega
theorem pre_octs {z : Me} (h : mayM z) : okB (16 :: z.m.ty :: 0 :: 0 :: headM z) := by
  have h1 := okB_octs (headM_octs h)
  have h2 := mayM_ty h
  intro x hx
  simp only [List.mem_cons] at hx
  rcases hx with rfl | rfl | rfl | rfl | hx
  · omega
  · omega
  · omega
  · omega
  · exact h1 x hx
theorem sealM_octs {z : Me} (h : mayM z) : Octs (sealM z) := by
  rw [sealM_eq]; exact octs_okB (sealed_ok (pre_octs h) 2)
theorem headM_len (z : Me) : (headM z).length = (obsB (objsM z)).length + 4 := by simp [headM, digits_length]; omega
theorem sealM_len (z : Me) : (sealM z).length = (obsB (objsM z)).length + 8 := by simp [sealM, headM_len]
theorem sealM_right {z : Me} (h : mayM z) : ofF (sealM z) = 0 := by
  rw [sealM_eq]
  exact (sealed_right (pre_octs h) 2 rfl (by simp)).1
theorem sealM_form (z : Me) : sealM z = 16 :: z.m.ty :: (ofF (16 :: z.m.ty :: 0 :: 0 :: headM z) / 256) :: (ofF (16 :: z.m.ty :: 0 :: 0 :: headM z) % 256) :: z.m.ttl :: 0 :: digit (8 + ((obsB (objsM z)).length : Int)) 1 :: digit (8 + ((obsB (objsM z)).length : Int)) 0 :: obsB (objsM z) := rfl
theorem digit_two {u : Int} (h0 : 0 ≤ u) (h1 : u < 65536) : digit u 1 * 256 + digit u 0 = u := by
  have := num_digits (n := 2) h0 (by simpa using h1)
  rw [digits2, num2] at this
  exact this
theorem decM_sealM {z : Me} (h : mayM z) : decM (sealM z) = (z, 0) := by
  obtain ⟨h1, h2, h3, h4, h5⟩ := objs_may h.2.2.2.2.1
  have hlen := sealM_len z
  have hr := sealM_right h
  have hd := digit_two (u := 8 + ((obsB (objsM z)).length : Int)) (by omega) (by omega)
  have henc : encM z = (sealM z, 0) := by rw [encM, if_pos h]
  have hdec : decO (obsB (objsM z)) = (objsM z, 0) := by
    have e := enc_objs h.2.2.2.2.1
    have := back_enc (l := objsM z) (by rw [e])
    rw [e] at this; exact this
  have hf : (fieldsI z.m.ty).length = (objsM z).length := by simp [objsM]
  have hne : (objsM z).length ≠ 0 := by rw [← hf]; intro e; exact h.2.2.2.1 (List.eq_nil_of_length_eq_zero e)
  have hl : decL (fieldsI z.m.ty) (objsM z) (mz z.m.ty z.m.ttl) = some z := by
    have := decL_may (z := z) (fieldsI z.m.ty) (mz z.m.ty z.m.ttl) (fun c hc => ⟨fields_class hc, h.2.2.2.2.1 c hc⟩)
    rw [show (fieldsI z.m.ty).map (objM z) = objsM z from rfl] at this
    rw [this]
    exact congrArg some h.2.2.2.2.2.symm
  generalize hs : sealM z = b at *
  rw [sealM_form] at hs
  subst hs
  unfold decM
  simp only
  rw [if_neg (by omega), if_neg (by rw [hd, hlen]; simp; omega), if_neg (by rw [hr]; simp), hdec]
  simp only
  rw [if_neg (by simp), if_neg (by rw [hf]; simp [hne]), hl]
  simp only
  rw [if_pos henc]
end Go.Proofs.Ytdkhlhfdjggbpaa.Cm
