/- The document's package body: what an object would say. The document's package body: the guess at an item's own body. The document's package body: Unpack; the law BodyUnpacks. The law BodyUnpacks. -/
import Derived.Test.YtdibcgcildcjnaaBodyYv
import Derived.Test.YtdibcgcildcjnaaBodyYw
import Derived.Test.YtdibcgcildcjnaaBodyYx
namespace Go.Proofs.Ytdibcgcildcjnaa.Cm
open Go.RowKit
set_option linter.unusedVariables false
set_option linter.unusedSimpArgs false
set_option maxRecDepth 20000
set_option maxHeartbeats 8000000
--@SEVAL
section
variable {c : Int} {b : List Int}
theorem rguess_ok (σ : Heap) (k : Int) (ho : Octs b) (hb : b.length ≤ 1000000) : ACalls Try.prog 27 [.agg (oC c k b)] σ (fun y σ' => y = .agg (itC (guF c b) (.imm ((guL c b).map eI))) ∧ Ext [] σ σ') := by
  by_cases hc1 : c = 1
  · have e1 : guF c b = { zF c with a := nodeA b 0, b := readA b 6 2, c := nodeA b 8 } := by simp [guF, hc1]
    have e2 : guL c b = [] := by simp [guL, isL, hc1]
    rw [e1, e2]; subst hc1; exact rguess_1 σ k ho hb
  by_cases hc3 : c = 3
  · have e1 : guF c b = { zF c with a := nodeA b 0 } := by simp [guF, hc3]
    have e2 : guL c b = [] := by simp [guL, isL, hc3]
    rw [e1, e2]; subst hc3; exact rguess_3 σ k ho hb
  by_cases hc5 : c = 5
  · have e1 : guF c b = { zF c with u := readA b 0 4 } := by simp [guF, hc5]
    have e2 : guL c b = [] := by simp [guL, isL, hc5]
    rw [e1, e2]; subst hc5; exact rguess_5 σ k ho hb
  by_cases hc6 : c = 6
  · have e1 : guF c b = { zF c with a := nodeA b 0, b := readA b 5 1, c := readA b 6 2 } := by simp [guF, hc6]
    have e2 : guL c b = [] := by simp [guL, isL, hc6]
    rw [e1, e2]; subst hc6; exact rguess_6 σ k ho hb
  by_cases hc8 : c = 8
  · have e1 : guF c b = zF c := by simp [guF, hc8]
    have e2 : guL c b = [] := by simp [guL, isL, hc8]
    rw [e1, e2]; subst hc8; exact rguess_8 σ k ho hb
  by_cases hc9 : c = 9
  · have e1 : guF c b = { zF c with u := readA b 0 8 } := by simp [guF, hc9]
    have e2 : guL c b = [] := by simp [guL, isL, hc9]
    rw [e1, e2]; subst hc9; exact rguess_9 σ k ho hb
  by_cases hc12 : c = 12
  · have e1 : guF c b = { zF c with u := readA b 0 8 } := by simp [guF, hc12]
    have e2 : guL c b = [] := by simp [guL, isL, hc12]
    rw [e1, e2]; subst hc12; exact rguess_12 σ k ho hb
  by_cases hc10 : c = 10
  · have e1 : guF c b = { zF c with a := nodeA b 0, b := readA b 6 2 } := by simp [guF, hc10]
    have e2 : guL c b = [] := by simp [guL, isL, hc10]
    rw [e1, e2]; subst hc10; exact rguess_10 σ k ho hb
  by_cases hc11 : c = 11
  · have e1 : guF c b = { zF c with a := nodeA b 0, b := readA b 6 2 } := by simp [guF, hc11]
    have e2 : guL c b = [] := by simp [guL, isL, hc11]
    rw [e1, e2]; subst hc11; exact rguess_11 σ k ho hb
  by_cases hc16 : c = 16
  · have e1 : guF c b = { zF c with a := readA b 0 4 } := by simp [guF, hc16]
    have e2 : guL c b = [] := by simp [guL, isL, hc16]
    rw [e1, e2]; subst hc16; exact rguess_16 σ k ho hb
  by_cases hc19 : c = 19
  · have e1 : guF c b = { zF c with a := readA b 0 4 } := by simp [guF, hc19]
    have e2 : guL c b = [] := by simp [guL, isL, hc19]
    rw [e1, e2]; subst hc19; exact rguess_19 σ k ho hb
  by_cases hc20 : c = 20
  · have e1 : guF c b = zF c := by simp [guF, hc20]
    have e2 : guL c b = listA b := by simp [guL, isL, hc20]
    rw [e1, e2]; subst hc20; exact rguess_20 σ k ho hb
  by_cases hc21 : c = 21
  · have e1 : guF c b = zF c := by simp [guF, hc21]
    have e2 : guL c b = listA b := by simp [guL, isL, hc21]
    rw [e1, e2]; subst hc21; exact rguess_21 σ k ho hb
  by_cases hc23 : c = 23
  · have e1 : guF c b = { zF c with u := readA b 4 4 } := by simp [guF, hc23]
    have e2 : guL c b = [] := by simp [guL, isL, hc23]
    rw [e1, e2]; subst hc23; exact rguess_23 σ k ho hb
  by_cases hc207 : c = 207
  · have e1 : guF c b = { zF c with no := readA b 0 4, an := readA b 4 4, al := readA b 8 4, su := readA b 12 1, ho := readA b 13 1 } := by simp [guF, hc207]
    have e2 : guL c b = [] := by simp [guL, isL, hc207]
    rw [e1, e2]; subst hc207; exact rguess_207 σ k ho hb
  have e1 : guF c b = zF c := by simp [guF, hc1, hc3, hc5, hc6, hc8, hc9, hc12, hc10, hc11, hc16, hc19, hc20, hc21, hc23, hc207]
  have e2 : guL c b = [] := by simp [guL, isL, hc20, hc21]
  rw [e1, e2]; exact rguess_no σ k ho hb ⟨hc1, hc3, hc5, hc6, hc8, hc9, hc12, hc10, hc11, hc16, hc19, hc20, hc21, hc23, hc207⟩
end
section
theorem guess_may_1 {x : Fs} {L : List Int} (hcc : x.cls = 1) (hw : x.Wf) (hm : mayI x L) : guF x.cls (bodyI x L) = x ∧ guL x.cls (bodyI x L) = L := by
  have hmm := (may_1 hcc hw).1 hm
  have hb : bodyI x L = digits 4 (167772160 + x.a) ++ (digits 2 (0) ++ (digits 2 (x.b) ++ (digits 4 (167772160 + x.c) ++ []))) := by
    simp [bodyI, isL, hcc, stepsOf, btsL, bts, Fs.get]
  have hs : (_ = zF 0 ∧ L = []) := hmm.1
  have h1 := hs.1
  rw [Fs.ext_iff'] at h1
  simp [zF] at h1
  obtain ⟨hwc, hwa, hwb, hwcc, hwu, hwbw, hwsu, hwho, hwan, hwal, hwno⟩ := hw
  have r0 : readA (bodyI x L) 0 4 = 167772160 + x.a := by
    have := readA_at (b := bodyI x L) (pre := []) (n := 4) (v := 167772160 + x.a) (post := digits 2 (0) ++ (digits 2 (x.b) ++ (digits 4 (167772160 + x.c) ++ []))) (by rw [hb] <;> simp [List.append_assoc]) (by omega) (by simp; omega)
    simpa [digits_length] using this
  have r6 : readA (bodyI x L) 6 2 = x.b := by
    have := readA_at (b := bodyI x L) (pre := digits 4 (167772160 + x.a) ++ digits 2 (0)) (n := 2) (v := x.b) (post := digits 4 (167772160 + x.c) ++ []) (by rw [hb] <;> simp [List.append_assoc]) (by omega) (by simp; omega)
    simpa [digits_length] using this
  have r8 : readA (bodyI x L) 8 4 = 167772160 + x.c := by
    have := readA_at (b := bodyI x L) (pre := digits 4 (167772160 + x.a) ++ digits 2 (0) ++ digits 2 (x.b)) (n := 4) (v := 167772160 + x.c) (post := []) (by rw [hb] <;> simp [List.append_assoc]) (by omega) (by simp; omega)
    simpa [digits_length] using this
  clear hb
  generalize bodyI x L = B at *
  rw [hcc]
  refine ⟨?_, by simp [guL, isL, hs.2]⟩
  rw [Fs.ext_iff']
  simp [guF, zF, nodeA, r0, r6, r8]
  omega
theorem guess_may_3 {x : Fs} {L : List Int} (hcc : x.cls = 3) (hw : x.Wf) (hm : mayI x L) : guF x.cls (bodyI x L) = x ∧ guL x.cls (bodyI x L) = L := by
  have hmm := (may_3 hcc hw).1 hm
  have hb : bodyI x L = digits 4 (167772160 + x.a) ++ (digits 4 (0) ++ []) := by
    simp [bodyI, isL, hcc, stepsOf, btsL, bts, Fs.get]
  have hs : (_ = zF 0 ∧ L = []) := hmm.1
  have h1 := hs.1
  rw [Fs.ext_iff'] at h1
  simp [zF] at h1
  obtain ⟨hwc, hwa, hwb, hwcc, hwu, hwbw, hwsu, hwho, hwan, hwal, hwno⟩ := hw
  have r0 : readA (bodyI x L) 0 4 = 167772160 + x.a := by
    have := readA_at (b := bodyI x L) (pre := []) (n := 4) (v := 167772160 + x.a) (post := digits 4 (0) ++ []) (by rw [hb] <;> simp [List.append_assoc]) (by omega) (by simp; omega)
    simpa [digits_length] using this
  clear hb
  generalize bodyI x L = B at *
  rw [hcc]
  refine ⟨?_, by simp [guL, isL, hs.2]⟩
  rw [Fs.ext_iff']
  simp [guF, zF, nodeA, r0]
  omega
theorem guess_may_5 {x : Fs} {L : List Int} (hcc : x.cls = 5) (hw : x.Wf) (hm : mayI x L) : guF x.cls (bodyI x L) = x ∧ guL x.cls (bodyI x L) = L := by
  have hmm := (may_5 hcc hw).1 hm
  have hb : bodyI x L = digits 4 (x.u) ++ [] := by
    simp [bodyI, isL, hcc, stepsOf, btsL, bts, Fs.get]
  have hs : (_ = zF 0 ∧ L = []) := hmm.1
  have h1 := hs.1
  rw [Fs.ext_iff'] at h1
  simp [zF] at h1
  obtain ⟨hwc, hwa, hwb, hwcc, hwu, hwbw, hwsu, hwho, hwan, hwal, hwno⟩ := hw
  have r0 : readA (bodyI x L) 0 4 = x.u := by
    have := readA_at (b := bodyI x L) (pre := []) (n := 4) (v := x.u) (post := []) (by rw [hb] <;> simp [List.append_assoc]) (by omega) (by simp; omega)
    simpa [digits_length] using this
  clear hb
  generalize bodyI x L = B at *
  rw [hcc]
  refine ⟨?_, by simp [guL, isL, hs.2]⟩
  rw [Fs.ext_iff']
  simp [guF, zF, nodeA, r0]
  omega
theorem guess_may_6 {x : Fs} {L : List Int} (hcc : x.cls = 6) (hw : x.Wf) (hm : mayI x L) : guF x.cls (bodyI x L) = x ∧ guL x.cls (bodyI x L) = L := by
  have hmm := (may_6 hcc hw).1 hm
  have hb : bodyI x L = digits 4 (167772160 + x.a) ++ (digits 1 (0) ++ (digits 1 (x.b) ++ (digits 2 (x.c) ++ []))) := by
    simp [bodyI, isL, hcc, stepsOf, btsL, bts, Fs.get]
  have hs : (_ = zF 0 ∧ L = []) := hmm.1
  have h1 := hs.1
  rw [Fs.ext_iff'] at h1
  simp [zF] at h1
  obtain ⟨hwc, hwa, hwb, hwcc, hwu, hwbw, hwsu, hwho, hwan, hwal, hwno⟩ := hw
  have r0 : readA (bodyI x L) 0 4 = 167772160 + x.a := by
    have := readA_at (b := bodyI x L) (pre := []) (n := 4) (v := 167772160 + x.a) (post := digits 1 (0) ++ (digits 1 (x.b) ++ (digits 2 (x.c) ++ []))) (by rw [hb] <;> simp [List.append_assoc]) (by omega) (by simp; omega)
    simpa [digits_length] using this
  have r5 : readA (bodyI x L) 5 1 = x.b := by
    have := readA_at (b := bodyI x L) (pre := digits 4 (167772160 + x.a) ++ digits 1 (0)) (n := 1) (v := x.b) (post := digits 2 (x.c) ++ []) (by rw [hb] <;> simp [List.append_assoc]) (by omega) (by simp; omega)
    simpa [digits_length] using this
  have r6 : readA (bodyI x L) 6 2 = x.c := by
    have := readA_at (b := bodyI x L) (pre := digits 4 (167772160 + x.a) ++ digits 1 (0) ++ digits 1 (x.b)) (n := 2) (v := x.c) (post := []) (by rw [hb] <;> simp [List.append_assoc]) (by omega) (by simp; omega)
    simpa [digits_length] using this
  clear hb
  generalize bodyI x L = B at *
  rw [hcc]
  refine ⟨?_, by simp [guL, isL, hs.2]⟩
  rw [Fs.ext_iff']
  simp [guF, zF, nodeA, r0, r5, r6]
  omega
theorem guess_may_8 {x : Fs} {L : List Int} (hcc : x.cls = 8) (hw : x.Wf) (hm : mayI x L) : guF x.cls (bodyI x L) = x ∧ guL x.cls (bodyI x L) = L := by
  have hmm := (may_8 hcc hw).1 hm
  have hb : bodyI x L = digits 4 (18) ++ [] := by
    simp [bodyI, isL, hcc, stepsOf, btsL, bts, Fs.get]
  have hs : (_ = zF 0 ∧ L = []) := hmm
  have h1 := hs.1
  rw [Fs.ext_iff'] at h1
  simp [zF] at h1
  obtain ⟨hwc, hwa, hwb, hwcc, hwu, hwbw, hwsu, hwho, hwan, hwal, hwno⟩ := hw
  clear hb
  generalize bodyI x L = B at *
  rw [hcc]
  refine ⟨?_, by simp [guL, isL, hs.2]⟩
  rw [Fs.ext_iff']
  simp [guF, zF, nodeA]
  omega
theorem guess_may_9 {x : Fs} {L : List Int} (hcc : x.cls = 9) (hw : x.Wf) (hm : mayI x L) : guF x.cls (bodyI x L) = x ∧ guL x.cls (bodyI x L) = L := by
  have hmm := (may_9 hcc hw).1 hm
  have hb : bodyI x L = digits 8 (x.u) ++ [] := by
    simp [bodyI, isL, hcc, stepsOf, btsL, bts, Fs.get]
  have hs : (_ = zF 0 ∧ L = []) := hmm
  have h1 := hs.1
  rw [Fs.ext_iff'] at h1
  simp [zF] at h1
  obtain ⟨hwc, hwa, hwb, hwcc, hwu, hwbw, hwsu, hwho, hwan, hwal, hwno⟩ := hw
  have r0 : readA (bodyI x L) 0 8 = x.u := by
    have := readA_at (b := bodyI x L) (pre := []) (n := 8) (v := x.u) (post := []) (by rw [hb] <;> simp [List.append_assoc]) (by omega) (by simp; omega)
    simpa [digits_length] using this
  clear hb
  generalize bodyI x L = B at *
  rw [hcc]
  refine ⟨?_, by simp [guL, isL, hs.2]⟩
  rw [Fs.ext_iff']
  simp [guF, zF, nodeA, r0]
  omega
theorem guess_may_12 {x : Fs} {L : List Int} (hcc : x.cls = 12) (hw : x.Wf) (hm : mayI x L) : guF x.cls (bodyI x L) = x ∧ guL x.cls (bodyI x L) = L := by
  have hmm := (may_12 hcc hw).1 hm
  have hb : bodyI x L = digits 8 (x.u) ++ [] := by
    simp [bodyI, isL, hcc, stepsOf, btsL, bts, Fs.get]
  have hs : (_ = zF 0 ∧ L = []) := hmm
  have h1 := hs.1
  rw [Fs.ext_iff'] at h1
  simp [zF] at h1
  obtain ⟨hwc, hwa, hwb, hwcc, hwu, hwbw, hwsu, hwho, hwan, hwal, hwno⟩ := hw
  have r0 : readA (bodyI x L) 0 8 = x.u := by
    have := readA_at (b := bodyI x L) (pre := []) (n := 8) (v := x.u) (post := []) (by rw [hb] <;> simp [List.append_assoc]) (by omega) (by simp; omega)
    simpa [digits_length] using this
  clear hb
  generalize bodyI x L = B at *
  rw [hcc]
  refine ⟨?_, by simp [guL, isL, hs.2]⟩
  rw [Fs.ext_iff']
  simp [guF, zF, nodeA, r0]
  omega
theorem guess_may_10 {x : Fs} {L : List Int} (hcc : x.cls = 10) (hw : x.Wf) (hm : mayI x L) : guF x.cls (bodyI x L) = x ∧ guL x.cls (bodyI x L) = L := by
  have hmm := (may_10 hcc hw).1 hm
  have hb : bodyI x L = digits 4 (167772160 + x.a) ++ (digits 2 (0) ++ (digits 2 (x.b) ++ [])) := by
    simp [bodyI, isL, hcc, stepsOf, btsL, bts, Fs.get]
  have hs : (_ = zF 0 ∧ L = []) := hmm.1
  have h1 := hs.1
  rw [Fs.ext_iff'] at h1
  simp [zF] at h1
  obtain ⟨hwc, hwa, hwb, hwcc, hwu, hwbw, hwsu, hwho, hwan, hwal, hwno⟩ := hw
  have r0 : readA (bodyI x L) 0 4 = 167772160 + x.a := by
    have := readA_at (b := bodyI x L) (pre := []) (n := 4) (v := 167772160 + x.a) (post := digits 2 (0) ++ (digits 2 (x.b) ++ [])) (by rw [hb] <;> simp [List.append_assoc]) (by omega) (by simp; omega)
    simpa [digits_length] using this
  have r6 : readA (bodyI x L) 6 2 = x.b := by
    have := readA_at (b := bodyI x L) (pre := digits 4 (167772160 + x.a) ++ digits 2 (0)) (n := 2) (v := x.b) (post := []) (by rw [hb] <;> simp [List.append_assoc]) (by omega) (by simp; omega)
    simpa [digits_length] using this
  clear hb
  generalize bodyI x L = B at *
  rw [hcc]
  refine ⟨?_, by simp [guL, isL, hs.2]⟩
  rw [Fs.ext_iff']
  simp [guF, zF, nodeA, r0, r6]
  omega
theorem guess_may_11 {x : Fs} {L : List Int} (hcc : x.cls = 11) (hw : x.Wf) (hm : mayI x L) : guF x.cls (bodyI x L) = x ∧ guL x.cls (bodyI x L) = L := by
  have hmm := (may_11 hcc hw).1 hm
  have hb : bodyI x L = digits 4 (167772160 + x.a) ++ (digits 2 (0) ++ (digits 2 (x.b) ++ [])) := by
    simp [bodyI, isL, hcc, stepsOf, btsL, bts, Fs.get]
  have hs : (_ = zF 0 ∧ L = []) := hmm.1
  have h1 := hs.1
  rw [Fs.ext_iff'] at h1
  simp [zF] at h1
  obtain ⟨hwc, hwa, hwb, hwcc, hwu, hwbw, hwsu, hwho, hwan, hwal, hwno⟩ := hw
  have r0 : readA (bodyI x L) 0 4 = 167772160 + x.a := by
    have := readA_at (b := bodyI x L) (pre := []) (n := 4) (v := 167772160 + x.a) (post := digits 2 (0) ++ (digits 2 (x.b) ++ [])) (by rw [hb] <;> simp [List.append_assoc]) (by omega) (by simp; omega)
    simpa [digits_length] using this
  have r6 : readA (bodyI x L) 6 2 = x.b := by
    have := readA_at (b := bodyI x L) (pre := digits 4 (167772160 + x.a) ++ digits 2 (0)) (n := 2) (v := x.b) (post := []) (by rw [hb] <;> simp [List.append_assoc]) (by omega) (by simp; omega)
    simpa [digits_length] using this
  clear hb
  generalize bodyI x L = B at *
  rw [hcc]
  refine ⟨?_, by simp [guL, isL, hs.2]⟩
  rw [Fs.ext_iff']
  simp [guF, zF, nodeA, r0, r6]
  omega
theorem guess_may_16 {x : Fs} {L : List Int} (hcc : x.cls = 16) (hw : x.Wf) (hm : mayI x L) : guF x.cls (bodyI x L) = x ∧ guL x.cls (bodyI x L) = L := by
  have hmm := (may_16 hcc hw).1 hm
  have hb : bodyI x L = digits 4 (x.a) ++ [] := by
    simp [bodyI, isL, hcc, stepsOf, btsL, bts, Fs.get]
  have hs : (_ = zF 0 ∧ L = []) := hmm.1
  have h1 := hs.1
  rw [Fs.ext_iff'] at h1
  simp [zF] at h1
  obtain ⟨hwc, hwa, hwb, hwcc, hwu, hwbw, hwsu, hwho, hwan, hwal, hwno⟩ := hw
  have r0 : readA (bodyI x L) 0 4 = x.a := by
    have := readA_at (b := bodyI x L) (pre := []) (n := 4) (v := x.a) (post := []) (by rw [hb] <;> simp [List.append_assoc]) (by omega) (by simp; omega)
    simpa [digits_length] using this
  clear hb
  generalize bodyI x L = B at *
  rw [hcc]
  refine ⟨?_, by simp [guL, isL, hs.2]⟩
  rw [Fs.ext_iff']
  simp [guF, zF, nodeA, r0]
  omega
theorem guess_may_19 {x : Fs} {L : List Int} (hcc : x.cls = 19) (hw : x.Wf) (hm : mayI x L) : guF x.cls (bodyI x L) = x ∧ guL x.cls (bodyI x L) = L := by
  have hmm := (may_19 hcc hw).1 hm
  have hb : bodyI x L = digits 4 (x.a) ++ [] := by
    simp [bodyI, isL, hcc, stepsOf, btsL, bts, Fs.get]
    simp [digits, digit]; omega
  have hs : (_ = zF 0 ∧ L = []) := hmm.1
  have h1 := hs.1
  rw [Fs.ext_iff'] at h1
  simp [zF] at h1
  obtain ⟨hwc, hwa, hwb, hwcc, hwu, hwbw, hwsu, hwho, hwan, hwal, hwno⟩ := hw
  have r0 : readA (bodyI x L) 0 4 = x.a := by
    have := readA_at (b := bodyI x L) (pre := []) (n := 4) (v := x.a) (post := []) (by rw [hb] <;> simp [List.append_assoc]) (by omega) (by simp; omega)
    simpa [digits_length] using this
  clear hb
  generalize bodyI x L = B at *
  rw [hcc]
  refine ⟨?_, by simp [guL, isL, hs.2]⟩
  rw [Fs.ext_iff']
  simp [guF, zF, nodeA, r0]
  omega
theorem guess_may_20 {x : Fs} {L : List Int} (hcc : x.cls = 20) (hw : x.Wf) (hm : mayI x L) : guF x.cls (bodyI x L) = x ∧ guL x.cls (bodyI x L) = L := by
  have hmm := (may_20 hcc hw).1 hm
  have hb : bodyI x L = L.flatMap hopB := by simp [bodyI, isL, hcc]
  rw [hb, hcc]
  refine ⟨?_, ?_⟩
  · simp only [guF]
    rw [Fs.ext_iff']
    have h1 := hmm.1.1
    rw [Fs.ext_iff'] at h1
    simp [zF] at h1 ⊢
    omega
  · simp only [guL, isL]
    rw [if_pos (by simp)]
    exact listA_ok hmm.2.2 hmm.2.1
theorem guess_may_21 {x : Fs} {L : List Int} (hcc : x.cls = 21) (hw : x.Wf) (hm : mayI x L) : guF x.cls (bodyI x L) = x ∧ guL x.cls (bodyI x L) = L := by
  have hmm := (may_21 hcc hw).1 hm
  have hb : bodyI x L = L.flatMap hopB := by simp [bodyI, isL, hcc]
  rw [hb, hcc]
  refine ⟨?_, ?_⟩
  · simp only [guF]
    rw [Fs.ext_iff']
    have h1 := hmm.1.1
    rw [Fs.ext_iff'] at h1
    simp [zF] at h1 ⊢
    omega
  · simp only [guL, isL]
    rw [if_pos (by simp)]
    exact listA_ok hmm.2.2 hmm.2.1
theorem guess_may_23 {x : Fs} {L : List Int} (hcc : x.cls = 23) (hw : x.Wf) (hm : mayI x L) : guF x.cls (bodyI x L) = x ∧ guL x.cls (bodyI x L) = L := by
  have hmm := (may_23 hcc hw).1 hm
  have hb : bodyI x L = digits 4 (0) ++ (digits 4 (x.u) ++ []) := by
    simp [bodyI, isL, hcc, stepsOf, btsL, bts, Fs.get]
  have hs : (_ = zF 0 ∧ L = []) := hmm.1
  have h1 := hs.1
  rw [Fs.ext_iff'] at h1
  simp [zF] at h1
  obtain ⟨hwc, hwa, hwb, hwcc, hwu, hwbw, hwsu, hwho, hwan, hwal, hwno⟩ := hw
  have r4 : readA (bodyI x L) 4 4 = x.u := by
    have := readA_at (b := bodyI x L) (pre := digits 4 (0)) (n := 4) (v := x.u) (post := []) (by rw [hb] <;> simp [List.append_assoc]) (by omega) (by simp; omega)
    simpa [digits_length] using this
  clear hb
  generalize bodyI x L = B at *
  rw [hcc]
  refine ⟨?_, by simp [guL, isL, hs.2]⟩
  rw [Fs.ext_iff']
  simp [guF, zF, nodeA, r4]
  omega
theorem guess_may_207 {x : Fs} {L : List Int} (hcc : x.cls = 207) (hw : x.Wf) (hm : mayI x L) : guF x.cls (bodyI x L) = x ∧ guL x.cls (bodyI x L) = L := by
  have hmm := (may_207 hcc hw).1 hm
  have hb : bodyI x L = digits 4 (x.no) ++ (digits 4 (x.an) ++ (digits 4 (x.al) ++ (digits 1 (x.su) ++ (digits 1 (x.ho) ++ (digits 2 (0) ++ []))))) := by
    simp [bodyI, isL, hcc, stepsOf, btsL, bts, Fs.get]
  have hs : (_ = zF 0 ∧ L = []) := hmm.1
  have h1 := hs.1
  rw [Fs.ext_iff'] at h1
  simp [zF] at h1
  obtain ⟨hwc, hwa, hwb, hwcc, hwu, hwbw, hwsu, hwho, hwan, hwal, hwno⟩ := hw
  have r0 : readA (bodyI x L) 0 4 = x.no := by
    have := readA_at (b := bodyI x L) (pre := []) (n := 4) (v := x.no) (post := digits 4 (x.an) ++ (digits 4 (x.al) ++ (digits 1 (x.su) ++ (digits 1 (x.ho) ++ (digits 2 (0) ++ []))))) (by rw [hb] <;> simp [List.append_assoc]) (by omega) (by simp; omega)
    simpa [digits_length] using this
  have r4 : readA (bodyI x L) 4 4 = x.an := by
    have := readA_at (b := bodyI x L) (pre := digits 4 (x.no)) (n := 4) (v := x.an) (post := digits 4 (x.al) ++ (digits 1 (x.su) ++ (digits 1 (x.ho) ++ (digits 2 (0) ++ [])))) (by rw [hb] <;> simp [List.append_assoc]) (by omega) (by simp; omega)
    simpa [digits_length] using this
  have r8 : readA (bodyI x L) 8 4 = x.al := by
    have := readA_at (b := bodyI x L) (pre := digits 4 (x.no) ++ digits 4 (x.an)) (n := 4) (v := x.al) (post := digits 1 (x.su) ++ (digits 1 (x.ho) ++ (digits 2 (0) ++ []))) (by rw [hb] <;> simp [List.append_assoc]) (by omega) (by simp; omega)
    simpa [digits_length] using this
  have r12 : readA (bodyI x L) 12 1 = x.su := by
    have := readA_at (b := bodyI x L) (pre := digits 4 (x.no) ++ digits 4 (x.an) ++ digits 4 (x.al)) (n := 1) (v := x.su) (post := digits 1 (x.ho) ++ (digits 2 (0) ++ [])) (by rw [hb] <;> simp [List.append_assoc]) (by omega) (by simp; omega)
    simpa [digits_length] using this
  have r13 : readA (bodyI x L) 13 1 = x.ho := by
    have := readA_at (b := bodyI x L) (pre := digits 4 (x.no) ++ digits 4 (x.an) ++ digits 4 (x.al) ++ digits 1 (x.su)) (n := 1) (v := x.ho) (post := digits 2 (0) ++ []) (by rw [hb] <;> simp [List.append_assoc]) (by omega) (by simp; omega)
    simpa [digits_length] using this
  clear hb
  generalize bodyI x L = B at *
  rw [hcc]
  refine ⟨?_, by simp [guL, isL, hs.2]⟩
  rw [Fs.ext_iff']
  simp [guF, zF, nodeA, r0, r4, r8, r12, r13]
  omega
end
theorem listGo_len (b : List Int) : ∀ (f k : Nat) (out : List Int), (listGo b f k out).length ≤ out.length + f
  | 0, _, _ => Nat.le_refl _
  | f + 1, k, out => by
    show (if _ then listGo b f (k + 8) _ else out).length ≤ _
    split
    · have := listGo_len b f (k + 8) (out ++ [nodeA b (k + 2)])
      simp at this ⊢; omega
    · omega
theorem guL_len (c : Int) (b : List Int) : (guL c b).length ≤ 1000000 := by
  unfold guL
  split
  · have := listGo_len b 18 0 []
    simp at this
    unfold listA; omega
  · simp
theorem p256 : (256 : Int) ^ 1 = 256 ∧ (256 : Int) ^ 2 = 65536 ∧ (256 : Int) ^ 4 = 4294967296 ∧ (256 : Int) ^ 8 = 18446744073709551616 := by decide
theorem guF_wf {c : Int} {b : List Int} (ho : Octs b) (hc : -9223372036854775808 ≤ c ∧ c ≤ 9223372036854775807) : (guF c b).Wf := by
  obtain ⟨p1, p2, p4, p8⟩ := p256
  unfold guF
  by_cases h1 : c = 1
  · rw [if_pos h1]
    have r0 := readA_bound ho 0 4
    rw [p4] at r0
    have r6 := readA_bound ho 6 2
    rw [p2] at r6
    have r8 := readA_bound ho 8 4
    rw [p4] at r8
    simp only [Fs.Wf, zF, nodeA]
    refine ⟨?_, ?_, ?_, ?_, ?_, ?_, ?_, ?_, ?_, ?_, ?_⟩ <;> omega
  rw [if_neg h1]
  by_cases h3 : c = 3
  · rw [if_pos h3]
    have r0 := readA_bound ho 0 4
    rw [p4] at r0
    simp only [Fs.Wf, zF, nodeA]
    refine ⟨?_, ?_, ?_, ?_, ?_, ?_, ?_, ?_, ?_, ?_, ?_⟩ <;> omega
  rw [if_neg h3]
  by_cases h5 : c = 5
  · rw [if_pos h5]
    have r0 := readA_bound ho 0 4
    rw [p4] at r0
    simp only [Fs.Wf, zF, nodeA]
    refine ⟨?_, ?_, ?_, ?_, ?_, ?_, ?_, ?_, ?_, ?_, ?_⟩ <;> omega
  rw [if_neg h5]
  by_cases h6 : c = 6
  · rw [if_pos h6]
    have r0 := readA_bound ho 0 4
    rw [p4] at r0
    have r5 := readA_bound ho 5 1
    rw [p1] at r5
    have r6 := readA_bound ho 6 2
    rw [p2] at r6
    simp only [Fs.Wf, zF, nodeA]
    refine ⟨?_, ?_, ?_, ?_, ?_, ?_, ?_, ?_, ?_, ?_, ?_⟩ <;> omega
  rw [if_neg h6]
  by_cases h9 : c = 9
  · rw [if_pos h9]
    have r0 := readA_bound ho 0 8
    rw [p8] at r0
    simp only [Fs.Wf, zF, nodeA]
    refine ⟨?_, ?_, ?_, ?_, ?_, ?_, ?_, ?_, ?_, ?_, ?_⟩ <;> omega
  rw [if_neg h9]
  by_cases h12 : c = 12
  · rw [if_pos h12]
    have r0 := readA_bound ho 0 8
    rw [p8] at r0
    simp only [Fs.Wf, zF, nodeA]
    refine ⟨?_, ?_, ?_, ?_, ?_, ?_, ?_, ?_, ?_, ?_, ?_⟩ <;> omega
  rw [if_neg h12]
  by_cases h10 : c = 10
  · rw [if_pos h10]
    have r0 := readA_bound ho 0 4
    rw [p4] at r0
    have r6 := readA_bound ho 6 2
    rw [p2] at r6
    simp only [Fs.Wf, zF, nodeA]
    refine ⟨?_, ?_, ?_, ?_, ?_, ?_, ?_, ?_, ?_, ?_, ?_⟩ <;> omega
  rw [if_neg h10]
  by_cases h11 : c = 11
  · rw [if_pos h11]
    have r0 := readA_bound ho 0 4
    rw [p4] at r0
    have r6 := readA_bound ho 6 2
    rw [p2] at r6
    simp only [Fs.Wf, zF, nodeA]
    refine ⟨?_, ?_, ?_, ?_, ?_, ?_, ?_, ?_, ?_, ?_, ?_⟩ <;> omega
  rw [if_neg h11]
  by_cases h16 : c = 16
  · rw [if_pos h16]
    have r0 := readA_bound ho 0 4
    rw [p4] at r0
    simp only [Fs.Wf, zF, nodeA]
    refine ⟨?_, ?_, ?_, ?_, ?_, ?_, ?_, ?_, ?_, ?_, ?_⟩ <;> omega
  rw [if_neg h16]
  by_cases h19 : c = 19
  · rw [if_pos h19]
    have r0 := readA_bound ho 0 4
    rw [p4] at r0
    simp only [Fs.Wf, zF, nodeA]
    refine ⟨?_, ?_, ?_, ?_, ?_, ?_, ?_, ?_, ?_, ?_, ?_⟩ <;> omega
  rw [if_neg h19]
  by_cases h23 : c = 23
  · rw [if_pos h23]
    have r4 := readA_bound ho 4 4
    rw [p4] at r4
    simp only [Fs.Wf, zF, nodeA]
    refine ⟨?_, ?_, ?_, ?_, ?_, ?_, ?_, ?_, ?_, ?_, ?_⟩ <;> omega
  rw [if_neg h23]
  by_cases h207 : c = 207
  · rw [if_pos h207]
    have r0 := readA_bound ho 0 4
    rw [p4] at r0
    have r4 := readA_bound ho 4 4
    rw [p4] at r4
    have r8 := readA_bound ho 8 4
    rw [p4] at r8
    have r12 := readA_bound ho 12 1
    rw [p1] at r12
    have r13 := readA_bound ho 13 1
    rw [p1] at r13
    simp only [Fs.Wf, zF, nodeA]
    refine ⟨?_, ?_, ?_, ?_, ?_, ?_, ?_, ?_, ?_, ?_, ?_⟩ <;> omega
  rw [if_neg h207]
  exact zF_wf c hc
theorem guess_may {x : Fs} {L : List Int} (hw : x.Wf) (hm : mayI x L) : guF x.cls (bodyI x L) = x ∧ guL x.cls (bodyI x L) = L := by
  by_cases h1 : x.cls = 1
  · exact guess_may_1 h1 hw hm
  by_cases h3 : x.cls = 3
  · exact guess_may_3 h3 hw hm
  by_cases h5 : x.cls = 5
  · exact guess_may_5 h5 hw hm
  by_cases h6 : x.cls = 6
  · exact guess_may_6 h6 hw hm
  by_cases h8 : x.cls = 8
  · exact guess_may_8 h8 hw hm
  by_cases h9 : x.cls = 9
  · exact guess_may_9 h9 hw hm
  by_cases h12 : x.cls = 12
  · exact guess_may_12 h12 hw hm
  by_cases h10 : x.cls = 10
  · exact guess_may_10 h10 hw hm
  by_cases h11 : x.cls = 11
  · exact guess_may_11 h11 hw hm
  by_cases h16 : x.cls = 16
  · exact guess_may_16 h16 hw hm
  by_cases h19 : x.cls = 19
  · exact guess_may_19 h19 hw hm
  by_cases h20 : x.cls = 20
  · exact guess_may_20 h20 hw hm
  by_cases h21 : x.cls = 21
  · exact guess_may_21 h21 hw hm
  by_cases h23 : x.cls = 23
  · exact guess_may_23 h23 hw hm
  by_cases h207 : x.cls = 207
  · exact guess_may_207 h207 hw hm
  exfalso
  rcases hm with ⟨h, _⟩ | ⟨h, _⟩
  · simp only [isL] at h; omega
  · simp only [known] at h; omega
theorem rUnpack_ok (σ : Heap) {c k e : Int} {b : List Int} {w : Fs} {M : List Int} (ho : Octs b) (hb : b.length ≤ 1000000) (hc : -9223372036854775808 ≤ c ∧ c ≤ 9223372036854775807) (hu : unpA c k b = (w, M, e)) :
    ACalls Try.prog 16 [.agg (oC c k b)] σ (fun y σ' => y = .tup [.agg (itC w (.imm (M.map eI))), .sc (.int .i64 e)] ∧ Ext [] σ σ') := by
  have hwf := guF_wf ho hc
  have hgl := guL_len c b
  obtain ⟨c1, k1, b1, e1, hp, ho1, _, hcs⟩ := pack_cases (guF c b) (guL c b)
  have hgm : mayI w M → w.cls = c → bodyI w M = b → guF c b = w ∧ guL c b = M := fun h1 h2 h3 => by
    have := guess_may (may_wf (by rw [h2]; exact hc) h1) h1
    rw [h2, h3] at this; exact this
  obtain ⟨w', M', e', hu', hcase⟩ := unp_cases c k ho
  rw [hu] at hu'
  obtain ⟨rfl, rfl, rfl⟩ : w = w' ∧ M = M' ∧ e = e' := by
    injection hu' with h1 h2
    injection h2 with h2 h3
    exact ⟨h1, h2, h3⟩
  have hyes : e1 = 0 → c1 = c → k1 = k → b1 = b → e = 0 ∧ guF c b = w ∧ guL c b = M := fun h0 h1 h2 h3 => by
    rcases hcs with ⟨_, q1, q2, q3, q4⟩ | ⟨q, _⟩
    · have h := unp_may q1
      have e2 : kindI (guF c b).cls = k := by rw [← q3, h2]
      have e3 : bodyI (guF c b) (guL c b) = b := by rw [← q4, h3]
      rw [e2, e3, ← q2, h1, hu] at h
      injection h with h4 h5
      injection h5 with h5 h6
      exact ⟨h6, h4.symm, h5.symm⟩
    · omega
  have hno : ¬ (e1 = 0 ∧ c1 = c ∧ k1 = k ∧ b1 = b) → e = 5 ∧ w = zF 0 ∧ M = [] := fun h => by
    rcases hcase with ⟨q0, q1, q2, q3, q4⟩ | q
    · exfalso
      obtain ⟨g1, g2⟩ := hgm q1 q2 q4
      rw [g1, g2, pack_may q1, q2, q3, q4] at hp
      injection hp with a1 a2
      injection a2 with a2 a3
      injection a3 with a3 a4
      exact h ⟨a4.symm, a1.symm, a2.symm, a3.symm⟩
    · exact q
  have hgs : ∀ σ, ACalls Try.prog 27 [.agg (oC c k b)] σ (fun y σ' => y = .agg (itC (guF c b) (.imm ((guL c b).map eI))) ∧ Ext [] σ σ') := fun σ => rguess_ok σ k ho hb
  clear hcs hgm hcase
  generalize guF c b = g at hwf hp hyes hgs ⊢
  generalize guL c b = gl at hgl hp hyes hgs ⊢
  refine ACalls.tells ?_
  refine ACalls.code hT Try.func16 rfl ?_
  simp only [Try.ntmps16, List.length_cons, List.length_nil, Nat.reduceSub, Nat.reduceAdd, List.replicate, List.cons_append, List.nil_append]
  repeat ((fail_if_success (with_reducible refine AW.at1 (id := 1) ?_)); (fail_if_success (with_reducible refine AW.at2 (id := 1) ?_)); first | (with_reducible first | refine AW.seq ?_ | refine AW.block ?_ | refine AW.skip ?_ | refine AW.ret ?_ | refine AW.exit ?_ | refine AW.reg hT ?_) | ((with_reducible refine AW.cond_true ?_ ?_); · rfl) | ((with_reducible refine AW.cond_false ?_ ?_); · rfl) | simp (maxSteps := 3000000) (maxDischargeDepth := 12) only [seval,push_cast,appendX,Try.results16,oC])
  refine AW.name (fun σ1 hσ1 => ?_)
  have gto1 : σ1.get σ.n = some ⟨[oC c k b], 38, true⟩ := by subst hσ1; simp (maxSteps := 3000000) (maxDischargeDepth := 12) only [push_cast, appendX, Nat.reduceAdd, Nat.reduceEqDiff, Nat.reduceLT, Nat.reduceLeDiff, reduceIte, reduceCtorEq, oC]
  have gtz1 : σ1.get (σ.n + 1) = some (RtO (zF 0) (.sc (.slice none 0 0))) := by subst hσ1; simp (maxSteps := 3000000) (maxDischargeDepth := 12) only [push_cast, appendX, Nat.reduceAdd, Nat.reduceEqDiff, Nat.reduceLT, Nat.reduceLeDiff, reduceIte, reduceCtorEq, RtO, itC, zF, gto1, Heap.lt gto1]
  have xt01 : Ext [] σ σ1 := by subst hσ1; repeat (first | exact Ext.refl _ _ | assumption | refine Ext.push ?_ _ | ((refine Ext.set ?_ ?_ _); rotate_left; · (simp (maxSteps := 3000000) (maxDischargeDepth := 12) only [push_cast, appendX, Nat.reduceAdd, Nat.reduceEqDiff, Nat.reduceLT, Nat.reduceLeDiff, reduceIte, reduceCtorEq, gto1, Heap.lt gto1, gtz1, Heap.lt gtz1])) | ((refine Ext.then1 (by assumption) ?_ ?_); rotate_left; · (intro p hp _; first | assumption | exact List.mem_cons_of_mem _ hp | (cases hp; done) | (simp at hp; subst hp; simp))))
  clear hσ1
  repeat (first | (with_reducible first | refine AW.seq ?_ | refine AW.block ?_ | refine AW.skip ?_ | refine AW.ret ?_ | refine AW.exit ?_ | refine AW.reg hT ?_) | ((with_reducible refine AW.cond_true ?_ ?_); · rfl) | ((with_reducible refine AW.cond_false ?_ ?_); · rfl) | simp (maxSteps := 3000000) (maxDischargeDepth := 12) only [seval,push_cast,appendX,Try.results16,oC,gto1,Heap.lt gto1,gtz1,Heap.lt gtz1,xt01.2,xt01.ltT,xt01.leT])
  refine AOpsL.call (first := []) (cap := []) hT rfl rfl rfl fn27 rfl (ACalls.mono (hgs _) ?_)
  rintro y σ2 ⟨rfl, xt2⟩
  have gto2 := xt2.get gto1 (by simp)
  have gtz2 := xt2.get gtz1 (by simp)
  have xt02 := xt01.trans xt2
  clear hgs gto1 gtz1 xt01 xt2
  repeat ((fail_if_success (with_reducible refine AW.at1 (id := 2) ?_)); (fail_if_success (with_reducible refine AW.at2 (id := 2) ?_)); first | (with_reducible first | refine AW.seq ?_ | refine AW.block ?_ | refine AW.skip ?_ | refine AW.ret ?_ | refine AW.exit ?_ | refine AW.reg hT ?_) | ((with_reducible refine AW.cond_true ?_ ?_); · rfl) | ((with_reducible refine AW.cond_false ?_ ?_); · rfl) | simp (maxSteps := 3000000) (maxDischargeDepth := 12) only [seval,push_cast,appendX,Try.results16,itC_len,itC_take,itC_leaf,gto2,Heap.lt gto2,gtz2,Heap.lt gtz2,xt02.2,xt02.ltT,xt02.leT])
  refine AW.name (fun σ3 hσ3 => ?_)
  have gto3 : σ3.get σ.n = some ⟨[oC c k b], 38, true⟩ := by subst hσ3; simp (maxSteps := 3000000) (maxDischargeDepth := 12) only [push_cast, appendX, Nat.reduceAdd, Nat.reduceEqDiff, Nat.reduceLT, Nat.reduceLeDiff, reduceIte, reduceCtorEq, gto2, Heap.lt gto2, gtz2, Heap.lt gtz2, xt02.2, xt02.ltT, xt02.leT]
  have gtz3 : σ3.get (σ.n + 1) = some (RtO (zF 0) (.sc (.slice none 0 0))) := by subst hσ3; simp (maxSteps := 3000000) (maxDischargeDepth := 12) only [push_cast, appendX, Nat.reduceAdd, Nat.reduceEqDiff, Nat.reduceLT, Nat.reduceLeDiff, reduceIte, reduceCtorEq, gto2, Heap.lt gto2, gtz2, Heap.lt gtz2, xt02.2, xt02.ltT, xt02.leT, gto3, Heap.lt gto3]
  have gtg3 : σ3.get σ2.n = some (RtO g (.imm (gl.map eI))) := by subst hσ3; simp (maxSteps := 3000000) (maxDischargeDepth := 12) only [push_cast, appendX, Nat.reduceAdd, Nat.reduceEqDiff, Nat.reduceLT, Nat.reduceLeDiff, reduceIte, reduceCtorEq, RtO, gto2, Heap.lt gto2, gtz2, Heap.lt gtz2, xt02.2, xt02.ltT, xt02.leT, gto3, Heap.lt gto3, gtz3, Heap.lt gtz3]
  have xt03 : Ext [] σ σ3 := by subst hσ3; repeat (first | exact Ext.refl _ _ | assumption | refine Ext.push ?_ _ | ((refine Ext.set ?_ ?_ _); rotate_left; · (simp (maxSteps := 3000000) (maxDischargeDepth := 12) only [push_cast, appendX, Nat.reduceAdd, Nat.reduceEqDiff, Nat.reduceLT, Nat.reduceLeDiff, reduceIte, reduceCtorEq, gto2, Heap.lt gto2, gtz2, Heap.lt gtz2, xt02.2, xt02.ltT, xt02.leT, gto3, Heap.lt gto3, gtz3, Heap.lt gtz3, gtg3, Heap.lt gtg3])) | ((refine Ext.then1 (by assumption) ?_ ?_); rotate_left; · (intro p hp _; first | assumption | exact List.mem_cons_of_mem _ hp | (cases hp; done) | (simp at hp; subst hp; simp))))
  have hn02 := xt02.1
  have hz2 := Heap.lt gtz2
  clear hσ3 gto2 gtz2 xt02
  have hn2 : σ2.n < σ3.n := Heap.lt gtg3
  generalize hq : σ2.n = q at gtg3 hn02 hz2 hn2 ⊢
  have gtg3 := gtg3
  repeat (first | (with_reducible first | refine AW.seq ?_ | refine AW.block ?_ | refine AW.skip ?_ | refine AW.ret ?_ | refine AW.exit ?_ | refine AW.reg hT ?_) | ((with_reducible refine AW.cond_true ?_ ?_); · rfl) | ((with_reducible refine AW.cond_false ?_ ?_); · rfl) | simp (maxSteps := 3000000) (maxDischargeDepth := 12) only [seval,push_cast,appendX,Try.results16,RtO,itC_len,itC_take,itC_leaf,gto3,Heap.lt gto3,gtz3,Heap.lt gtz3,gtg3,Heap.lt gtg3,xt03.2,xt03.ltT,xt03.leT])
  refine AOpsL.call (first := []) (cap := []) hT rfl rfl rfl fn11 rfl (ACalls.mono (rPack_ok _ hwf hgl hp) ?_)
  rintro y σ4 ⟨rfl, xt4⟩
  have gto4 := xt4.get gto3 (by simp)
  have gtz4 := xt4.get gtz3 (by simp)
  have gtg4 := xt4.get gtg3 (by simp)
  have xt04 := xt03.trans xt4
  have hz4 := Heap.lt gtz4
  clear gto3 gtz3 gtg3 xt03 xt4
  repeat ((fail_if_success (with_reducible refine AW.at1 (id := 3) ?_)); (fail_if_success (with_reducible refine AW.at2 (id := 3) ?_)); first | (with_reducible first | refine AW.seq ?_ | refine AW.block ?_ | refine AW.skip ?_ | refine AW.ret ?_ | refine AW.exit ?_ | refine AW.reg hT ?_) | ((with_reducible refine AW.cond_true ?_ ?_); · rfl) | ((with_reducible refine AW.cond_false ?_ ?_); · rfl) | simp (maxSteps := 3000000) (maxDischargeDepth := 12) only [seval,push_cast,appendX,Try.results16,oC,gto4,Heap.lt gto4,gtz4,Heap.lt gtz4,gtg4,Heap.lt gtg4,xt04.2,xt04.ltT,xt04.leT])
  refine AW.name (fun σ5 hσ5 => ?_)
  have gto5 : σ5.get σ.n = some ⟨[oC c k b], 38, true⟩ := by subst hσ5; simp (maxSteps := 3000000) (maxDischargeDepth := 12) only [push_cast, appendX, Nat.reduceAdd, Nat.reduceEqDiff, Nat.reduceLT, Nat.reduceLeDiff, reduceIte, reduceCtorEq, gto4, Heap.lt gto4, gtz4, Heap.lt gtz4, gtg4, Heap.lt gtg4, xt04.2, xt04.ltT, xt04.leT]
  have gtz5 : σ5.get (σ.n + 1) = some (RtO (zF 0) (.sc (.slice none 0 0))) := by subst hσ5; simp (maxSteps := 3000000) (maxDischargeDepth := 12) only [push_cast, appendX, Nat.reduceAdd, Nat.reduceEqDiff, Nat.reduceLT, Nat.reduceLeDiff, reduceIte, reduceCtorEq, gto4, Heap.lt gto4, gtz4, Heap.lt gtz4, gtg4, Heap.lt gtg4, xt04.2, xt04.ltT, xt04.leT, gto5, Heap.lt gto5]
  have gtg5 : σ5.get q = some (RtO g (.imm (gl.map eI))) := by subst hσ5; simp (maxSteps := 3000000) (maxDischargeDepth := 12) only [push_cast, appendX, Nat.reduceAdd, Nat.reduceEqDiff, Nat.reduceLT, Nat.reduceLeDiff, reduceIte, reduceCtorEq, gto4, Heap.lt gto4, gtz4, Heap.lt gtz4, gtg4, Heap.lt gtg4, xt04.2, xt04.ltT, xt04.leT, gto5, Heap.lt gto5, gtz5, Heap.lt gtz5]
  have gtp5 : σ5.get σ4.n = some ⟨[oC c1 k1 b1], 38, true⟩ := by subst hσ5; simp (maxSteps := 3000000) (maxDischargeDepth := 12) only [push_cast, appendX, Nat.reduceAdd, Nat.reduceEqDiff, Nat.reduceLT, Nat.reduceLeDiff, reduceIte, reduceCtorEq, oC, gto4, Heap.lt gto4, gtz4, Heap.lt gtz4, gtg4, Heap.lt gtg4, xt04.2, xt04.ltT, xt04.leT, gto5, Heap.lt gto5, gtz5, Heap.lt gtz5, gtg5, Heap.lt gtg5]
  have xt05 : Ext [] σ σ5 := by subst hσ5; repeat (first | exact Ext.refl _ _ | assumption | refine Ext.push ?_ _ | ((refine Ext.set ?_ ?_ _); rotate_left; · (simp (maxSteps := 3000000) (maxDischargeDepth := 12) only [push_cast, appendX, Nat.reduceAdd, Nat.reduceEqDiff, Nat.reduceLT, Nat.reduceLeDiff, reduceIte, reduceCtorEq, gto4, Heap.lt gto4, gtz4, Heap.lt gtz4, gtg4, Heap.lt gtg4, xt04.2, xt04.ltT, xt04.leT, gto5, Heap.lt gto5, gtz5, Heap.lt gtz5, gtg5, Heap.lt gtg5, gtp5, Heap.lt gtp5])) | ((refine Ext.then1 (by assumption) ?_ ?_); rotate_left; · (intro p hp _; first | assumption | exact List.mem_cons_of_mem _ hp | (cases hp; done) | (simp at hp; subst hp; simp))))
  have hn05 := xt05.1
  clear hσ5 gto4 gtz4 gtg4 xt04
  generalize σ4.n = r at gtp5 hz4 ⊢
  have gtp5 := gtp5
  refine AW.told (ts' := (.any :: .ptr σ.n 0 0 1 :: .ptr (σ.n + 1) 0 0 1 :: .any :: .ptr q 0 0 1 :: .ptr r 0 0 1 :: .sc (.int .i64 e1) :: .any :: .any :: .any :: .any :: .any :: .any :: .any :: .any :: .any :: .any :: .any :: .any :: .any :: .any :: .any :: .any :: .any :: .any :: .any :: [])) (by (simp only [push_cast, TellsL, tells_any, tells_refl])) ?_
  by_cases he : e1 = 0
  · have dce : (e1 == 0) = true := by rw [he]; rfl
    repeat (first | (with_reducible first | refine AW.seq ?_ | refine AW.block ?_ | refine AW.skip ?_ | refine AW.ret ?_ | refine AW.exit ?_ | refine AW.reg hT ?_) | ((with_reducible refine AW.cond_true ?_ ?_); · rfl) | ((with_reducible refine AW.cond_false ?_ ?_); · rfl) | simp (maxSteps := 3000000) (maxDischargeDepth := 12) only [seval,push_cast,appendX,Try.results16,oC,gto5,Heap.lt gto5,gtz5,Heap.lt gtz5,gtg5,Heap.lt gtg5,gtp5,Heap.lt gtp5,xt05.2,xt05.ltT,xt05.leT,dce])
    refine AOpsL.call (first := []) (cap := []) hT rfl rfl rfl fn23 rfl (ACalls.mono (ACalls.hold2 (R := fun r σ' => Ext [] σ5 σ' ∧ ∃ e2 : Bool, r = .sc (.bool e2) ∧ (e2 = true ↔ c1 = c ∧ k1 = k ∧ b1 = b)) (e1 := 38) (e2 := 38) (x := oC c1 k1 b1) (y := oC c k b) (by simp (maxSteps := 3000000) (maxDischargeDepth := 12) only [push_cast, appendX, Nat.reduceAdd, Nat.reduceEqDiff, Nat.reduceLT, Nat.reduceLeDiff, reduceIte, reduceCtorEq, oC, gto5, Heap.lt gto5, gtz5, Heap.lt gtz5, gtg5, Heap.lt gtg5, gtp5, Heap.lt gtp5, xt05.2, xt05.ltT, xt05.leT, dce]) (by simp (maxSteps := 3000000) (maxDischargeDepth := 12) only [push_cast, appendX, Nat.reduceAdd, Nat.reduceEqDiff, Nat.reduceLT, Nat.reduceLeDiff, reduceIte, reduceCtorEq, oC, gto5, Heap.lt gto5, gtz5, Heap.lt gtz5, gtg5, Heap.lt gtg5, gtp5, Heap.lt gtp5, xt05.2, xt05.ltT, xt05.leT, dce]) (by omega) (fun σ6 x6 => (osame_ok σ6 ho1 ho).mono (fun r σ7 hh => ⟨by rw [hh.1]; exact Ext.then (((Ext.refl [] σ5).push _).push _) x6 (by intro p hp hl; simp at hp; omega), hh.2⟩))) ?_)
    rintro y σ6 ⟨xt6, e2, rfl, hb2⟩
    have gtz6 := xt6.get gtz5 (by simp)
    have gtg6 := xt6.get gtg5 (by simp)
    have xt06 := xt05.trans xt6
    cases e2 with
    | true =>
      obtain ⟨q1, q2, q3⟩ := hb2.1 rfl
      obtain ⟨r1, r2, r3⟩ := hyes he q1 q2 q3
      repeat (first | (with_reducible first | refine AW.seq ?_ | refine AW.block ?_ | refine AW.skip ?_ | refine AW.ret ?_ | refine AW.exit ?_ | refine AW.reg hT ?_) | ((with_reducible refine AW.cond_true ?_ ?_); · rfl) | ((with_reducible refine AW.cond_false ?_ ?_); · rfl) | simp (maxSteps := 3000000) (maxDischargeDepth := 12) only [seval,push_cast,appendX,Try.results16,RtO,itC,gto5,Heap.lt gto5,gtz5,Heap.lt gtz5,gtg5,Heap.lt gtg5,gtp5,Heap.lt gtp5,xt05.2,xt05.ltT,xt05.leT,dce,xt6.2,xt6.ltT,xt6.leT,gtz6,Heap.lt gtz6,gtg6,Heap.lt gtg6,xt06.2,xt06.ltT,xt06.leT])
      rw [r1, ← r2, ← r3]
      exact ⟨_, Tells.refl _, rfl, by repeat (first | exact Ext.refl _ _ | assumption | refine Ext.push ?_ _ | ((refine Ext.set ?_ ?_ _); rotate_left; · (simp (maxSteps := 3000000) (maxDischargeDepth := 12) only [push_cast, appendX, Nat.reduceAdd, Nat.reduceEqDiff, Nat.reduceLT, Nat.reduceLeDiff, reduceIte, reduceCtorEq, gto5, Heap.lt gto5, gtz5, Heap.lt gtz5, gtg5, Heap.lt gtg5, gtp5, Heap.lt gtp5, xt05.2, xt05.ltT, xt05.leT, dce, xt6.2, xt6.ltT, xt6.leT, gtz6, Heap.lt gtz6, gtg6, Heap.lt gtg6, xt06.2, xt06.ltT, xt06.leT])) | ((refine Ext.then1 (by assumption) ?_ ?_); rotate_left; · (intro p hp _; first | assumption | exact List.mem_cons_of_mem _ hp | (cases hp; done) | (simp at hp; subst hp; simp))))⟩
    | false =>
      obtain ⟨r1, r2, r3⟩ := hno (fun h => by have := hb2.2 h.2; cases this)
      repeat (first | (with_reducible first | refine AW.seq ?_ | refine AW.block ?_ | refine AW.skip ?_ | refine AW.ret ?_ | refine AW.exit ?_ | refine AW.reg hT ?_) | ((with_reducible refine AW.cond_true ?_ ?_); · rfl) | ((with_reducible refine AW.cond_false ?_ ?_); · rfl) | simp (maxSteps := 3000000) (maxDischargeDepth := 12) only [seval,push_cast,appendX,Try.results16,RtO,itC,zF,gto5,Heap.lt gto5,gtz5,Heap.lt gtz5,gtg5,Heap.lt gtg5,gtp5,Heap.lt gtp5,xt05.2,xt05.ltT,xt05.leT,dce,xt6.2,xt6.ltT,xt6.leT,gtz6,Heap.lt gtz6,gtg6,Heap.lt gtg6,xt06.2,xt06.ltT,xt06.leT])
      rw [r1, r2, r3]
      exact ⟨.tup [.agg (itC (zF 0) (.imm (([] : List Int).map eI))), .sc (.int .i64 5)], Tells.tup ⟨item_nil (zF 0), Tells.refl _, trivial⟩, rfl, by repeat (first | exact Ext.refl _ _ | assumption | refine Ext.push ?_ _ | ((refine Ext.set ?_ ?_ _); rotate_left; · (simp (maxSteps := 3000000) (maxDischargeDepth := 12) only [push_cast, appendX, Nat.reduceAdd, Nat.reduceEqDiff, Nat.reduceLT, Nat.reduceLeDiff, reduceIte, reduceCtorEq, gto5, Heap.lt gto5, gtz5, Heap.lt gtz5, gtg5, Heap.lt gtg5, gtp5, Heap.lt gtp5, xt05.2, xt05.ltT, xt05.leT, dce, xt6.2, xt6.ltT, xt6.leT, gtz6, Heap.lt gtz6, gtg6, Heap.lt gtg6, xt06.2, xt06.ltT, xt06.leT])) | ((refine Ext.then1 (by assumption) ?_ ?_); rotate_left; · (intro p hp _; first | assumption | exact List.mem_cons_of_mem _ hp | (cases hp; done) | (simp at hp; subst hp; simp))))⟩
  · have dce : (e1 == 0) = false := by simpa using he
    obtain ⟨r1, r2, r3⟩ := hno (fun h => he h.1)
    repeat (first | (with_reducible first | refine AW.seq ?_ | refine AW.block ?_ | refine AW.skip ?_ | refine AW.ret ?_ | refine AW.exit ?_ | refine AW.reg hT ?_) | ((with_reducible refine AW.cond_true ?_ ?_); · rfl) | ((with_reducible refine AW.cond_false ?_ ?_); · rfl) | simp (maxSteps := 3000000) (maxDischargeDepth := 12) only [seval,push_cast,appendX,Try.results16,RtO,itC,zF,gto5,Heap.lt gto5,gtz5,Heap.lt gtz5,gtg5,Heap.lt gtg5,gtp5,Heap.lt gtp5,xt05.2,xt05.ltT,xt05.leT,dce])
    rw [r1, r2, r3]
    exact ⟨.tup [.agg (itC (zF 0) (.imm (([] : List Int).map eI))), .sc (.int .i64 5)], Tells.tup ⟨item_nil (zF 0), Tells.refl _, trivial⟩, rfl, by repeat (first | exact Ext.refl _ _ | assumption | refine Ext.push ?_ _ | ((refine Ext.set ?_ ?_ _); rotate_left; · (simp (maxSteps := 3000000) (maxDischargeDepth := 12) only [push_cast, appendX, Nat.reduceAdd, Nat.reduceEqDiff, Nat.reduceLT, Nat.reduceLeDiff, reduceIte, reduceCtorEq, gto5, Heap.lt gto5, gtz5, Heap.lt gtz5, gtg5, Heap.lt gtg5, gtp5, Heap.lt gtp5, xt05.2, xt05.ltT, xt05.leT, dce])) | ((refine Ext.then1 (by assumption) ?_ ?_); rotate_left; · (intro p hp _; first | assumption | exact List.mem_cons_of_mem _ hp | (cases hp; done) | (simp at hp; subst hp; simp))))⟩
theorem unpacks_ok (o : Ob) (hwo : wO o) : ACalls Try.prog 4 [.agg (eO o)] ⟨[]⟩ (fun r _ => r = .sc (.bool true)) := by
  have ho := wO_octs hwo
  have hwc := wO_cls hwo
  generalize hσ : (⟨[]⟩ : Heap) = σ
  simp only [eO_eq]
  generalize o.f0 = c at hwc ⊢
  generalize o.f1 = k
  generalize o.f2 = b at ho ⊢
  clear hwo o
  have deb : (bytesD b).length = b.length := bytesD_length _
  refine ACalls.code hT Try.func4 rfl ?_
  simp only [Try.ntmps4, List.length_cons, List.length_nil, Nat.reduceSub, Nat.reduceAdd, List.replicate, List.cons_append, List.nil_append]
  repeat ((fail_if_success (with_reducible refine AW.at1 (id := 1) ?_)); (fail_if_success (with_reducible refine AW.at2 (id := 1) ?_)); first | (with_reducible first | refine AW.seq ?_ | refine AW.block ?_ | refine AW.skip ?_ | refine AW.ret ?_ | refine AW.exit ?_ | refine AW.reg hT ?_) | ((with_reducible refine AW.cond_true ?_ ?_); · rfl) | ((with_reducible refine AW.cond_false ?_ ?_); · rfl) | simp (maxSteps := 3000000) (maxDischargeDepth := 12) only [seval,push_cast,appendX,Try.results4,oC])
  refine AW.name (fun σ1 hσ1 => ?_)
  have gto : σ1.get σ.n = some ⟨[oC c k b], 38, true⟩ := by subst hσ1; simp (maxSteps := 3000000) (maxDischargeDepth := 12) only [push_cast, appendX, Nat.reduceAdd, Nat.reduceEqDiff, Nat.reduceLT, Nat.reduceLeDiff, reduceIte, reduceCtorEq, oC]
  clear hσ1 hσ
  generalize σ.n = p at gto ⊢
  have gto := gto
  repeat (first | (with_reducible first | refine AW.seq ?_ | refine AW.block ?_ | refine AW.skip ?_ | refine AW.ret ?_ | refine AW.exit ?_ | refine AW.reg hT ?_) | ((with_reducible refine AW.cond_true ?_ ?_); · rfl) | ((with_reducible refine AW.cond_false ?_ ?_); · rfl) | simp (maxSteps := 3000000) (maxDischargeDepth := 12) only [seval,push_cast,appendX,Try.results4,oC,gto,Heap.lt gto])
  refine AOpsL.call (first := []) (cap := []) hT rfl rfl rfl fn8 rfl (ACalls.mono (alive_ok _) ?_)
  rintro r σ2 ⟨rfl, xt2⟩
  have gto2 := xt2.get gto (by simp)
  clear xt2 gto
  by_cases h1 : 6000 < b.length
  · have dc1 : decide (6000 < (b.length : Int)) = true := decide_eq_true (by omega)
    repeat (first | (with_reducible first | refine AW.seq ?_ | refine AW.block ?_ | refine AW.skip ?_ | refine AW.ret ?_ | refine AW.exit ?_ | refine AW.reg hT ?_) | ((with_reducible refine AW.cond_true ?_ ?_); · rfl) | ((with_reducible refine AW.cond_false ?_ ?_); · rfl) | simp (maxSteps := 3000000) (maxDischargeDepth := 12) only [seval,push_cast,appendX,Try.results4,oC,deb,gto2,Heap.lt gto2,dc1])
  have dc1 : decide (6000 < (b.length : Int)) = false := decide_eq_false (by omega)
  obtain ⟨w, M, e, hu, hc⟩ := unp_cases c k ho
  have hML : M.length ≤ 1000000 := by
    rcases hc with ⟨_, hm, _⟩ | ⟨_, _, hm⟩
    · have := may_len hm; omega
    · rw [hm]; simp
  repeat (first | (with_reducible first | refine AW.seq ?_ | refine AW.block ?_ | refine AW.skip ?_ | refine AW.ret ?_ | refine AW.exit ?_ | refine AW.reg hT ?_) | ((with_reducible refine AW.cond_true ?_ ?_); · rfl) | ((with_reducible refine AW.cond_false ?_ ?_); · rfl) | simp (maxSteps := 3000000) (maxDischargeDepth := 12) only [seval,push_cast,appendX,Try.results4,oC,deb,gto2,Heap.lt gto2,dc1])
  refine AOpsL.call (first := []) (cap := []) hT rfl rfl rfl fn15 rfl (ACalls.mono (otheirs_ok _ c k rfl rfl) ?_)
  rintro r σ3 ⟨rfl, xt3⟩
  repeat (first | (with_reducible first | refine AW.seq ?_ | refine AW.block ?_ | refine AW.skip ?_ | refine AW.ret ?_ | refine AW.exit ?_ | refine AW.reg hT ?_) | ((with_reducible refine AW.cond_true ?_ ?_); · rfl) | ((with_reducible refine AW.cond_false ?_ ?_); · rfl) | simp (maxSteps := 3000000) (maxDischargeDepth := 12) only [seval,push_cast,appendX,Try.results4,gto2,Heap.lt gto2,dc1,xt3.2,xt3.ltT,xt3.leT])
  refine AOpsL.call (first := []) (cap := []) hT rfl rfl rfl fn14 rfl (ACalls.mono (unpackE_ok _ ho (by omega) hwc hu) ?_)
  rintro r σ4 ⟨rfl, xt4⟩
  have gto4 := xt4.get (xt3.get gto2 (by simp)) (by simp)
  clear xt3 xt4 gto2
  repeat ((fail_if_success (with_reducible refine AW.at1 (id := 6) ?_)); (fail_if_success (with_reducible refine AW.at2 (id := 6) ?_)); first | (with_reducible first | refine AW.seq ?_ | refine AW.block ?_ | refine AW.skip ?_ | refine AW.ret ?_ | refine AW.exit ?_ | refine AW.reg hT ?_) | ((with_reducible refine AW.cond_true ?_ ?_); · rfl) | ((with_reducible refine AW.cond_false ?_ ?_); · rfl) | simp (maxSteps := 3000000) (maxDischargeDepth := 12) only [seval,push_cast,appendX,Try.results4,itC_len,itC_take,itC_leaf,dc1,gto4,Heap.lt gto4])
  refine AW.name (fun σ5 hσ5 => ?_)
  have gto5 : σ5.get p = some ⟨[oC c k b], 38, true⟩ := by subst hσ5; simp (maxSteps := 3000000) (maxDischargeDepth := 12) only [push_cast, appendX, Nat.reduceAdd, Nat.reduceEqDiff, Nat.reduceLT, Nat.reduceLeDiff, reduceIte, reduceCtorEq, dc1, gto4, Heap.lt gto4]
  have gta5 : σ5.get σ4.n = some (ItO w (.imm (M.map eI))) := by subst hσ5; simp (maxSteps := 3000000) (maxDischargeDepth := 12) only [push_cast, appendX, Nat.reduceAdd, Nat.reduceEqDiff, Nat.reduceLT, Nat.reduceLeDiff, reduceIte, reduceCtorEq, ItO, dc1, gto4, Heap.lt gto4, gto5, Heap.lt gto5]
  clear hσ5 gto4
  generalize σ4.n = r at gta5 ⊢
  have gta5 := gta5
  refine AW.told (ts' := (.any :: .ptr p 0 0 1 :: .any :: .ptr r 0 0 1 :: .sc (.int .i64 e) :: .any :: .any :: .any :: .any :: .any :: .any :: .any :: .any :: .any :: .any :: .any :: .any :: .any :: .any :: .any :: .any :: .any :: .any :: .any :: .any :: .any :: .any :: .any :: .any :: .any :: .any :: .any :: .any :: [])) (by (simp only [push_cast, TellsL, tells_any, tells_refl])) ?_
  repeat (first | (with_reducible first | refine AW.seq ?_ | refine AW.block ?_ | refine AW.skip ?_ | refine AW.ret ?_ | refine AW.exit ?_ | refine AW.reg hT ?_) | ((with_reducible refine AW.cond_true ?_ ?_); · rfl) | ((with_reducible refine AW.cond_false ?_ ?_); · rfl) | simp (maxSteps := 3000000) (maxDischargeDepth := 12) only [seval,push_cast,appendX,Try.results4,oC,dc1,gto5,Heap.lt gto5,gta5,Heap.lt gta5])
  refine AOpsL.call (first := []) (cap := []) hT rfl rfl rfl fn16 rfl (ACalls.mono (rUnpack_ok _ ho (by omega) hwc hu) ?_)
  rintro r1 σ6 ⟨rfl, xt6⟩
  have gta6 := xt6.get gta5 (by simp)
  clear xt6 gta5 gto5
  repeat ((fail_if_success (with_reducible refine AW.at1 (id := 7) ?_)); (fail_if_success (with_reducible refine AW.at2 (id := 7) ?_)); first | (with_reducible first | refine AW.seq ?_ | refine AW.block ?_ | refine AW.skip ?_ | refine AW.ret ?_ | refine AW.exit ?_ | refine AW.reg hT ?_) | ((with_reducible refine AW.cond_true ?_ ?_); · rfl) | ((with_reducible refine AW.cond_false ?_ ?_); · rfl) | simp (maxSteps := 3000000) (maxDischargeDepth := 12) only [seval,push_cast,appendX,Try.results4,itC_len,itC_take,itC_leaf,dc1,gta6,Heap.lt gta6])
  refine AW.name (fun σ7 hσ7 => ?_)
  have gta7 : σ7.get r = some (ItO w (.imm (M.map eI))) := by subst hσ7; simp (maxSteps := 3000000) (maxDischargeDepth := 12) only [push_cast, appendX, Nat.reduceAdd, Nat.reduceEqDiff, Nat.reduceLT, Nat.reduceLeDiff, reduceIte, reduceCtorEq, dc1, gta6, Heap.lt gta6]
  have gtb7 : σ7.get σ6.n = some (RtO w (.imm (M.map eI))) := by subst hσ7; simp (maxSteps := 3000000) (maxDischargeDepth := 12) only [push_cast, appendX, Nat.reduceAdd, Nat.reduceEqDiff, Nat.reduceLT, Nat.reduceLeDiff, reduceIte, reduceCtorEq, RtO, dc1, gta6, Heap.lt gta6, gta7, Heap.lt gta7]
  clear hσ7 gta6
  generalize σ6.n = s at gtb7 ⊢
  have gtb7 := gtb7
  refine AW.told (ts' := (.any :: .any :: .any :: .ptr r 0 0 1 :: .sc (.int .i64 e) :: .ptr s 0 0 1 :: .sc (.int .i64 e) :: .any :: .any :: .any :: .any :: .any :: .any :: .any :: .any :: .any :: .any :: .any :: .any :: .any :: .any :: .any :: .any :: .any :: .any :: .any :: .any :: .any :: .any :: .any :: .any :: .any :: .any :: [])) (by (simp only [push_cast, TellsL, tells_any, tells_refl])) ?_
  repeat (first | (with_reducible first | refine AW.seq ?_ | refine AW.block ?_ | refine AW.skip ?_ | refine AW.ret ?_ | refine AW.exit ?_ | refine AW.reg hT ?_) | (with_reducible refine AW.drawn (id := 7) hT [0,2,1,3,4,5,6,7,8,9] [[],[0],[],[0,1,2],[0,1,2,3],[0,1,2,3,4],[0,1,2,3,4],[0,1,2,3,4,5,6],[0,1,2,3,4,5,6,7],[0,1,2,3,4,5,6,7,8]] mix (by kernel_rfl) ?_) | ((with_reducible show DLeft _ _ _ _ (_ :: _) _ _ _ _); (with_reducible apply DLeft.step hT); (case hoi => ((simp only [List.getElem?_toArray,List.getElem?_cons_zero,List.getElem?_cons_succ]); with_reducible rfl)); (case hg => rfl); (case hk => rfl); (case hr => ((try simp (maxSteps := 3000000) (maxDischargeDepth := 12) only [seval,push_cast,appendX,Try.results4,RtO,ItO,itC_len,itC_take,itC_leaf,dc1,gta7,Heap.lt gta7,gtb7,Heap.lt gtb7]); with_reducible rfl))) | ((with_reducible refine AW.cond_true ?_ ?_); · rfl) | ((with_reducible refine AW.cond_false ?_ ?_); · rfl) | simp (maxSteps := 3000000) (maxDischargeDepth := 12) only [seval,push_cast,appendX,Try.results4,RtO,ItO,itC_len,itC_take,itC_leaf,dc1,gta7,Heap.lt gta7,gtb7,Heap.lt gtb7])
  ((apply DLeft.call (f := 18) (first := []) (cap := [])); (case hoi => ((simp only [List.getElem?_toArray, List.getElem?_cons_zero, List.getElem?_cons_succ]); with_reducible rfl)); (case hg => rfl); (case ho => rfl); (case hc => rfl); (case hf => exact fn18); (case has => rfl)); refine ACalls.mono (lours_ok _ w rfl rfl) ?_
  rintro r1 σ8 ⟨rfl, xt8⟩
  have gtb8 := xt8.get gtb7 (by simp)
  clear gta7 gtb7 xt8
  repeat (first | (with_reducible first | refine AW.seq ?_ | refine AW.block ?_ | refine AW.skip ?_ | refine AW.ret ?_ | refine AW.exit ?_ | refine AW.reg hT ?_) | (with_reducible refine AW.drawn (id := 7) hT [0,2,1,3,4,5,6,7,8,9] [[],[0],[],[0,1,2],[0,1,2,3],[0,1,2,3,4],[0,1,2,3,4],[0,1,2,3,4,5,6],[0,1,2,3,4,5,6,7],[0,1,2,3,4,5,6,7,8]] mix (by kernel_rfl) ?_) | ((with_reducible show DLeft _ _ _ _ (_ :: _) _ _ _ _); (with_reducible apply DLeft.step hT); (case hoi => ((simp only [List.getElem?_toArray,List.getElem?_cons_zero,List.getElem?_cons_succ]); with_reducible rfl)); (case hg => rfl); (case hk => rfl); (case hr => ((try simp (maxSteps := 3000000) (maxDischargeDepth := 12) only [seval,push_cast,appendX,Try.results4,RtO,ItO,itC_len,itC_take,itC_leaf,dc1,gtb8,Heap.lt gtb8]); with_reducible rfl))) | ((with_reducible refine AW.cond_true ?_ ?_); · rfl) | ((with_reducible refine AW.cond_false ?_ ?_); · rfl) | simp (maxSteps := 3000000) (maxDischargeDepth := 12) only [seval,push_cast,appendX,Try.results4,RtO,ItO,itC_len,itC_take,itC_leaf,dc1,gtb8,Heap.lt gtb8])
  ((apply DLeft.call (f := 17) (first := []) (cap := [])); (case hoi => ((simp only [List.getElem?_toArray, List.getElem?_cons_zero, List.getElem?_cons_succ]); with_reducible rfl)); (case hg => rfl); (case ho => rfl); (case hc => rfl); (case hf => exact fn17); (case has => rfl)); refine ACalls.mono (rsame_ok _ hML) ?_
  rintro r1 σ9 ⟨xt9, e2, rfl, hb2⟩
  have h2 : e2 = true := hb2.2 ⟨rfl, rfl⟩
  subst h2
  have dcee : (e == e) = true := by simp
  repeat (first | (with_reducible first | refine AW.seq ?_ | refine AW.block ?_ | refine AW.skip ?_ | refine AW.ret ?_ | refine AW.exit ?_ | refine AW.reg hT ?_) | (with_reducible refine AW.drawn (id := 7) hT [0,2,1,3,4,5,6,7,8,9] [[],[0],[],[0,1,2],[0,1,2,3],[0,1,2,3,4],[0,1,2,3,4],[0,1,2,3,4,5,6],[0,1,2,3,4,5,6,7],[0,1,2,3,4,5,6,7,8]] mix (by kernel_rfl) ?_) | ((with_reducible show DLeft _ _ _ _ (_ :: _) _ _ _ _); (with_reducible apply DLeft.step hT); (case hoi => ((simp only [List.getElem?_toArray,List.getElem?_cons_zero,List.getElem?_cons_succ]); with_reducible rfl)); (case hg => rfl); (case hk => rfl); (case hr => ((try simp (maxSteps := 3000000) (maxDischargeDepth := 12) only [seval,push_cast,appendX,Try.results4,dc1,gtb8,Heap.lt gtb8,xt9.2,xt9.ltT,xt9.leT,dcee]); with_reducible rfl))) | ((with_reducible refine AW.cond_true ?_ ?_); · rfl) | ((with_reducible refine AW.cond_false ?_ ?_); · rfl) | simp (maxSteps := 3000000) (maxDischargeDepth := 12) only [seval,push_cast,appendX,Try.results4,dc1,gtb8,Heap.lt gtb8,xt9.2,xt9.ltT,xt9.leT,dcee])
end Go.Proofs.Ytdibcgcildcjnaa.Cm
