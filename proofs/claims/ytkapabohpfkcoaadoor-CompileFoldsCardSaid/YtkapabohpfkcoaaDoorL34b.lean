/- Laws of chapter 34: CompileValid, CompileFolds. -/
import Derived.Test.YtkapabohpfkcoaaDoorFlw
import Derived.Test.YtkapabohpfkcoaaDoorL34
set_option linter.unusedSimpArgs false
set_option linter.unusedVariables false
set_option maxHeartbeats 2000000
set_option maxRecDepth 8000
namespace Go.Proofs.YtkapabohpfkcoaaDoor
open E

theorem w_text2 (c : Code) (hlen : c.ins.length ≤ 1000) : Pure Tryd.prog 26 [c.v] (.tup [vS (textR c).1, vI (textR c).2]) := by
  cases hm : (meaR c).2
  · have hval := meaB c (by omega)
    rw [hm] at hval
    unfold textR
    rw [hm]
    obtain ⟨cn, pair, ins⟩ := c
    (refine Pure.of_code mix Tryd.call26 k_26 (by simp) (fun hB => ?_); (try simp at hB); (try simp -implicitDefEqProofs [c_compile_Text_26]))
    ((try simp at hval); (try simp -implicitDefEqProofs); repeat' first | (with_reducible refine gdK_em (fun hc => ?_) (fun hc => ?_) <;> (have hc' := hc; (try simp at hc'); simp -implicitDefEqProofs [hc, hc'])) | (with_reducible refine cdK_em (fun hc => ?_) (fun hc => ?_) <;> (have hc' := hc; (try simp at hc'); simp -implicitDefEqProofs [hc, hc'])) | (with_reducible refine pickK_em (fun hc => ?_) (fun hc => ?_) <;> (have hc' := hc; (try simp at hc'); simp -implicitDefEqProofs [hc, hc'])) | (with_reducible apply callK_pure <;> first | (simp only [eras, era, eras_map]; first | with_reducible exact hval | simpa using hval) | (simp -implicitDefEqProofs)))
  · refine w_text c hlen fun x hx => ?_
    obtain ⟨⟨a1, a2⟩, b1, b2⟩ := mea_num (by omega) hm hx
    exact ⟨⟨by omega, by omega⟩, by omega, by omega⟩
theorem samR_refl (c : Code) : samR c c = true := by simp [samR]

theorem l_folds (c : Code) : Pure Tryd.prog 7 [c.v] (vB true) := by
  have haw := w_awake
  have hfew := w_rfew c
  cases hf : fewR c
  · rw [hf] at hfew
    obtain ⟨cn, pair, ins⟩ := c
    (refine Pure.of_code mix Tryd.call7 k_7 (by simp) (fun hB => ?_); (try simp at hB); (try simp -implicitDefEqProofs [c_tallystonelaw34_CompileFolds_7]))
    ((try simp at haw); (try simp at hfew); (try simp -implicitDefEqProofs); repeat' first | (with_reducible refine gdK_em (fun hc => ?_) (fun hc => ?_) <;> (have hc' := hc; (try simp at hc'); simp -implicitDefEqProofs [hc, hc'])) | (with_reducible refine cdK_em (fun hc => ?_) (fun hc => ?_) <;> (have hc' := hc; (try simp at hc'); simp -implicitDefEqProofs [hc, hc'])) | (with_reducible refine pickK_em (fun hc => ?_) (fun hc => ?_) <;> (have hc' := hc; (try simp at hc'); simp -implicitDefEqProofs [hc, hc'])) | (with_reducible apply callK_pure <;> first | (simp only [eras, era, eras_map]; first | with_reducible exact haw | simpa using haw) | (simp -implicitDefEqProofs)) | (with_reducible apply callK_pure <;> first | (simp only [eras, era, eras_map]; first | with_reducible exact hfew | simpa using hfew) | (simp -implicitDefEqProofs)))
  rw [hf] at hfew
  have hlen : c.ins.length ≤ 400 := by simp [fewR] at hf; exact hf.2
  have hown := w_own c (by omega)
  have hfold := w_fold c (by omega)
  have hval := meaB c (by omega)
  have hsz := w_size c (by omega)
  cases hm : (meaR c).2
  · have e1 : foldR c = (⟨[], false, []⟩, 1) := by unfold foldR; rw [if_neg (by simp [hm])]
    rw [hm] at hval
    rw [e1] at hfold
    obtain ⟨cn, pair, ins⟩ := c
    (refine Pure.of_code mix Tryd.call7 k_7 (by simp) (fun hB => ?_); (try simp at hB); (try simp -implicitDefEqProofs [c_tallystonelaw34_CompileFolds_7]))
    ((try simp at haw); (try simp at hfew); (try simp at hown); (try simp at hfold); (try simp at hval); (try simp -implicitDefEqProofs); repeat' first | (with_reducible refine gdK_em (fun hc => ?_) (fun hc => ?_) <;> (have hc' := hc; (try simp at hc'); simp -implicitDefEqProofs [hc, hc'])) | (with_reducible refine cdK_em (fun hc => ?_) (fun hc => ?_) <;> (have hc' := hc; (try simp at hc'); simp -implicitDefEqProofs [hc, hc'])) | (with_reducible refine pickK_em (fun hc => ?_) (fun hc => ?_) <;> (have hc' := hc; (try simp at hc'); simp -implicitDefEqProofs [hc, hc'])) | (with_reducible apply callK_pure <;> first | (simp only [eras, era, eras_map]; first | with_reducible exact haw | simpa using haw) | (simp -implicitDefEqProofs)) | (with_reducible apply callK_pure <;> first | (simp only [eras, era, eras_map]; first | with_reducible exact hfew | simpa using hfew) | (simp -implicitDefEqProofs)) | (with_reducible apply callK_pure <;> first | (simp only [eras, era, eras_map]; first | with_reducible exact hown | simpa using hown) | (simp -implicitDefEqProofs)) | (with_reducible apply callK_pure <;> first | (simp only [eras, era, eras_map]; first | with_reducible exact hfold | simpa using hfold) | (simp -implicitDefEqProofs)) | (with_reducible apply callK_pure <;> first | (simp only [eras, era, eras_map]; first | with_reducible exact hval | simpa using hval) | (simp -implicitDefEqProofs)))
  · obtain ⟨n, hn⟩ : ∃ n, meaR c = (n, true) := ⟨(meaR c).1, by rw [← hm]⟩
    obtain ⟨hok, m, hm2, hle⟩ := fold_valid hn
    have hid := foldC_idem hok
    have hfl := foldC_length c.ins
    obtain ⟨x, hx⟩ : ∃ x : Code, x = ⟨c.name, c.pair, foldC c.ins⟩ := ⟨_, rfl⟩
    have e1 : foldR c = (x, 0) := by unfold foldR; rw [if_pos hm, hx]
    have e2 : foldR x = (x, 0) := by unfold foldR; rw [hx, hm2, if_pos rfl]; simp only [hid]
    have hxl : x.ins.length ≤ c.ins.length := by rw [hx]; exact hfl
    have hfold2 := w_fold x (by omega)
    have hval2 := meaB x (by omega)
    have hsz2 := w_size x (by omega)
    have hsame := w_same x x (by omega) (by omega)
    rw [samR_refl] at hsame
    rw [hm] at hval
    rw [e1] at hfold
    rw [e2] at hfold2
    have s1 : sizR c = (n, 0) := by unfold sizR; rw [hn]; rfl
    have s2 : sizR x = (m, 0) := by unfold sizR; rw [hx, hm2]; rfl
    rw [s1] at hsz
    rw [s2] at hsz2
    rw [show (meaR x).2 = true by rw [hx, hm2]] at hval2
    have hxl' : ((x.ins.length : Nat) : Int) ≤ c.ins.length := by omega
    clear hx e1 e2 hid
    obtain ⟨cn, pair, ins⟩ := c
    obtain ⟨xn, xp, xi⟩ := x
    simp only [] at hxl hxl' hlen
    (refine Pure.of_code mix Tryd.call7 k_7 (by simp) (fun hB => ?_); (try simp at hB); (try simp -implicitDefEqProofs [c_tallystonelaw34_CompileFolds_7]))
    ((try simp at haw); (try simp at hfew); (try simp at hown); (try simp at hfold); (try simp at hval); (try simp at hfold2); (try simp at hsz); (try simp at hsz2); (try simp at hval2); (try simp at hsame); (try simp -implicitDefEqProofs [hle, hxl, hxl']); repeat' first | (with_reducible refine gdK_em (fun hc => ?_) (fun hc => ?_) <;> (have hc' := hc; (try simp at hc'); simp -implicitDefEqProofs [hc, hc', hle, hxl, hxl'])) | (with_reducible refine cdK_em (fun hc => ?_) (fun hc => ?_) <;> (have hc' := hc; (try simp at hc'); simp -implicitDefEqProofs [hc, hc', hle, hxl, hxl'])) | (with_reducible refine pickK_em (fun hc => ?_) (fun hc => ?_) <;> (have hc' := hc; (try simp at hc'); simp -implicitDefEqProofs [hc, hc', hle, hxl, hxl'])) | (with_reducible apply callK_pure <;> first | (simp only [eras, era, eras_map]; first | with_reducible exact haw | simpa using haw) | (simp -implicitDefEqProofs [hle, hxl, hxl'])) | (with_reducible apply callK_pure <;> first | (simp only [eras, era, eras_map]; first | with_reducible exact hfew | simpa using hfew) | (simp -implicitDefEqProofs [hle, hxl, hxl'])) | (with_reducible apply callK_pure <;> first | (simp only [eras, era, eras_map]; first | with_reducible exact hown | simpa using hown) | (simp -implicitDefEqProofs [hle, hxl, hxl'])) | (with_reducible apply callK_pure <;> first | (simp only [eras, era, eras_map]; first | with_reducible exact hfold | simpa using hfold) | (simp -implicitDefEqProofs [hle, hxl, hxl'])) | (with_reducible apply callK_pure <;> first | (simp only [eras, era, eras_map]; first | with_reducible exact hval | simpa using hval) | (simp -implicitDefEqProofs [hle, hxl, hxl'])) | (with_reducible apply callK_pure <;> first | (simp only [eras, era, eras_map]; first | with_reducible exact hfold2 | simpa using hfold2) | (simp -implicitDefEqProofs [hle, hxl, hxl'])) | (with_reducible apply callK_pure <;> first | (simp only [eras, era, eras_map]; first | with_reducible exact hsz | simpa using hsz) | (simp -implicitDefEqProofs [hle, hxl, hxl'])) | (with_reducible apply callK_pure <;> first | (simp only [eras, era, eras_map]; first | with_reducible exact hsz2 | simpa using hsz2) | (simp -implicitDefEqProofs [hle, hxl, hxl'])) | (with_reducible apply callK_pure <;> first | (simp only [eras, era, eras_map]; first | with_reducible exact hval2 | simpa using hval2) | (simp -implicitDefEqProofs [hle, hxl, hxl'])) | (with_reducible apply callK_pure <;> first | (simp only [eras, era, eras_map]; first | with_reducible exact hsame | simpa using hsame) | (simp -implicitDefEqProofs [hle, hxl, hxl'])))

theorem l_valid (c d : Code) : Pure Tryd.prog 6 [c.v, d.v] (vB true) := by
  have haw := w_awake
  have hfewc := w_rfew c
  have hfewd := w_rfew d
  cases hf : fewR c
  · rw [hf] at hfewc
    obtain ⟨cn, pair, ins⟩ := c
    obtain ⟨dn, dp, di⟩ := d
    (refine Pure.of_code mix Tryd.call6 k_6 (by simp) (fun hB => ?_); (try simp at hB); (try simp -implicitDefEqProofs [c_tallystonelaw34_CompileValid_6]))
    ((try simp at haw); (try simp at hfewc); (try simp -implicitDefEqProofs); repeat' first | (with_reducible refine gdK_em (fun hc => ?_) (fun hc => ?_) <;> (have hc' := hc; (try simp at hc'); simp -implicitDefEqProofs [hc, hc'])) | (with_reducible refine cdK_em (fun hc => ?_) (fun hc => ?_) <;> (have hc' := hc; (try simp at hc'); simp -implicitDefEqProofs [hc, hc'])) | (with_reducible refine pickK_em (fun hc => ?_) (fun hc => ?_) <;> (have hc' := hc; (try simp at hc'); simp -implicitDefEqProofs [hc, hc'])) | (with_reducible apply callK_pure <;> first | (simp only [eras, era, eras_map]; first | with_reducible exact haw | simpa using haw) | (simp -implicitDefEqProofs)) | (with_reducible apply callK_pure <;> first | (simp only [eras, era, eras_map]; first | with_reducible exact hfewc | simpa using hfewc) | (simp -implicitDefEqProofs)))
  cases hg : fewR d
  · rw [hf] at hfewc
    rw [hg] at hfewd
    obtain ⟨cn, pair, ins⟩ := c
    obtain ⟨dn, dp, di⟩ := d
    (refine Pure.of_code mix Tryd.call6 k_6 (by simp) (fun hB => ?_); (try simp at hB); (try simp -implicitDefEqProofs [c_tallystonelaw34_CompileValid_6]))
    ((try simp at haw); (try simp at hfewc); (try simp at hfewd); (try simp -implicitDefEqProofs); repeat' first | (with_reducible refine gdK_em (fun hc => ?_) (fun hc => ?_) <;> (have hc' := hc; (try simp at hc'); simp -implicitDefEqProofs [hc, hc'])) | (with_reducible refine cdK_em (fun hc => ?_) (fun hc => ?_) <;> (have hc' := hc; (try simp at hc'); simp -implicitDefEqProofs [hc, hc'])) | (with_reducible refine pickK_em (fun hc => ?_) (fun hc => ?_) <;> (have hc' := hc; (try simp at hc'); simp -implicitDefEqProofs [hc, hc'])) | (with_reducible apply callK_pure <;> first | (simp only [eras, era, eras_map]; first | with_reducible exact haw | simpa using haw) | (simp -implicitDefEqProofs)) | (with_reducible apply callK_pure <;> first | (simp only [eras, era, eras_map]; first | with_reducible exact hfewc | simpa using hfewc) | (simp -implicitDefEqProofs)) | (with_reducible apply callK_pure <;> first | (simp only [eras, era, eras_map]; first | with_reducible exact hfewd | simpa using hfewd) | (simp -implicitDefEqProofs)))
  rw [hf] at hfewc
  rw [hg] at hfewd
  have hlen : c.ins.length ≤ 400 := by simp [fewR] at hf; exact hf.2
  have hlend : d.ins.length ≤ 400 := by simp [fewR] at hg; exact hg.2
  have hown := w_own c (by omega)
  have hownd := w_own d (by omega)
  have hfold := w_fold c (by omega)
  have htxt := w_text2 c (by omega)
  have hval := meaB c (by omega)
  have hrval := w_rvalid c (by omega)
  have hsz := w_size c (by omega)
  have hrsz := w_rsize c (by omega)
  have hsame := w_same c d (by omega) (by omega)
  have hrsame := w_rsame c d (by omega) (by omega)
  have hself := w_same c c (by omega) (by omega)
  rw [samR_refl] at hself
  generalize sizR c = sz at *
  generalize samR c d = sm at *
  cases hm : (meaR c).2
  · have e1 : foldR c = (⟨[], false, []⟩, 1) := by unfold foldR; rw [if_neg (by simp [hm])]
    have e2 : textR c = ([], 1) := by unfold textR; rw [if_neg (by simp [hm])]
    have hz := w_same ⟨[], false, []⟩ ⟨[], false, []⟩ (by simp) (by simp)
    rw [samR_refl] at hz
    rw [hm] at hval hrval
    rw [e1] at hfold
    rw [e2] at htxt
    obtain ⟨cn, pair, ins⟩ := c
    obtain ⟨dn, dp, di⟩ := d
    (refine Pure.of_code mix Tryd.call6 k_6 (by simp) (fun hB => ?_); (try simp at hB); (try simp -implicitDefEqProofs [c_tallystonelaw34_CompileValid_6]))
    ((try simp at haw); (try simp at hfewc); (try simp at hfewd); (try simp at hown); (try simp at hownd); (try simp at hfold); (try simp at htxt); (try simp at hval); (try simp at hrval); (try simp at hsz); (try simp at hrsz); (try simp at hsame); (try simp at hrsame); (try simp at hself); (try simp at hz); (try simp -implicitDefEqProofs); repeat' first | (with_reducible refine gdK_em (fun hc => ?_) (fun hc => ?_) <;> (have hc' := hc; (try simp at hc'); simp -implicitDefEqProofs [hc, hc'])) | (with_reducible refine cdK_em (fun hc => ?_) (fun hc => ?_) <;> (have hc' := hc; (try simp at hc'); simp -implicitDefEqProofs [hc, hc'])) | (with_reducible refine pickK_em (fun hc => ?_) (fun hc => ?_) <;> (have hc' := hc; (try simp at hc'); simp -implicitDefEqProofs [hc, hc'])) | (with_reducible apply callK_pure <;> first | (simp only [eras, era, eras_map]; first | with_reducible exact haw | simpa using haw) | (simp -implicitDefEqProofs)) | (with_reducible apply callK_pure <;> first | (simp only [eras, era, eras_map]; first | with_reducible exact hfewc | simpa using hfewc) | (simp -implicitDefEqProofs)) | (with_reducible apply callK_pure <;> first | (simp only [eras, era, eras_map]; first | with_reducible exact hfewd | simpa using hfewd) | (simp -implicitDefEqProofs)) | (with_reducible apply callK_pure <;> first | (simp only [eras, era, eras_map]; first | with_reducible exact hown | simpa using hown) | (simp -implicitDefEqProofs)) | (with_reducible apply callK_pure <;> first | (simp only [eras, era, eras_map]; first | with_reducible exact hownd | simpa using hownd) | (simp -implicitDefEqProofs)) | (with_reducible apply callK_pure <;> first | (simp only [eras, era, eras_map]; first | with_reducible exact hfold | simpa using hfold) | (simp -implicitDefEqProofs)) | (with_reducible apply callK_pure <;> first | (simp only [eras, era, eras_map]; first | with_reducible exact htxt | simpa using htxt) | (simp -implicitDefEqProofs)) | (with_reducible apply callK_pure <;> first | (simp only [eras, era, eras_map]; first | with_reducible exact hval | simpa using hval) | (simp -implicitDefEqProofs)) | (with_reducible apply callK_pure <;> first | (simp only [eras, era, eras_map]; first | with_reducible exact hrval | simpa using hrval) | (simp -implicitDefEqProofs)) | (with_reducible apply callK_pure <;> first | (simp only [eras, era, eras_map]; first | with_reducible exact hsz | simpa using hsz) | (simp -implicitDefEqProofs)) | (with_reducible apply callK_pure <;> first | (simp only [eras, era, eras_map]; first | with_reducible exact hrsz | simpa using hrsz) | (simp -implicitDefEqProofs)) | (with_reducible apply callK_pure <;> first | (simp only [eras, era, eras_map]; first | with_reducible exact hsame | simpa using hsame) | (simp -implicitDefEqProofs)) | (with_reducible apply callK_pure <;> first | (simp only [eras, era, eras_map]; first | with_reducible exact hrsame | simpa using hrsame) | (simp -implicitDefEqProofs)) | (with_reducible apply callK_pure <;> first | (simp only [eras, era, eras_map]; first | with_reducible exact hself | simpa using hself) | (simp -implicitDefEqProofs)) | (with_reducible apply callK_pure <;> first | (simp only [eras, era, eras_map]; first | with_reducible exact hz | simpa using hz) | (simp -implicitDefEqProofs)))
  · obtain ⟨x, hx⟩ : ∃ x : Code, x = ⟨c.name, c.pair, foldC c.ins⟩ := ⟨_, rfl⟩
    have e1 : foldR c = (x, 0) := by unfold foldR; rw [if_pos hm, hx]
    have e2 : textR c = (txtC c.ins, 0) := by unfold textR; rw [if_pos hm]
    have hfl := foldC_length c.ins
    have hxl : x.ins.length ≤ 400 := by rw [hx]; simp only []; omega
    have hrfold := w_rfold c (by omega) hm
    rw [← hx] at hrfold
    have hrtxt := w_rtext c (by omega) hm
    have hownx := w_own x (by omega)
    have hselfx := w_same x x (by omega) (by omega)
    rw [samR_refl] at hselfx
    rw [hm] at hval hrval
    rw [e1] at hfold
    rw [e2] at htxt
    clear hx e1 e2
    generalize txtC c.ins = tx at *
    obtain ⟨cn, pair, ins⟩ := c
    obtain ⟨dn, dp, di⟩ := d
    obtain ⟨xn, xp, xi⟩ := x
    (refine Pure.of_code mix Tryd.call6 k_6 (by simp) (fun hB => ?_); (try simp at hB); (try simp -implicitDefEqProofs [c_tallystonelaw34_CompileValid_6]))
    ((try simp at haw); (try simp at hfewc); (try simp at hfewd); (try simp at hown); (try simp at hownd); (try simp at hfold); (try simp at htxt); (try simp at hval); (try simp at hrval); (try simp at hsz); (try simp at hrsz); (try simp at hsame); (try simp at hrsame); (try simp at hself); (try simp at hrfold); (try simp at hrtxt); (try simp at hownx); (try simp at hselfx); (try simp -implicitDefEqProofs); repeat' first | (with_reducible refine gdK_em (fun hc => ?_) (fun hc => ?_) <;> (have hc' := hc; (try simp at hc'); simp -implicitDefEqProofs [hc, hc'])) | (with_reducible refine cdK_em (fun hc => ?_) (fun hc => ?_) <;> (have hc' := hc; (try simp at hc'); simp -implicitDefEqProofs [hc, hc'])) | (with_reducible refine pickK_em (fun hc => ?_) (fun hc => ?_) <;> (have hc' := hc; (try simp at hc'); simp -implicitDefEqProofs [hc, hc'])) | (with_reducible apply callK_pure <;> first | (simp only [eras, era, eras_map]; first | with_reducible exact haw | simpa using haw) | (simp -implicitDefEqProofs)) | (with_reducible apply callK_pure <;> first | (simp only [eras, era, eras_map]; first | with_reducible exact hfewc | simpa using hfewc) | (simp -implicitDefEqProofs)) | (with_reducible apply callK_pure <;> first | (simp only [eras, era, eras_map]; first | with_reducible exact hfewd | simpa using hfewd) | (simp -implicitDefEqProofs)) | (with_reducible apply callK_pure <;> first | (simp only [eras, era, eras_map]; first | with_reducible exact hown | simpa using hown) | (simp -implicitDefEqProofs)) | (with_reducible apply callK_pure <;> first | (simp only [eras, era, eras_map]; first | with_reducible exact hownd | simpa using hownd) | (simp -implicitDefEqProofs)) | (with_reducible apply callK_pure <;> first | (simp only [eras, era, eras_map]; first | with_reducible exact hfold | simpa using hfold) | (simp -implicitDefEqProofs)) | (with_reducible apply callK_pure <;> first | (simp only [eras, era, eras_map]; first | with_reducible exact htxt | simpa using htxt) | (simp -implicitDefEqProofs)) | (with_reducible apply callK_pure <;> first | (simp only [eras, era, eras_map]; first | with_reducible exact hval | simpa using hval) | (simp -implicitDefEqProofs)) | (with_reducible apply callK_pure <;> first | (simp only [eras, era, eras_map]; first | with_reducible exact hrval | simpa using hrval) | (simp -implicitDefEqProofs)) | (with_reducible apply callK_pure <;> first | (simp only [eras, era, eras_map]; first | with_reducible exact hsz | simpa using hsz) | (simp -implicitDefEqProofs)) | (with_reducible apply callK_pure <;> first | (simp only [eras, era, eras_map]; first | with_reducible exact hrsz | simpa using hrsz) | (simp -implicitDefEqProofs)) | (with_reducible apply callK_pure <;> first | (simp only [eras, era, eras_map]; first | with_reducible exact hsame | simpa using hsame) | (simp -implicitDefEqProofs)) | (with_reducible apply callK_pure <;> first | (simp only [eras, era, eras_map]; first | with_reducible exact hrsame | simpa using hrsame) | (simp -implicitDefEqProofs)) | (with_reducible apply callK_pure <;> first | (simp only [eras, era, eras_map]; first | with_reducible exact hself | simpa using hself) | (simp -implicitDefEqProofs)) | (with_reducible apply callK_pure <;> first | (simp only [eras, era, eras_map]; first | with_reducible exact hrfold | simpa using hrfold) | (simp -implicitDefEqProofs)) | (with_reducible apply callK_pure <;> first | (simp only [eras, era, eras_map]; first | with_reducible exact hrtxt | simpa using hrtxt) | (simp -implicitDefEqProofs)) | (with_reducible apply callK_pure <;> first | (simp only [eras, era, eras_map]; first | with_reducible exact hownx | simpa using hownx) | (simp -implicitDefEqProofs)) | (with_reducible apply callK_pure <;> first | (simp only [eras, era, eras_map]; first | with_reducible exact hselfx | simpa using hselfx) | (simp -implicitDefEqProofs)))
end Go.Proofs.YtkapabohpfkcoaaDoor
