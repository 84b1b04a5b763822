/- The document's book of threads: what its numbers are behind each step. -/
import Derived.Test.YtbmbfgcdbpanjaaCrP
namespace Go.Proofs.Ytbmbfgcdbpanjaa
set_option linter.unusedSimpArgs false
set_option linter.unusedVariables false
open Go.RowKit

theorem codes_ext {B B' : Bk} {l : List Int} (hl : B'.ended.length = B.ended.length) (hll : l.length = B.ended.length) (h : ∀ i, (hi : i < B.ended.length) → l[i]? = some (B'.code (i : Nat))) : codes B' = l := by
  apply List.ext_getElem?
  intro i
  by_cases hi : i < B.ended.length
  · rw [codes_at (by omega), h i hi]
  · rw [List.getElem?_eq_none (by rw [codes_len]; omega), List.getElem?_eq_none (by omega)]
theorem run_app (B : Bk) (n : Nat) : Bk.run { B with wait := B.wait ++ [n] } = n := by
  unfold Bk.run; rw [List.getLastD_eq_getLast?]; simp
theorem codes_resume {B : Bk} (h : BOk B) {n : Nat} (hc : B.code n = 0) : codes { B with wait := B.wait ++ [n] } = ((codes B).set B.run 2).set n 1 := by
  obtain ⟨m, hm, hn, hl, hw⟩ := code_zero hc
  obtain rfl : n = m := by omega
  have hrl := run_lt h
  have hri := run_in h
  have hlr := h.live _ hri
  have hnr : ¬ B.run = n := fun e => hw (e ▸ hri)
  refine codes_ext (B := B) rfl (by simp [codes_len]) (fun i hi => ?_)
  rw [code_nat (by simpa using hi), run_app]
  rw [List.getElem?_set, List.getElem?_set, codes_at hi, code_nat hi]
  simp only [List.length_set, codes_len]
  by_cases e1 : n = i
  · subst e1
    rw [if_pos rfl, if_pos hn, if_neg (by simp [List.getD_eq_getElem?_getD, hl]), if_pos rfl]
  · rw [if_neg e1]
    by_cases e2 : B.run = i
    · subst e2
      rw [if_pos rfl, if_pos hrl, if_neg (by simp [List.getD_eq_getElem?_getD, hlr]), if_neg (fun e => e1 e.symm), if_pos (by simp [hri])]
    · rw [if_neg e2]
      congr 1
      by_cases h3 : B.ended.getD i false = true
      · rw [if_pos h3, if_pos h3]
      · have f1 : ¬ i = B.run := fun e => e2 e.symm
        have f2 : ¬ i = n := fun e => e1 e.symm
        have f3 : (i ∈ B.wait ++ [n]) ↔ i ∈ B.wait := by simp [f2]
        simp only [h3, f1, f2, f3, if_false]
/-- Who had the running one run. -/
def Bk.prev (B : Bk) : Nat := B.wait.getD (B.wait.length - 2) 0
theorem drop_split {B : Bk} (h : ¬ B.wait.length = 1) (ok : BOk B) : B.wait.dropLast.getLastD 0 = B.prev ∧ B.prev ∈ B.wait.dropLast := by
  have hne := ok.ne
  have hl : B.wait.dropLast.length = B.wait.length - 1 := by simp
  have hg : B.wait.dropLast[B.wait.length - 2]? = some B.prev := by
    rw [List.getElem?_dropLast, if_pos (by omega)]
    unfold Bk.prev
    rw [List.getD_eq_getElem?_getD, List.getElem?_eq_getElem (by omega)]
    rfl
  refine ⟨?_, List.mem_of_getElem? hg⟩
  rw [List.getLastD_eq_getLast?, List.getLast?_eq_getElem?, hl, show B.wait.length - 1 - 1 = B.wait.length - 2 by omega, hg]
  rfl
theorem codes_back {B : Bk} (h : BOk B) (h1 : ¬ B.wait.length = 1) (fin : Bool) :
    codes { wait := B.wait.dropLast, ended := if fin then B.ended.set B.run true else B.ended } = ((codes B).set B.run (if fin then 3 else 0)).set B.prev 1 := by
  have hrl := run_lt h
  have hri := run_in h
  have hlr := h.live _ hri
  obtain ⟨hp1, hp2⟩ := drop_split h1 h
  have hpw := mem_dropLast hp2
  have hpl := h.lt _ hpw
  have hlp := h.live _ hpw
  have hpr : B.prev ≠ B.run := run_notin h hp2
  have hlen : (if fin then B.ended.set B.run true else B.ended).length = B.ended.length := by split <;> simp
  refine codes_ext (B := B) hlen (by simp [codes_len]) (fun i hi => ?_)
  have hrun : Bk.run { wait := B.wait.dropLast, ended := if fin then B.ended.set B.run true else B.ended } = B.prev := hp1
  rw [code_nat (by show i < (if fin then B.ended.set B.run true else B.ended).length; rw [hlen]; exact hi), hrun]
  rw [List.getElem?_set, List.getElem?_set, codes_at hi, code_nat hi]
  simp only [List.length_set, codes_len]
  have hend : ∀ j, ¬ j = B.run → (if fin then B.ended.set B.run true else B.ended).getD j false = B.ended.getD j false := by
    intro j hj
    split
    · simp only [List.getD_eq_getElem?_getD]
      rw [List.getElem?_set_ne (fun e => hj e.symm)]
    · rfl
  by_cases e1 : B.prev = i
  · subst e1
    rw [if_pos rfl, if_pos hpl, hend _ hpr, if_neg (by simp [List.getD_eq_getElem?_getD, hlp]), if_pos rfl]
  · rw [if_neg e1]
    by_cases e2 : B.run = i
    · subst e2
      rw [if_pos rfl, if_pos hrl]
      cases fin with
      | true => simp [List.getD_eq_getElem?_getD, hrl]
      | false =>
        have f1 : ¬ B.run = B.prev := fun e => hpr e.symm
        have f2 : ¬ B.run ∈ B.wait.dropLast := fun hm => run_notin h hm rfl
        simp [List.getD_eq_getElem?_getD, hlr, f1, f2]
    · rw [if_neg e2, hend _ (fun e => e2 e.symm)]
      congr 1
      by_cases h3 : B.ended.getD i false = true
      · rw [if_pos h3, if_pos h3]
      · have f1 : ¬ i = B.run := fun e => e2 e.symm
        have f2 : ¬ i = B.prev := fun e => e1 e.symm
        have f3 : (i ∈ B.wait.dropLast) ↔ i ∈ B.wait := by
          constructor
          · exact mem_dropLast
          · intro h4
            rw [wait_split h] at h4
            simp at h4
            rcases h4 with h4 | h4
            · exact h4
            · exact absurd h4.symm e2
        simp only [h3, f1, f2, f3, if_false]
theorem codes_close {B : Bk} (h : BOk B) {n : Nat} (hc : B.code n = 0) : codes { B with ended := B.ended.set n true } = (codes B).set n 3 := by
  obtain ⟨m, hm, hn, hl, hw⟩ := code_zero hc
  obtain rfl : n = m := by omega
  refine codes_ext (B := B) (by simp) (by simp [codes_len]) (fun i hi => ?_)
  have hrun : Bk.run { B with ended := B.ended.set n true } = B.run := rfl
  rw [code_nat (by simpa using hi), hrun, List.getElem?_set, codes_at hi, code_nat hi]
  simp only [codes_len]
  by_cases e1 : n = i
  · subst e1
    rw [if_pos rfl, if_pos hn, if_pos (by simp [List.getD_eq_getElem?_getD, hn])]
  · rw [if_neg e1]
    simp only [List.getD_eq_getElem?_getD]
    rw [List.getElem?_set_ne e1]
theorem by_resume {B : Bk} {by' : List Int} (h : ByOk B by') (ok : BOk B) {n : Nat} (hn : n < B.ended.length) (hw : n ∉ B.wait) : ByOk { B with wait := B.wait ++ [n] } (by'.set n B.run) := by
  refine ⟨by simp [h.len], fun i hi => ?_⟩
  simp only [List.length_append, List.length_singleton] at hi
  simp only [List.getD_eq_getElem?_getD]
  by_cases e : i + 1 < B.wait.length
  · rw [List.getElem?_append_left e, List.getElem?_append_left (by omega)]
    have h1 := h.pre i e
    simp only [List.getD_eq_getElem?_getD] at h1
    have hm : B.wait[i + 1]?.getD 0 ∈ B.wait := by
      rw [List.getElem?_eq_getElem e]; exact List.getElem_mem _
    rw [List.getElem?_set_ne (fun c => hw (by rw [c]; exact hm))]
    exact h1
  · have hi' : i + 1 = B.wait.length := by omega
    rw [List.getElem?_append_right (by omega), List.getElem?_append_left (by omega)]
    simp only [hi', Nat.sub_self, List.getElem?_cons_zero, Option.getD_some]
    rw [List.getElem?_set_self (by rw [h.len]; exact hn)]
    unfold Bk.run
    rw [List.getLastD_eq_getLast?, List.getLast?_eq_getElem?, show B.wait.length - 1 = i by omega]
theorem by_drop {B : Bk} {by' : List Int} (h : ByOk B by') (e : List Bool) (he : e.length = B.ended.length) : ByOk { wait := B.wait.dropLast, ended := e } by' := by
  refine ⟨by rw [h.len, he], fun i hi => ?_⟩
  simp only [List.length_dropLast] at hi
  have h1 := h.pre i (by omega)
  simp only [List.getD_eq_getElem?_getD] at h1 ⊢
  rw [List.getElem?_dropLast, if_pos (by omega), List.getElem?_dropLast, if_pos (by omega)]
  exact h1
theorem by_same {B : Bk} {by' : List Int} (h : ByOk B by') (e : List Bool) (he : e.length = B.ended.length) : ByOk { B with ended := e } by' := ⟨by rw [h.len, he], h.pre⟩
theorem by_prev {B : Bk} {by' : List Int} (h : ByOk B by') (ok : BOk B) (h1 : ¬ B.wait.length = 1) : by'[B.run]? = some (B.prev : Int) := by
  have hne := ok.ne
  have := h.pre (B.wait.length - 2) (by omega)
  rw [show B.wait.length - 2 + 1 = B.wait.length - 1 by omega] at this
  have e : B.wait.getD (B.wait.length - 1) 0 = B.run := by
    unfold Bk.run
    rw [List.getLastD_eq_getLast?, List.getLast?_eq_getElem?, List.getD_eq_getElem?_getD]
  rw [e] at this
  exact this
theorem run_zero {B : Bk} (h : BOk B) : B.run = 0 ↔ B.wait.length = 1 := by
  have hh := h.head
  constructor
  · intro e
    by_cases h1 : B.wait.length = 1
    · exact h1
    · exfalso
      have h2 := head_dropLast hh h1
      have : 0 ∈ B.wait.dropLast := List.mem_of_head? h2
      exact run_notin h this e.symm
  · intro e
    unfold Bk.run
    match hx : B.wait, e, hh with
    | [a], _, hh => simpa using hh
end Go.Proofs.Ytbmbfgcdbpanjaa
