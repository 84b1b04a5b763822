/- The law of events at all the sites. -/
import Derived.Test.YtcdofhfneiednaaPoV
namespace Go.Proofs.Ytcdofhfneiednaa
set_option linter.unusedSimpArgs false
set_option linter.unusedVariables false
open Go.RowKit

/-- An event at every site, written out. -/
def Ev.each (e : Ev) : List Ev := if e.site < 0 then [⟨e.at', e.kind, 0, e.way⟩, ⟨e.at', e.kind, 1, e.way⟩, ⟨e.at', e.kind, 2, e.way⟩] else [e]
def allP (p : Pol) : Pol := { p with evs := p.evs.flatMap Ev.each }
theorem due_all (es : List Ev) (m : Int) : due (es.flatMap Ev.each) m = (due es m).flatMap Ev.each := by
  unfold due
  induction es with
  | nil => rfl
  | cons e r ih =>
    simp only [List.flatMap_cons, List.filter_append, List.filter_cons, ih]
    by_cases h : e.at' = m
    · by_cases hs : e.site < 0
      · simp [Ev.each, hs, h]
      · simp [Ev.each, hs, h]
    · by_cases hs : e.site < 0
      · simp [Ev.each, hs, h]
      · simp [Ev.each, hs, h]
theorem app1_site (s : SS) (e : Ev) (n : Int) : app1 s ⟨e.at', e.kind, n, e.way⟩ = app1 s e := rfl
theorem force_each (l : List SS) (e : Ev) (h3 : l.length = 3) : (e.each).foldl force l = force l e := by
  unfold Ev.each
  by_cases hs : e.site < 0
  · rw [if_pos hs]
    simp only [List.foldl_cons, List.foldl_nil]
    apply List.ext_getElem?
    intro k
    simp only [force_at]
    by_cases hk : k < l.length
    · rw [List.getElem?_eq_getElem hk]
      have : k = 0 ∨ k = 1 ∨ k = 2 := by omega
      rcases this with rfl | rfl | rfl <;> simp [hitsE, hs, app1_site]
    · rw [List.getElem?_eq_none (by omega)]; rfl
  · rw [if_neg hs]; rfl
theorem fold_each (es : List Ev) : ∀ (l : List SS), l.length = 3 → (es.flatMap Ev.each).foldl force l = es.foldl force l := by
  induction es with
  | nil => intro l _; rfl
  | cons e r ih =>
    intro l h
    rw [List.flatMap_cons, List.foldl_append, force_each l e h, List.foldl_cons]
    exact ih _ (by rw [force_len]; exact h)
theorem all_step (p : Pol) (l : List SS) (n : Int) (id : Int) {i : Int} (h3 : l.length = 3) (hl : Lo i l) :
    ∃ l2 n2, Ss.at' ⟨p, l, n⟩ id = ⟨p, l2, n2⟩ ∧ Ss.at' ⟨allP p, l, n⟩ id = ⟨allP p, l2, n2⟩ ∧ l2.length = 3 ∧ n ≤ n2 ∧ n2 ≤ n + 1 ∧ Lo i l2 := by
  cases hin : inR id l.length with
  | false =>
    refine ⟨l, n, ?_, ?_, h3, by omega, by omega, hl⟩ <;> simp [Ss.at', hin]
  | true =>
    refine ⟨(due p.evs (n + 1)).foldl force l, n + 1, ?_, ?_, by rw [fold_len]; exact h3, by omega, by omega, lo_fold _ hl⟩
    · simp [Ss.at', hin]
    · simp [Ss.at', hin, allP, due_all, fold_each _ _ h3]
theorem each_len (es : List Ev) : (es.flatMap Ev.each).length ≤ es.length * 3 := by
  induction es with
  | nil => simp
  | cons e r ih =>
    rw [List.flatMap_cons, List.length_append, List.length_cons]
    have : e.each.length ≤ 3 := by unfold Ev.each; split <;> simp
    omega
/-- What the loop over the accesses keeps. -/
structure Lat3 (R : Nat → Prop) (wc : World) (p p' : Pol) (b : Nat) (bs : List Nat) (b' : Nat) (bs' : List Nat) (i : Nat) (l : List SS) (n : Int) (wr : World) : Prop where
  two : Two R wr b ⟨p, l, n⟩ bs b' ⟨p', l, n⟩ bs'
  four : l.length = 3
  lo : 0 ≤ n
  hi : n ≤ i
  few : Lo i l
  kp : Kp R wc wr
end Go.Proofs.Ytcdofhfneiednaa
