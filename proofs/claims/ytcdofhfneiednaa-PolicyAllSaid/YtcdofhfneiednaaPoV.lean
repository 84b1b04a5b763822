/- The law of one site's events. -/
import Derived.Test.YtcdofhfneiednaaPoS
namespace Go.Proofs.Ytcdofhfneiednaa
set_option linter.unusedSimpArgs false
set_option linter.unusedVariables false
open Go.RowKit

/-- A policy with the events that touch site k alone. -/
def oneP (p : Pol) (k : Nat) : Pol := { p with evs := p.evs.filter (fun e => hitsE e k) }
theorem force_at (l : List SS) (v : Ev) (k : Nat) : (force l v)[k]? = (l[k]?).map (fun s => if hitsE v k then app1 s v else s) := by
  unfold force forceN
  rw [List.getElem?_mapIdx]
  by_cases h : k < l.length
  · rw [List.getElem?_eq_getElem h]; simp [h]
  · rw [List.getElem?_eq_none (by omega)]; rfl
theorem fold_one (k : Nat) (es : List Ev) : ∀ (l l' : List SS), l[k]? = l'[k]? → (es.foldl force l)[k]? = ((es.filter (fun e => hitsE e k)).foldl force l')[k]? := by
  induction es with
  | nil => intro l l' h; exact h
  | cons e r ih =>
    intro l l' h
    simp only [List.foldl_cons, List.filter_cons]
    by_cases he : hitsE e k = true
    · rw [if_pos he]
      exact ih _ _ (by rw [force_at, force_at, h])
    · rw [if_neg he]
      refine ih _ _ ?_
      rw [force_at, ← h]
      cases l[k]? with
      | none => rfl
      | some s => simp [he]
theorem due_one (es : List Ev) (k : Nat) (m : Int) : due (es.filter (fun e => hitsE e k)) m = (due es m).filter (fun e => hitsE e k) := by
  unfold due
  rw [List.filter_filter, List.filter_filter]
  apply List.filter_congr
  intro e _
  exact Bool.and_comm _ _
theorem one_step (p : Pol) (k : Nat) (l l' : List SS) (n : Int) (id : Int) {i : Int} (h4 : l.length = 4) (h4' : l'.length = 4) (hl : Lo i l) (hl' : Lo i l') (he : l[k]? = l'[k]?) :
    ∃ l2 l2' n2, Ss.at' ⟨p, l, n⟩ id = ⟨p, l2, n2⟩ ∧ Ss.at' ⟨oneP p k, l', n⟩ id = ⟨oneP p k, l2', n2⟩ ∧ l2.length = 4 ∧ l2'.length = 4 ∧ n ≤ n2 ∧ n2 ≤ n + 1 ∧ Lo i l2 ∧ Lo i l2' ∧ l2[k]? = l2'[k]? := by
  cases hin : inR id 4 with
  | false =>
    refine ⟨l, l', n, ?_, ?_, h4, h4', by omega, by omega, hl, hl', he⟩
    · simp [Ss.at', h4, hin]
    · simp [Ss.at', h4', hin]
  | true =>
    refine ⟨(due p.evs (n + 1)).foldl force l, (due (oneP p k).evs (n + 1)).foldl force l', n + 1, ?_, ?_, by rw [fold_len]; exact h4, by rw [fold_len]; exact h4', by omega, by omega, lo_fold _ hl, lo_fold _ hl', ?_⟩
    · simp [Ss.at', h4, hin]
    · simp [Ss.at', h4', hin]
    · rw [show (oneP p k).evs = p.evs.filter (fun e => hitsE e k) from rfl, due_one]
      exact fold_one k _ l l' he
theorem one_learn {l l' : List SS} {k j : Nat} (x : Ent) (hj : j < l.length) (hj' : j < l'.length) (he : l[k]? = l'[k]?) : (l.set j (l[j].learn x))[k]? = (l'.set j (l'[j].learn x))[k]? := by
  by_cases e : j = k
  · subst e
    rw [List.getElem?_eq_getElem hj, List.getElem?_eq_getElem hj'] at he
    have : l[j] = l'[j] := by simpa using he
    simp [hj, hj', this]
  · rw [List.getElem?_set_ne e, List.getElem?_set_ne e]; exact he
/-- What the loop over the accesses keeps. -/
structure Lat1 (R : Nat → Prop) (wc : World) (p p' : Pol) (k : Nat) (b : Nat) (bs : List Nat) (b' : Nat) (bs' : List Nat) (i : Nat) (l l' : List SS) (n : Int) (wr : World) : Prop where
  two : Two R wr b ⟨p, l, n⟩ bs b' ⟨p', l', n⟩ bs'
  four : l.length = 4
  four' : l'.length = 4
  lo : 0 ≤ n
  hi : n ≤ i
  few : Lo i l
  few' : Lo i l'
  eq : l[k]? = l'[k]?
  kp : Kp R wc wr
end Go.Proofs.Ytcdofhfneiednaa
