/- Many sites: where they lie; a step of one of them. -/
import Derived.Test.YtcdofhfneiednaaPoH
import Derived.Test.YtcdofhfneiednaaPoC
namespace Go.Proofs.Ytcdofhfneiednaa
set_option linter.unusedSimpArgs false
set_option linter.unusedVariables false
open Go.RowKit

/-- What is asked of a site's whereabouts. -/
structure Spy (Sp : World → Nat → SS → (Nat → Prop) → Prop) : Prop where
  kp : ∀ {S : Nat → Prop} {w w' : World} {b : Nat} {s : SS} {F : Nat → Prop}, Sp w b s F → Kp S w w' → (∀ k, k < w.heap.size → F k → ¬ S k) → Sp w' b s F
  old : ∀ {w : World} {b : Nat} {s : SS} {F : Nat → Prop}, Sp w b s F → Sp w b s (fun k => F k ∧ k < w.heap.size)
  ok : ∀ {w : World} {b : Nat} {s : SS} {F : Nat → Prop}, Sp w b s F → SOk s
theorem spy_site : Spy Site := ⟨fun h k hn => h.kp k hn, fun h => h.old, fun h => h.ok⟩
theorem spy_rsite : Spy RSite := ⟨fun h k hn => h.kp k hn, fun h => h.old, fun h => h.ok⟩
structure Many (Sp : World → Nat → SS → (Nat → Prop) → Prop) (w : World) (bs : List Nat) (l : List SS) (Fs : Nat → Nat → Prop) : Prop where
  len : bs.length = l.length
  at' : ∀ i, (h : i < l.length) → Sp w (bs.getD i 0) l[i] (Fs i)
  apart : ∀ i j k, i ≠ j → Fs i k → Fs j k → False
  lt : ∀ i k, Fs i k → k < w.heap.size
section
variable {Sp : World → Nat → SS → (Nat → Prop) → Prop} {w w' : World} {bs : List Nat} {l : List SS} {Fs : Nat → Nat → Prop}
theorem Many.kp {S : Nat → Prop} (Y : Spy Sp) (h : Many Sp w bs l Fs) (k : Kp S w w') (hn : ∀ i k, k < w.heap.size → Fs i k → ¬ S k) : Many Sp w' bs l Fs :=
  ⟨h.len, fun i hi => Y.kp (h.at' i hi) k (hn i), h.apart, fun i j hj => Nat.lt_of_lt_of_le (h.lt i j hj) k.size⟩
/-- What a step of one site leaves. -/
def SThen (Sp : World → Nat → SS → (Nat → Prop) → Prop) (b : Nat) (s' : SS) (F : Nat → Prop) (w w' : World) : Prop := ∃ F', Sp w' b s' F' ∧ Kp F w w' ∧ ∀ k, F' k → F k ∨ w.heap.size ≤ k
theorem Many.step (Y : Spy Sp) (h : Many Sp w bs l Fs) {i : Nat} (hi : i < l.length) {s' : SS} (ht : SThen Sp (bs.getD i 0) s' (Fs i) w w') :
    ∃ Fs', Many Sp w' bs (l.set i s') Fs' ∧ (∀ j k, Fs' j k → Fs j k ∨ (w.heap.size ≤ k ∧ k < w'.heap.size)) ∧ Kp (Fs i) w w' := by
  obtain ⟨F', h1, h2, h3⟩ := ht
  have h1' := Y.old h1
  refine ⟨fun j k => if j = i then F' k ∧ k < w'.heap.size else Fs j k, ⟨by rw [h.len]; simp, fun j hj => ?_, fun a b k hab ha hb => ?_, fun j k hk => ?_⟩, fun j k hk => ?_, h2⟩
  · by_cases e : j = i
    · subst e
      simp only [if_true, List.getElem_set_self]
      exact h1'
    · simp only [if_neg e]
      rw [List.getElem_set_ne (fun c => e c.symm)]
      exact Y.kp (h.at' j (by simpa using hj)) h2 (fun k _ hf hf' => h.apart j i k e hf hf')
  · by_cases ea : a = i
    · subst ea
      have eb : b ≠ a := fun c => hab c.symm
      simp only [if_true, if_neg eb] at ha hb
      rcases h3 k ha.1 with h' | h'
      · exact h.apart a b k hab h' hb
      · have := h.lt b k hb; omega
    · by_cases eb : b = i
      · subst eb
        simp only [if_true, if_neg ea] at ha hb
        rcases h3 k hb.1 with h' | h'
        · exact h.apart a b k hab ha h'
        · have := h.lt a k ha; omega
      · simp only [if_neg ea, if_neg eb] at ha hb
        exact h.apart a b k hab ha hb
  · by_cases e : j = i
    · simp only [if_pos e] at hk; exact hk.2
    · simp only [if_neg e] at hk; exact Nat.lt_of_lt_of_le (h.lt j k hk) h2.size
  · by_cases e : j = i
    · subst e
      simp only [if_true] at hk
      exact (h3 k hk.1).imp id (fun h => ⟨h, hk.2⟩)
    · simp only [if_neg e] at hk; exact .inl hk
/-- One more. -/
theorem Many.snoc (Y : Spy Sp) (h : Many Sp w bs l Fs) {b : Nat} {s : SS} {F : Nat → Prop} (hs : Sp w b s F) (hF : ∀ i k, Fs i k → F k → False) (hl : ∀ i, l.length ≤ i → ∀ k, ¬ Fs i k) :
    Many Sp w (bs ++ [b]) (l ++ [s]) (fun j k => if j = l.length then F k ∧ k < w.heap.size else Fs j k) := by
  have hs' := Y.old hs
  have hbl := h.len
  refine ⟨by simp [h.len], fun j hj => ?_, fun a b' k hab ha hb => ?_, fun j k hk => ?_⟩
  · simp only [List.length_append, List.length_singleton] at hj
    by_cases e : j = l.length
    · subst e
      simp only [if_true]
      have : (bs ++ [b]).getD l.length 0 = b := by
        rw [List.getD_eq_getElem?_getD, List.getElem?_append_right (by omega)]; simp [h.len]
      rw [this, List.getElem_append_right (Nat.le_refl _)]
      simpa using hs'
    · simp only [if_neg e]
      have hjb : j < bs.length := by rw [h.len]; omega
      have : (bs ++ [b]).getD j 0 = bs.getD j 0 := by
        rw [List.getD_eq_getElem?_getD, List.getD_eq_getElem?_getD, List.getElem?_append_left hjb]
      rw [this, List.getElem_append_left (show j < l.length by omega)]
      exact h.at' j (by omega)
  · by_cases ea : a = l.length
    · subst ea
      have eb : b' ≠ l.length := fun c => hab c.symm
      simp only [if_true, if_neg eb] at ha hb
      exact hF b' k hb ha.1
    · by_cases eb : b' = l.length
      · subst eb
        simp only [if_true, if_neg ea] at ha hb
        exact hF a k ha hb.1
      · simp only [if_neg ea, if_neg eb] at ha hb
        exact h.apart a b' k hab ha hb
  · by_cases e : j = l.length
    · simp only [if_pos e] at hk; exact hk.2
    · simp only [if_neg e] at hk; exact h.lt j k hk
end

/-- What is forced on a site. -/
def app1 (s : SS) (v : Ev) : SS := if v.kind = 1 then s.flush else if v.kind = 2 then s.evict v.way else if v.kind = 3 then s.dep else s
def hitsE (v : Ev) (i : Nat) : Bool := decide (v.site < 0) || v.site == i
/-- .. on the first so many. -/
def forceN (l : List SS) (v : Ev) (n : Nat) : List SS := l.mapIdx (fun j s => if j < n ∧ hitsE v j = true then app1 s v else s)
def force (l : List SS) (v : Ev) : List SS := forceN l v l.length
theorem forceN_len (l : List SS) (v : Ev) (n : Nat) : (forceN l v n).length = l.length := by simp [forceN]
theorem forceN_zero (l : List SS) (v : Ev) : forceN l v 0 = l := by
  unfold forceN
  apply List.ext_getElem
  · simp
  · intro i h1 h2; simp
theorem forceN_at (l : List SS) (v : Ev) (n i : Nat) (hi : i < l.length) (h : n ≤ i) : (forceN l v n)[i]'(by rw [forceN_len]; exact hi) = l[i] := by
  unfold forceN
  rw [List.getElem_mapIdx, if_neg (by omega)]
theorem forceN_hit (l : List SS) (v : Ev) (i : Nat) (hi : i < l.length) (h : hitsE v i = true) : forceN l v (i + 1) = (forceN l v i).set i (app1 l[i] v) := by
  unfold forceN
  apply List.ext_getElem
  · simp
  · intro j h1 h2
    rw [List.getElem_mapIdx, List.getElem_set]
    by_cases e : i = j
    · subst e; rw [if_pos ⟨by omega, h⟩, if_pos rfl]
    · rw [if_neg e, List.getElem_mapIdx]
      by_cases hj : j < i
      · simp [hj, show j < i + 1 by omega]
      · simp [hj, show ¬ j < i + 1 by omega]
theorem forceN_miss (l : List SS) (v : Ev) (i : Nat) (h : hitsE v i = false) : forceN l v (i + 1) = forceN l v i := by
  unfold forceN
  apply List.ext_getElem
  · simp
  · intro j h1 h2
    rw [List.getElem_mapIdx, List.getElem_mapIdx]
    by_cases e : j = i
    · subst e; simp [h]
    · by_cases hj : j < i
      · simp [hj, show j < i + 1 by omega]
      · simp [hj, show ¬ j < i + 1 by omega]
theorem force_none {l : List SS} {v : Ev} (h : within v.kind 1 3 = false) : force l v = l := by
  have : ∀ s, app1 s v = s := fun s => by
    unfold app1
    have : ¬ (1 ≤ v.kind ∧ v.kind ≤ 3) := fun c => by rw [within_iff.2 c] at h; cases h
    rw [if_neg (by omega), if_neg (by omega), if_neg (by omega)]
  unfold force forceN
  apply List.ext_getElem
  · simp
  · intro j h1 h2
    rw [List.getElem_mapIdx, this]
    split <;> rfl
end Go.Proofs.Ytcdofhfneiednaa
