/- selkielaw17.SiteSettles: the plain law; the array that the law keeps. -/
import Derived.Test.YtcdofhfneiednaaSiF
namespace Go.Proofs.Ytcdofhfneiednaa
set_option linter.unusedSimpArgs false
set_option linter.unusedVariables false
open Go.RowKit

theorem nodup_below : ∀ (W : Nat) (l : List Int), l.Nodup → (∀ x ∈ l, 0 ≤ x ∧ x < (W : Int)) → l.length ≤ W
  | 0, l, _, h => by
    cases l with
    | nil => simp
    | cons x r => have := h x (by simp); omega
  | W + 1, l, hn, h => by
    have h1 := nodup_below W (l.erase W) (hn.erase _) (fun x hx => by
      obtain ⟨h2, h3⟩ := (hn.mem_erase_iff).1 hx
      have := h x h3
      omega)
    by_cases hm : (W : Int) ∈ l
    · rw [List.length_erase_of_mem hm] at h1; omega
    · rw [List.erase_of_not_mem hm] at h1; omega

/-- The law's account of the site. -/
structure Settled (W : Nat) (met : Nat → Bool) (n : Nat) (s : SS) : Prop where
  ways : s.ways = W
  rw : s.rw = n
  d : s.deopts = 0
  len : s.l.length = n
  ep : ∀ e ∈ s.l, e.ep = 7
  sh : ∀ e ∈ s.l, 0 ≤ e.sh ∧ e.sh < W
  met : ∀ q, q < W → (met q = true ↔ (q : Int) ∈ s.l.map Ent.sh)

theorem look_isSome {s : SS} {k ep : Int} (h : ∀ e ∈ s.l, e.ep = ep) : s.askIs k ep = true ↔ k ∈ s.l.map Ent.sh := by
  unfold SS.askIs SS.look
  constructor
  · intro h1
    cases hf : s.l.find? (fun e => e.sh == k) with
    | none => rw [hf] at h1; simp at h1
    | some e =>
      have h2 := List.find?_some hf
      have h3 := List.mem_of_find?_eq_some hf
      exact List.mem_map.2 ⟨e, h3, by simpa using h2⟩
  · intro h1
    obtain ⟨e, he, hk⟩ := List.mem_map.1 h1
    cases hf : s.l.find? (fun e => e.sh == k) with
    | none => have := List.find?_eq_none.1 hf e he; simp [hk] at this
    | some e' =>
      have h3 := List.mem_of_find?_eq_some hf
      simp [Option.filter, h e' h3]
theorem settle_hit {W : Nat} {met : Nat → Bool} {n : Nat} {s : SS} (h : Settled W met n s) (q : Nat) (hq : q < W) (ha : s.askIs q 7 = true) : met q = true ∧ Settled W met n (s.asked q 7) := by
  refine ⟨(h.met q hq).2 ((look_isSome h.ep).1 ha), ?_⟩
  unfold SS.asked
  split
  · exact ⟨h.ways, h.rw, h.d, h.len, h.ep, h.sh, h.met⟩
  · exact h
theorem settle_learn {W : Nat} {met : Nat → Bool} {n : Nat} {s : SS} (h : Settled W met n s) (ok : SOk s) (q : Nat) (hq : q < W) (ha : s.askIs q 7 = false) :
    ((s.asked q 7).learn ⟨q, 2 * q, 7⟩).state ≠ 1 ∧ Settled W met n ((s.asked q 7).learn ⟨q, 2 * q, 7⟩) ∨
    met q = false ∧ Settled W (fun i => i == q || met i) (n + 1) ((s.asked q 7).learn ⟨q, 2 * q, 7⟩) := by
  have hs : s.asked q 7 = s := by unfold SS.asked; unfold SS.askIs at ha; rw [ha]; rfl
  rw [hs]
  have hno : ¬ (q : Int) ∈ s.l.map Ent.sh := fun hm => by rw [(look_isSome h.ep).2 hm] at ha; cases ha
  have hmq : met q = false := by
    cases hm : met q with
    | false => rfl
    | true => exact absurd ((h.met q hq).1 hm) hno
  have hfi : ¬ s.l.findIdx (fun e => e.sh == (q : Int)) < s.l.length := fun hi => by
    have := List.findIdx_getElem (p := fun e : Ent => e.sh == (q : Int)) (w := hi)
    exact hno (List.mem_map.2 ⟨_, List.getElem_mem hi, by simpa using this⟩)
  have hlt : (s.l.length : Int) < s.ways := by
    have := nodup_below W ((q : Int) :: s.l.map Ent.sh) (List.nodup_cons.2 ⟨hno, ok.nodup⟩) (fun x hx => by
      rcases List.mem_cons.1 hx with rfl | hx
      · omega
      · obtain ⟨e, he, rfl⟩ := List.mem_map.1 hx; exact h.sh e he)
    simp only [List.length_cons, List.length_map] at this
    rw [h.ways]; omega
  have hst : s.state = 0 ∨ s.state = 1 := by
    rcases ok.st with h1 | h1 | h1
    · exact .inl h1
    · exact .inr h1
    · have := ok.two.1 h1; have := h.d; omega
  -- the entry is put behind the others
  have key : ∀ s' : SS, s'.ways = s.ways → s'.rw = s.rw → s'.deopts = s.deopts → s'.l = s.l → Settled W (fun i => i == q || met i) (n + 1) (s'.put ⟨q, 2 * q, 7⟩) := by
    intro s' e1 e2 e3 e4
    have e5 : s'.put ⟨q, 2 * q, 7⟩ = { s' with l := s'.l ++ [⟨q, 2 * q, 7⟩], rw := s'.rw + 1 } := by
      unfold SS.put
      simp only [e4]
      rw [if_neg hfi, if_pos (by rw [e1]; exact hlt)]
    rw [e5]
    refine ⟨by rw [← h.ways, ← e1], by simp only; rw [e2, h.rw]; rfl, by simp only; rw [e3, h.d], by simp [e4, h.len], ?_, ?_, ?_⟩
    · intro e he
      simp only [e4, List.mem_append, List.mem_singleton] at he
      rcases he with he | rfl
      · exact h.ep e he
      · rfl
    · intro e he
      simp only [e4, List.mem_append, List.mem_singleton] at he
      rcases he with he | rfl
      · exact h.sh e he
      · exact ⟨by simp, by simp; omega⟩
    · intro i hi
      simp only [e4, List.map_append, List.map_cons, List.map_nil, List.mem_append, List.mem_singleton, Bool.or_eq_true, beq_iff_eq, h.met i hi]
      constructor
      · rintro (h | h)
        · right; omega
        · exact .inl h
      · rintro (h | h)
        · exact .inr h
        · left; omega
  unfold SS.learn
  rw [if_neg (by simp only; intro h1; have := h.ways; rcases h1 with h1 | h1 <;> omega)]
  rcases hst with h0 | h1
  · rw [if_pos h0]
    split
    · left
      exact ⟨by simp [h0], ⟨h.ways, h.rw, h.d, h.len, h.ep, h.sh, h.met⟩⟩
    · exact .inr ⟨hmq, key _ rfl rfl rfl rfl⟩
  · rw [if_neg (by omega), if_pos h1]
    exact .inr ⟨hmq, key _ rfl rfl rfl rfl⟩

/-- The law's array. -/
def MetAt (w : World) (b : Nat) (met : Nat → Bool) : Prop := ∃ cs : Array Value, Blk w b 26 cs ∧ ∀ i, i < 8 → cs[i]? = some (.bool (met i))
theorem MetAt.kp {S : Nat → Prop} {w w' : World} {b : Nat} {met : Nat → Bool} (h : MetAt w b met) (k : Kp S w w') (hn : ¬ S b) : MetAt w' b met := by
  obtain ⟨cs, h1, h2⟩ := h
  exact ⟨cs, h1.kp k hn, h2⟩
theorem MetAt.cell {w : World} {b : Nat} {met : Nat → Bool} (h : MetAt w b met) (i : Nat) (hi : i < 8) : w.cell? ⟨b, i, none⟩ = some (.bool (met i)) := by
  obtain ⟨cs, h1, h2⟩ := h
  exact h1.cell i _ (h2 i hi)
theorem MetAt.free {w : World} {b : Nat} {met : Nat → Bool} (h : MetAt w b met) (i : Nat) : w.frozen? ⟨b, i, none⟩ = false := by
  obtain ⟨cs, h1, h2⟩ := h
  exact h1.free i
theorem MetAt.lt {w : World} {b : Nat} {met : Nat → Bool} (h : MetAt w b met) : b < w.heap.size := by
  obtain ⟨cs, h1, h2⟩ := h
  exact h1.lt
theorem MetAt.set {w : World} {b : Nat} {met : Nat → Bool} (h : MetAt w b met) (q : Nat) : MetAt (w.setCell ⟨b, q, none⟩ (.bool true)) b (fun i => i == q || met i) := by
  obtain ⟨cs, h1, h2⟩ := h
  refine ⟨_, h1.set q _, fun i hi => ?_⟩
  have h3 := h2 i hi
  obtain ⟨h4, h5⟩ := Array.getElem?_eq_some_iff.1 h3
  rw [Array.getElem?_setIfInBounds]
  by_cases e : q = i
  · subst e; simp [h4]
  · rw [if_neg e, h3]
    have : (i == q) = false := by simp; omega
    simp only [this, Bool.false_or]
end Go.Proofs.Ytcdofhfneiednaa
