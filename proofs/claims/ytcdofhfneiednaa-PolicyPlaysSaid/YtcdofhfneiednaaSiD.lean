/- What a site's steps keep; its contracts over the blocks that it uses. -/
import Derived.Test.YtcdofhfneiednaaSiC
namespace Go.Proofs.Ytcdofhfneiednaa
set_option linter.unusedSimpArgs false
set_option linter.unusedVariables false
open Go.RowKit

theorem ok_new (ways warm : Int) : SOk (SS.new ways warm) := by
  constructor <;> simp [SS.new, clamp] <;> omega
theorem ok_forget {s : SS} (h : SOk s) (h2 : ¬ s.state = 2) : SOk s.forget := by
  have hd : ¬ s.deopts = 4 := fun e => h2 (h.two.2 e)
  have := h.ways; have := h.warm
  refine ⟨h.ways, h.warm, by simp [SS.forget], .inl rfl, h.rw, h.hits, h.deopts, by simp [SS.forget]; omega, by simp [SS.forget], by simp [SS.forget]; exact hd, by simp [SS.forget]; omega, by simp [SS.forget]⟩
theorem ok_deopt {s : SS} (h : SOk s) (h2 : ¬ s.state = 2) : SOk s.deopt := by
  have hd : ¬ s.deopts = 4 := fun e => h2 (h.two.2 e)
  have := h.ways; have := h.warm; have h3 := h.deopts
  unfold SS.deopt
  split
  · rename_i e
    exact ⟨h.ways, h.warm, by simp, .inr (.inr rfl), h.rw, h.hits, by simp; omega, by simp; omega, by simp, by simp; omega, by simp, by simp⟩
  · rename_i e
    exact ⟨h.ways, h.warm, by simp, .inl rfl, h.rw, h.hits, by simp; omega, by simp; omega, by simp, by simp; omega, by simp; omega, by simp⟩
theorem ok_flush {s : SS} (h : SOk s) : SOk s.flush := by
  unfold SS.flush; split
  · exact h
  · rename_i h2; exact ok_forget h h2
theorem ok_dep {s : SS} (h : SOk s) : SOk s.dep := by
  unfold SS.dep; split
  · exact h
  · rename_i h2; exact ok_deopt h h2
theorem ok_hit {s : SS} (h : SOk s) (hh : s.hits < 1000000000000) : SOk { s with hits := s.hits + 1 } := by
  have := h.hits
  exact ⟨h.ways, h.warm, h.count, h.st, h.rw, by simp; omega, h.deopts, h.len, h.one, h.two, h.cold, h.nodup⟩
theorem map_sh_set {l : List Ent} {i : Nat} {x : Ent} (hi : i < l.length) (h : l[i].sh = x.sh) : (l.set i x).map Ent.sh = l.map Ent.sh := by
  rw [List.map_set, ← h]
  apply List.ext_getElem?
  intro j
  rw [List.getElem?_set]
  split
  · rename_i e; subst e; simp [hi]
  · rfl
theorem not_mem_sh {l : List Ent} {k : Int} (h : ¬ l.findIdx (fun e => e.sh == k) < l.length) : k ∉ l.map Ent.sh := by
  intro hm
  obtain ⟨e, he, hk⟩ := List.mem_map.1 hm
  exact h (List.findIdx_lt_length_of_exists ⟨e, he, by simpa using hk⟩)
theorem ok_put {s : SS} {x : Ent} (h : SOk s) (h1 : s.state = 1 ∨ (s.state = 0 ∧ s.l = [] ∧ 0 < s.ways)) (hw : ¬ s.ways = 0) (hrw : s.rw < 1000000000000) (hc : s.count ≤ 255) : SOk (SS.put (if s.state = 1 then s else { s with count := s.count + 1, state := 1 }) x) := by
  have := h.ways; have := h.warm; have h3 := h.deopts; have h4 := h.count; have h5 := h.rw; have h6 := h.len
  by_cases e1 : s.state = 1
  · rw [if_pos e1]
    have hd : ¬ s.deopts = 4 := fun e => by have := h.two.2 e; omega
    unfold SS.put
    simp only
    split
    · rename_i hi
      split
      · exact h
      · refine ⟨h.ways, h.warm, h.count, h.st, by simp; omega, h.hits, h.deopts, by simp; exact h6, ?_, h.two, h.cold, ?_⟩
        · simp only [e1, true_iff]
          intro e
          have := congrArg List.length e
          simp at this
          exact h.one.1 e1 this
        · have hsh : (s.l[s.l.findIdx (fun e => e.sh == x.sh)]'hi).sh = x.sh := by
            have := List.findIdx_getElem (p := fun e : Ent => e.sh == x.sh) (w := hi)
            simpa using this
          rw [map_sh_set hi hsh]
          exact h.nodup
    · rename_i hi
      split
      · refine ⟨h.ways, h.warm, h.count, h.st, by simp; omega, h.hits, h.deopts, by simp; omega, by simp [e1], h.two, h.cold, ?_⟩
        simp only [List.map_append, List.map_cons, List.map_nil]
        refine List.nodup_append.2 ⟨h.nodup, by simp, ?_⟩
        intro a ha b hb e
        simp at hb
        subst hb; subst e
        exact not_mem_sh hi ha
      · exact ok_deopt h (by omega)
  · rw [if_neg e1]
    rcases h1 with h1 | ⟨h0, hl, hw⟩
    · exact absurd h1 e1
    · have hd : ¬ s.deopts = 4 := fun e => by have := h.two.2 e; omega
      unfold SS.put
      simp only [hl, List.findIdx_nil, List.length_nil, Nat.lt_irrefl, if_false]
      rw [if_pos (by simpa using hw)]
      exact ⟨h.ways, h.warm, by simp; omega, .inr (.inl rfl), by simp; omega, h.hits, h.deopts, by simp; omega, by simp, by simp; exact hd, by simp, by simp⟩
theorem ok_learn {s : SS} (x : Ent) (h : SOk s) (hrw : s.rw < 1000000000000) : SOk (s.learn x) := by
  unfold SS.learn
  split
  · exact h
  · rename_i hx
    have hw : ¬ s.ways = 0 := fun e => hx (.inr e)
    have h2 := h.ways
    have h3 := h.count
    have h4 := h.warm
    split
    · rename_i h0
      have h5 := h.cold h0
      have hl : s.l = [] := by
        by_cases hn : s.l = []
        · exact hn
        · have := h.one.2 hn; omega
      split
      · rename_i hc
        exact ⟨h.ways, h.warm, by simp; omega, h.st, h.rw, h.hits, h.deopts, h.len, h.one, h.two, by simp; intro _; omega, h.nodup⟩
      · have := ok_put (x := x) h (.inr ⟨h0, hl, by omega⟩) hw hrw (by omega)
        rw [if_neg (by omega)] at this
        exact this
    · rename_i h0
      split
      · rename_i h1
        by_cases hc : s.count ≤ 255
        · have := ok_put (x := x) h (.inl h1) hw hrw hc
          rw [if_pos h1] at this
          exact this
        · -- count plays no part here
          have h' : SOk { s with count := 0 } := ⟨h.ways, h.warm, by simp, h.st, h.rw, h.hits, h.deopts, h.len, h.one, h.two, by simp; omega, h.nodup⟩
          have := ok_put (x := x) h' (.inl h1) hw hrw (by simp)
          rw [if_pos h1] at this
          unfold SS.put at this ⊢
          simp only at this ⊢
          split
          · rename_i hi
            rw [if_pos hi] at this
            split
            · exact h
            · rename_i he
              rw [if_neg he] at this
              exact ⟨this.ways, this.warm, h.count, this.st, this.rw, this.hits, this.deopts, this.len, this.one, this.two, fun e => absurd e h0, this.nodup⟩
          · rename_i hi
            rw [if_neg hi] at this
            split
            · rename_i hl
              rw [if_pos hl] at this
              exact ⟨this.ways, this.warm, h.count, this.st, this.rw, this.hits, this.deopts, this.len, this.one, this.two, fun e => absurd e h0, this.nodup⟩
            · exact ok_deopt h (by omega)
      · exact h

/-- A site over the blocks F. -/
def Site (w : World) (b : Nat) (s : SS) (F : Nat → Prop) : Prop :=
  ∃ v, SAt w b s v ∧ EAt w v s.l ∧ SOk s ∧ F b ∧ (∀ k, v.ownBlock = some k → F k)
theorem Site.kp {S : Nat → Prop} {w w' : World} {b : Nat} {s : SS} {F : Nat → Prop} (h : Site w b s F) (k : Kp S w w') (hn : ∀ k, k < w.heap.size → F k → ¬ S k) : Site w' b s F := by
  obtain ⟨v, h1, h2, h3, h4, h5⟩ := h
  exact ⟨v, Blk.kp h1 k (hn b h1.lt h4), h2.kp k (fun g hg => hn g (h2.lt g hg).2 (h5 g hg)), h3, h4, h5⟩
theorem Site.ok {w : World} {b : Nat} {s : SS} {F : Nat → Prop} (h : Site w b s F) : SOk s := h.choose_spec.2.2.1
theorem Site.lt {w : World} {b : Nat} {s : SS} {F : Nat → Prop} (h : Site w b s F) : b < w.heap.size := h.choose_spec.1.lt
/-- What a step of a site leaves: its blocks are old ones of its own, or new. -/
def Then (b : Nat) (s' : SS) (F : Nat → Prop) (w w' : World) : Prop := ∃ F', Site w' b s' F' ∧ Kp F w w' ∧ ∀ k, F' k → F k ∨ w.heap.size ≤ k
theorem then_of {b : Nat} {s' : SS} {F : Nat → Prop} {v : Value} {w w' : World} {e : Ending} (ok : SOk s') (hb : F b) (hv : ∀ k, v.ownBlock = some k → F k) (h : Sited b s' v w e w') : e = .returned (.tuple #[]) ∧ Then b s' F w w' := by
  obtain ⟨v', rfl, h1, h2, h3, h4⟩ := h
  refine ⟨rfl, fun k => F k ∨ w.heap.size ≤ k, ⟨v', h1, h2, ok, .inl hb, ?_⟩, h3.mono (fun k _ h => h.elim (fun e => e ▸ hb) (hv k)), fun _ h => h⟩
  intro k hk
  rcases h4 with h | h
  · exact .inl (hv k (h ▸ hk))
  · exact .inr (h k hk)

theorem learn_site (b : Nat) (s : SS) (x : Ent) (F : Nat → Prop) (w : World) (h : Site w b s F) (hrw : s.rw < 1000000000000) :
    Calls Try.prog 16 #[.pointer (some ⟨b, 0, none⟩), .int .i64 x.sh, .int .i64 x.sl, .int .u64 x.ep] w fun e w' => e = .returned (.tuple #[]) ∧ Then b (s.learn x) F w w' := by
  obtain ⟨v, h1, h2, h3, h4, h5⟩ := h
  exact (learn_any b s v x w h1 h2 h3 hrw).mono fun e w' hh => then_of (ok_learn x h3 hrw) h4 h5 hh
theorem flush_site (b : Nat) (s : SS) (F : Nat → Prop) (w : World) (h : Site w b s F) :
    Calls Try.prog 50 #[.pointer (some ⟨b, 0, none⟩)] w fun e w' => e = .returned (.tuple #[]) ∧ Then b s.flush F w w' := by
  obtain ⟨v, h1, h2, h3, h4, h5⟩ := h
  exact (flush_any b s v w h1 h2).mono fun e w' hh => then_of (ok_flush h3) h4 h5 hh
theorem dep_site (b : Nat) (s : SS) (F : Nat → Prop) (w : World) (h : Site w b s F) :
    Calls Try.prog 51 #[.pointer (some ⟨b, 0, none⟩)] w fun e w' => e = .returned (.tuple #[]) ∧ Then b s.dep F w w' := by
  obtain ⟨v, h1, h2, h3, h4, h5⟩ := h
  exact (dep_any b s v w h1 h2 h3.deopts).mono fun e w' hh => then_of (ok_dep h3) h4 h5 hh
/-- What Ask answers, and the site behind it. -/
def SS.askN (s : SS) (k ep : Int) : Int := match s.look k ep with | some x => x.sl | none => 0
def SS.askIs (s : SS) (k ep : Int) : Bool := (s.look k ep).isSome
def SS.asked (s : SS) (k ep : Int) : SS := if (s.look k ep).isSome then { s with hits := s.hits + 1 } else s
theorem ok_asked {s : SS} (k ep : Int) (h : SOk s) (hh : s.hits < 1000000000000) : SOk (s.asked k ep) := by
  unfold SS.asked; split
  · exact ok_hit h hh
  · exact h
theorem ask_site (b : Nat) (s : SS) (k ep : Int) (F : Nat → Prop) (w : World) (h : Site w b s F) (hh : s.hits < 1000000000000) :
    Calls Try.prog 14 #[.pointer (some ⟨b, 0, none⟩), .int .i64 k, .int .u64 ep] w fun e w' => e = .returned (.tuple #[.int .i64 (s.askN k ep), .bool (s.askIs k ep)]) ∧ Site w' b (s.asked k ep) F ∧ Kp F w w' := by
  obtain ⟨v, h1, h2, h3, h4, h5⟩ := h
  refine (ask_any b s v k ep w h1 h2 h3 hh).mono fun e w' ha => ?_
  unfold Asked at ha
  unfold SS.askN SS.askIs SS.asked
  cases hl : s.look k ep with
  | none =>
    rw [hl] at ha
    obtain ⟨rfl, hk⟩ := ha
    refine ⟨rfl, ⟨v, Blk.kp h1 hk (fun h => h), h2.kp hk (fun _ _ h => h), h3, h4, h5⟩, hk.mono (fun _ _ h => h.elim)⟩
  | some x =>
    rw [hl] at ha
    obtain ⟨rfl, hs, hk⟩ := ha
    exact ⟨rfl, ⟨v, hs, h2.kp hk (fun g hg e => h2.ne h1 (by decide) (e ▸ hg)), ok_hit h3 hh, h4, h5⟩, hk.mono (fun k _ e => e ▸ h4)⟩
theorem new_site (ways warm : Int) (w : World) :
    Calls Try.prog 13 #[.int .i64 ways, .int .i64 warm] w fun e w' => ∃ b, e = .returned (.pointer (some ⟨b, 0, none⟩)) ∧ w.heap.size ≤ b ∧ Site w' b (SS.new ways warm) (· = b) ∧ Below w.heap.size w w' :=
  (new_any ways warm w).mono fun e w' ⟨b, he, hb, hs, hk⟩ => ⟨b, he, hb, ⟨_, hs, eat_nil _, ok_new _ _, rfl, fun k hk => by cases hk⟩, hk⟩
theorem state_site (b : Nat) (s : SS) (F : Nat → Prop) (w : World) (h : Site w b s F) : Calls Try.prog 17 #[.pointer (some ⟨b, 0, none⟩)] w fun e w' => e = .returned (.int .i64 s.state) ∧ Kp (fun _ => False) w w' := by
  obtain ⟨v, h1, _⟩ := h; exact state_any b s v w h1
theorem rewrites_site (b : Nat) (s : SS) (F : Nat → Prop) (w : World) (h : Site w b s F) : Calls Try.prog 15 #[.pointer (some ⟨b, 0, none⟩)] w fun e w' => e = .returned (.int .i64 s.rw) ∧ Kp (fun _ => False) w w' := by
  obtain ⟨v, h1, _⟩ := h; exact rewrites_any b s v w h1
theorem hits_site (b : Nat) (s : SS) (F : Nat → Prop) (w : World) (h : Site w b s F) : Calls Try.prog 20 #[.pointer (some ⟨b, 0, none⟩)] w fun e w' => e = .returned (.int .i64 s.hits) ∧ Kp (fun _ => False) w w' := by
  obtain ⟨v, h1, _⟩ := h; exact hits_any b s v w h1
theorem deopts_site (b : Nat) (s : SS) (F : Nat → Prop) (w : World) (h : Site w b s F) : Calls Try.prog 18 #[.pointer (some ⟨b, 0, none⟩)] w fun e w' => e = .returned (.int .i64 s.deopts) ∧ Kp (fun _ => False) w w' := by
  obtain ⟨v, h1, _⟩ := h; exact deopts_any b s v w h1
theorem len_site (b : Nat) (s : SS) (F : Nat → Prop) (w : World) (h : Site w b s F) : Calls Try.prog 19 #[.pointer (some ⟨b, 0, none⟩)] w fun e w' => e = .returned (.int .i64 s.l.length) ∧ Kp (fun _ => False) w w' := by
  obtain ⟨v, h1, h2, _⟩ := h; exact len_any b s v w h1 h2
end Go.Proofs.Ytcdofhfneiednaa
