/- The document's site over the blocks that it uses; Do. -/
import Derived.Test.YtcdofhfneiednaaSiO
namespace Go.Proofs.Ytcdofhfneiednaa
set_option linter.unusedSimpArgs false
set_option linter.unusedVariables false
open Go.RowKit

theorem revict_any (b : Nat) (s : SS) (v : Value) (k : Int) (w : World) (h : RAt w b s v) (hl : REt w v s.l) (h8 : s.l.length ≤ 8) :
    Calls Try.prog 52 #[.pointer (some ⟨b, 0, none⟩), .int .i64 k] w (RSited b (s.evict k) v w) := by
  by_cases hk : k < 0 ∨ (s.l.length : Int) ≤ k
  · have : s.evict k = s := by unfold SS.evict; rw [if_pos hk]
    rw [this]; exact revict_out b s v k w h hl hk h8
  · obtain ⟨i, rfl⟩ : ∃ i : Nat, k = i := ⟨k.toNat, by omega⟩
    exact revict_in b s v i (s.l.length - 1) w h hl (by omega) (by omega) (by omega)

/-- The document's site over the blocks F. -/
def RSite (w : World) (b : Nat) (s : SS) (F : Nat → Prop) : Prop :=
  ∃ v, RAt w b s v ∧ REt w v s.l ∧ SOk s ∧ F b ∧ (∀ k, v.ownBlock = some k → F k)
theorem REt.lt {w : World} {v : Value} {l : List Ent} (h : REt w v l) : ∀ k, v.ownBlock = some k → k < w.heap.size := fun k hk => (World.ownsRow.lt h k hk).2
theorem RSite.kp {S : Nat → Prop} {w w' : World} {b : Nat} {s : SS} {F : Nat → Prop} (h : RSite w b s F) (k : Kp S w w') (hn : ∀ k, k < w.heap.size → F k → ¬ S k) : RSite w' b s F := by
  obtain ⟨v, h1, h2, h3, h4, h5⟩ := h
  exact ⟨v, Blk.kp h1 k (hn b h1.lt h4), h2.kp k (fun g hg => hn g (h2.lt g hg) (h5 g hg)), h3, h4, h5⟩
theorem RSite.ok {w : World} {b : Nat} {s : SS} {F : Nat → Prop} (h : RSite w b s F) : SOk s := h.choose_spec.2.2.1
theorem RSite.lt {w : World} {b : Nat} {s : SS} {F : Nat → Prop} (h : RSite w b s F) : b < w.heap.size := h.choose_spec.1.lt
theorem RSite.old {w : World} {b : Nat} {s : SS} {F : Nat → Prop} (h : RSite w b s F) : RSite w b s (fun k => F k ∧ k < w.heap.size) := by
  obtain ⟨v, h1, h2, h3, h4, h5⟩ := h
  exact ⟨v, h1, h2, h3, ⟨h4, h1.lt⟩, fun k hk => ⟨h5 k hk, h2.lt k hk⟩⟩
def RThen (b : Nat) (s' : SS) (F : Nat → Prop) (w w' : World) : Prop := ∃ F', RSite w' b s' F' ∧ Kp F w w' ∧ ∀ k, F' k → F k ∨ w.heap.size ≤ k
theorem rthen_of {b : Nat} {s' : SS} {F : Nat → Prop} {v : Value} {w w' : World} {e : Ending} (ok : SOk s') (hb : F b) (hv : ∀ k, v.ownBlock = some k → F k) (h : RSited b s' v w e w') : e = .returned (.tuple #[]) ∧ RThen b s' F w w' := by
  obtain ⟨v', rfl, h1, h2, h3, h4⟩ := h
  refine ⟨rfl, fun k => F k ∨ w.heap.size ≤ k, ⟨v', h1, h2, ok, .inl hb, ?_⟩, h3.mono (fun k _ h => h.elim (fun e => e ▸ hb) (hv k)), fun _ h => h⟩
  intro k hk
  rcases h4 with h | h
  · exact .inl (hv k (h ▸ hk))
  · exact .inr (h k hk)
theorem rlearn_site (b : Nat) (s : SS) (x : Ent) (F : Nat → Prop) (w : World) (h : RSite w b s F) (hrw : s.rw < 1000000000000) :
    Calls Try.prog 40 #[.pointer (some ⟨b, 0, none⟩), .int .i64 x.sh, .int .i64 x.sl, .int .u64 x.ep] w fun e w' => e = .returned (.tuple #[]) ∧ RThen b (s.learn x) F w w' := by
  obtain ⟨v, h1, h2, h3, h4, h5⟩ := h
  exact (rlearn_any b s v x w h1 h2 h3 hrw).mono fun e w' hh => rthen_of (ok_learn x h3 hrw) h4 h5 hh
theorem rflush_site (b : Nat) (s : SS) (F : Nat → Prop) (w : World) (h : RSite w b s F) :
    Calls Try.prog 53 #[.pointer (some ⟨b, 0, none⟩)] w fun e w' => e = .returned (.tuple #[]) ∧ RThen b s.flush F w w' := by
  obtain ⟨v, h1, h2, h3, h4, h5⟩ := h
  exact (rflush_any b s v w h1 h2).mono fun e w' hh => rthen_of (ok_flush h3) h4 h5 hh
theorem rdep_site (b : Nat) (s : SS) (F : Nat → Prop) (w : World) (h : RSite w b s F) :
    Calls Try.prog 54 #[.pointer (some ⟨b, 0, none⟩)] w fun e w' => e = .returned (.tuple #[]) ∧ RThen b s.dep F w w' := by
  obtain ⟨v, h1, h2, h3, h4, h5⟩ := h
  exact (rdep_any b s v w h1 h2 h3.deopts).mono fun e w' hh => rthen_of (ok_dep h3) h4 h5 hh
theorem revict_site (b : Nat) (s : SS) (k : Int) (F : Nat → Prop) (w : World) (h : RSite w b s F) :
    Calls Try.prog 52 #[.pointer (some ⟨b, 0, none⟩), .int .i64 k] w fun e w' => e = .returned (.tuple #[]) ∧ RThen b (s.evict k) F w w' := by
  obtain ⟨v, h1, h2, h3, h4, h5⟩ := h
  exact (revict_any b s v k w h1 h2 (by have := h3.len; have := h3.ways; omega)).mono fun e w' hh => rthen_of (ok_evict k h3) h4 h5 hh
theorem rask_site (b : Nat) (s : SS) (k ep : Int) (F : Nat → Prop) (w : World) (h : RSite w b s F) (hh : s.hits < 1000000000000) :
    Calls Try.prog 39 #[.pointer (some ⟨b, 0, none⟩), .int .i64 k, .int .u64 ep] w fun e w' => e = .returned (.tuple #[.int .i64 (s.askN k ep), .bool (s.askIs k ep)]) ∧ RThen b (s.asked k ep) F w w' := by
  obtain ⟨v, h1, h2, h3, h4, h5⟩ := h
  refine (rask_any b s v k ep w h1 h2 h3 hh).mono fun e w' ⟨he, hr, hk⟩ => ⟨he, F, ⟨v, hr, ?_, ok_asked k ep h3 hh, h4, h5⟩, hk.mono (fun k _ e => e ▸ h4), fun _ h => .inl h⟩
  have hl : (s.asked k ep).l = s.l := by unfold SS.asked; split <;> rfl
  rw [hl]
  exact h2.kp hk (fun g hg e => h2.ne h1 (by decide) (e ▸ hg))
theorem rnew_site (ways warm : Int) (w : World) :
    Calls Try.prog 21 #[.int .i64 ways, .int .i64 warm] w fun e w' => ∃ b, e = .returned (.pointer (some ⟨b, 0, none⟩)) ∧ w.heap.size ≤ b ∧ RSite w' b (SS.new ways warm) (· = b) ∧ Below w.heap.size w w' :=
  (rnew_any ways warm w).mono fun e w' ⟨b, he, hb, hs, hk⟩ => ⟨b, he, hb, ⟨_, hs, ret_nil _, ok_new _ _, rfl, fun k hk => by cases hk⟩, hk⟩
end Go.Proofs.Ytcdofhfneiednaa
