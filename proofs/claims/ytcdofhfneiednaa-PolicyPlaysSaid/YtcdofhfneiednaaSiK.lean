/- The document's site (selkieref17): where it lies; New, forget, Flush, Deopt, Ask. -/
import Derived.Test.YtcdofhfneiednaaSiJ
namespace Go.Proofs.Ytcdofhfneiednaa
set_option linter.unusedSimpArgs false
set_option linter.unusedVariables false
open Go.RowKit

def REt (w : World) (v : Value) (l : List Ent) : Prop := w.ownsRow 0 103 3 v l.length (l.flatMap Ent.cells)
def RAt (w : World) (b : Nat) (s : SS) (v : Value) : Prop := Blk w b 46 (s.cells v)
theorem RAt.of {w : World} {b : Nat} {s : SS} {v : Value} {cs : Array Value} (h : Blk w b 46 cs) (e : cs = s.cells v) : RAt w b s v := by subst e; exact h
theorem REt.kp {S : Nat → Prop} {w w' : World} {v : Value} {l : List Ent} (h : REt w v l) (k : Kp S w w') (hn : ∀ g, v.ownBlock = some g → ¬ S g) : REt w' v l := by
  refine ⟨h.1, ?_⟩
  rcases h.2 with h2 | ⟨g, cap, cur, rfl, h0, hh, r⟩
  · exact Or.inl h2
  · exact Or.inr ⟨g, cap, cur, rfl, h0, by rw [k.block g (lt_of_block hh) (hn g rfl)]; exact hh, r⟩
theorem REt.ne {w : World} {v : Value} {l : List Ent} (h : REt w v l) {b : Nat} {t : TypeId} {cs : Array Value} (hb : Blk w b t cs) (ht : t ≠ 103) : v.ownBlock ≠ some b := by
  rcases h.2 with ⟨rfl, _⟩ | ⟨g, cap, cur, rfl, h0, hh, r⟩
  · simp [Value.ownBlock]
  · intro e
    simp [Value.ownBlock] at e
    subst e
    unfold Blk at hb
    rw [hh] at hb
    simp at hb
    exact ht hb.2.symm
theorem REt.cell {w : World} {g : Nat} {cap : Nat} {l : List Ent} (h : REt w (.slice (some ⟨g, 0, none⟩) l.length cap) l) (i : Nat) (hi : i < l.length) :
    w.cell? ⟨g, i * 3, none⟩ = some (.int .i64 l[i].sh) ∧ w.cell? ⟨g, i * 3 + 1, none⟩ = some (.int .i64 l[i].sl) ∧ w.cell? ⟨g, i * 3 + 2, none⟩ = some (.int .u64 l[i].ep) := by
  obtain ⟨h1, h2, h3⟩ := flat_at l i hi
  exact ⟨(World.ownsRow.cellAt h _ (by omega)).trans h1, (World.ownsRow.cellAt h _ (by omega)).trans h2, (World.ownsRow.cellAt h _ (by omega)).trans h3⟩
theorem REt.form {w : World} {v : Value} {l : List Ent} (h : REt w v l) : ∃ ao cap, v = .slice ao l.length cap := by
  rcases h.2 with ⟨rfl, h0⟩ | ⟨g, cap, cur, rfl, _⟩
  · exact ⟨none, 0, by rw [h0]⟩
  · exact ⟨_, _, rfl⟩
theorem ret_nil (w : World) : REt w (.slice none 0 0) [] := World.ownsRow_nil _ _ _ _
/-- What a change of the document's site leaves. -/
def RSited (b : Nat) (s' : SS) (v : Value) (w : World) (e : Ending) (w' : World) : Prop :=
  ∃ v', e = .returned (.tuple #[]) ∧ RAt w' b s' v' ∧ REt w' v' s'.l ∧ Kp (fun k => k = b ∨ v.ownBlock = some k) w w' ∧ SameOrNew w v v'

set_option maxRecDepth 100000 in
set_option maxHeartbeats 400000 in
theorem rnew_any (ways warm : Int) (w : World) :
    Calls Try.prog 21 #[.int .i64 ways, .int .i64 warm] w fun e w' => ∃ b, e = .returned (.pointer (some ⟨b, 0, none⟩)) ∧ w.heap.size ≤ b ∧ RAt w' b (SS.new ways warm) (.slice none 0 0) ∧ Below w.heap.size w w' := by
  have key : ∀ x y : Int, x = clamp 8 ways → y = clamp 255 warm → RAt (w.alloc (.cells #[.int .i64 x, .int .i64 y, .int .i64 0, .int .i64 0, .slice none 0 0, .int .i64 0, .int .i64 0, .int .i64 0] 46)) w.heap.size (SS.new ways warm) (.slice none 0 0) := by
    intro x y hx hy; subst hx; subst hy; exact Blk.new rfl
  go_enter Try.func21, Try.ntmps21
  go_wp2
  all_goals go_returns
  all_goals refine ⟨_, rfl, Nat.le_refl _, key _ _ ?_ ?_, by go_grown⟩
  all_goals (unfold clamp; omega)

set_option maxRecDepth 100000 in
theorem rforget_any (b : Nat) (s : SS) (v : Value) (w : World) (h : RAt w b s v) :
    Calls Try.prog 66 #[.pointer (some ⟨b, 0, none⟩)] w (RSited b s.forget v w) := by
  have hb := h.lt
  have fr := h.free
  have h0 := h.cell 0 (.int .i64 s.ways) rfl
  have h1 := h.cell 1 (.int .i64 s.warm) rfl
  have h2 := h.cell 2 (.int .i64 s.count) rfl
  have h3 := h.cell 3 (.int .i64 s.state) rfl
  have h4 := h.cell 4 (v) rfl
  have h5 := h.cell 5 (.int .i64 s.rw) rfl
  have h6 := h.cell 6 (.int .i64 s.hits) rfl
  have h7 := h.cell 7 (.int .i64 s.deopts) rfl
  have H := Lib.hid h; clear h
  go_enter Try.func66, Try.ntmps66
  go_wp2
  go_returns
  exact ⟨.slice none 0 0, rfl, RAt.of (((Blk.set H.out 4 _).set 2 _).set 3 _) rfl, ret_nil _, by (repeat (first | (with_reducible exact Kp.refl _ _) | (with_reducible assumption) | (with_reducible refine Kp.drew ?_) | (with_reducible refine Kp.drewN ?_ _) | (with_reducible refine Kp.alloc ?_ _) | (with_reducible refine Kp.setCell ?_ ?_ _) | (left; rfl) | (left; left; rfl) | (right; simp; done) | (right; simp; omega) | go_size)), sn_nil _ _⟩
set_option maxRecDepth 100000 in
theorem rflush_any (b : Nat) (s : SS) (v : Value) (w : World) (h : RAt w b s v) (hl : REt w v s.l) :
    Calls Try.prog 53 #[.pointer (some ⟨b, 0, none⟩)] w (RSited b s.flush v w) := by
  unfold SS.flush
  have h' := h
  have hb := h.lt
  have fr := h.free
  have h0 := h.cell 0 (.int .i64 s.ways) rfl
  have h1 := h.cell 1 (.int .i64 s.warm) rfl
  have h2 := h.cell 2 (.int .i64 s.count) rfl
  have h3 := h.cell 3 (.int .i64 s.state) rfl
  have h4 := h.cell 4 (v) rfl
  have h5 := h.cell 5 (.int .i64 s.rw) rfl
  have h6 := h.cell 6 (.int .i64 s.hits) rfl
  have h7 := h.cell 7 (.int .i64 s.deopts) rfl
  have H := Lib.hid h; clear h
  have HL := Lib.hid hl; clear hl
  by_cases e : s.state = 2
  · rw [if_pos e]
    rw [e] at h3
    go_enter Try.func53, Try.ntmps53
    go_wp2
    go_returns
    exact ⟨v, rfl, h', HL.out, Kp.refl _ _, .inl rfl⟩
  · rw [if_neg e]
    have e2 : (s.state != 2) = true := by simpa using e
    have H' := Lib.hid h'; clear h'
    go_enter Try.func53, Try.ntmps53
    go_wp2_with fail
    refine (rforget_any b s v _ H'.out).mono ?_
    intro e w1 hf
    have HF := Lib.hid hf
    obtain ⟨v', rfl, _⟩ := hf
    go_wp2
    go_returns
    exact HF.out
set_option maxRecDepth 100000 in
theorem rdep_any (b : Nat) (s : SS) (v : Value) (w : World) (h : RAt w b s v) (hl : REt w v s.l) (hd : 0 ≤ s.deopts ∧ s.deopts ≤ 4) :
    Calls Try.prog 54 #[.pointer (some ⟨b, 0, none⟩)] w (RSited b s.dep v w) := by
  unfold SS.dep
  have h' := h
  have hb := h.lt
  have fr := h.free
  have h0 := h.cell 0 (.int .i64 s.ways) rfl
  have h1 := h.cell 1 (.int .i64 s.warm) rfl
  have h2 := h.cell 2 (.int .i64 s.count) rfl
  have h3 := h.cell 3 (.int .i64 s.state) rfl
  have h4 := h.cell 4 (v) rfl
  have h5 := h.cell 5 (.int .i64 s.rw) rfl
  have h6 := h.cell 6 (.int .i64 s.hits) rfl
  have h7 := h.cell 7 (.int .i64 s.deopts) rfl
  have H := Lib.hid h; clear h
  have HL := Lib.hid hl; clear hl
  obtain ⟨hd0, hd1⟩ := hd
  by_cases e : s.state = 2
  · rw [if_pos e]
    rw [e] at h3
    go_enter Try.func54, Try.ntmps54
    go_wp2
    go_returns
    exact ⟨v, rfl, h', HL.out, Kp.refl _ _, .inl rfl⟩
  · rw [if_neg e]
    have e2 : (s.state == 2) = false := by simpa using e
    have H' := Lib.hid h'; clear h'
    go_enter Try.func54, Try.ntmps54
    go_wp2_with fail
    refine (rforget_any b s v _ H'.out).mono ?_
    rintro _ w1 ⟨v', rfl, f1, f2, f3, f4⟩
    clear h0 h1 h2 h3 h4 h5 h6 h7 fr hb
    have hb := f1.lt
    have fr := f1.free
    have h7 := f1.cell 7 (.int .i64 s.deopts) rfl
    have h3 := f1.cell 3 (.int .i64 0) rfl
    have F1 := Lib.hid f1; have F2 := Lib.hid f2; have F3 := Lib.hid f3; have F4 := Lib.hid f4
    clear f1 f2 f3 f4
    by_cases e4 : s.deopts + 1 = 4
    · have hm : s.deopt = { s with state := 2, count := 0, l := [], deopts := 4 } := by unfold SS.deopt; rw [if_pos e4, e4]
      have HM := Lib.hid hm; clear hm
      go_wp2
      go_returns
      rw [HM.out]
      exact ⟨v', rfl, RAt.of ((Blk.set F1.out 7 _).set 3 _) rfl, F2.out.kp (Kp.setCell (S := (· = b)) (p := ⟨b, 3, none⟩) (Kp.setCell (S := (· = b)) (p := ⟨b, 7, none⟩) (Kp.refl _ _) (.inl rfl) _) (.inl rfl) _) (fun g hg e => F2.out.ne F1.out (by decide) (e ▸ hg)), (F3.out.setCell (p := ⟨b, 7, none⟩) (.inl (.inl rfl)) _).setCell (p := ⟨b, 3, none⟩) (.inl (.inl rfl)) _, F4.out⟩
    · have hm : s.deopt = { s with state := 0, count := 0, l := [], deopts := s.deopts + 1 } := by unfold SS.deopt; rw [if_neg e4]
      have HM := Lib.hid hm; clear hm
      have e5 : (s.deopts + 1 == 4) = false := by simpa using e4
      go_wp2
      go_returns
      rw [HM.out]
      exact ⟨v', rfl, RAt.of (Blk.set F1.out 7 _) rfl, F2.out.kp (Kp.setCell (S := (· = b)) (p := ⟨b, 7, none⟩) (Kp.refl _ _) (.inl rfl) _) (fun g hg e => F2.out.ne F1.out (by decide) (e ▸ hg)), F3.out.setCell (p := ⟨b, 7, none⟩) (.inl (.inl rfl)) _, F4.out⟩
end Go.Proofs.Ytcdofhfneiednaa
