/- The document's steps; selkielaw19.MeterPlays. -/
import Derived.Test.YtmngeljbcnifgaaMtL
namespace Go.Proofs.Ytmngeljbcnifgaa
set_option linter.unusedSimpArgs false
set_option linter.unusedVariables false
open Go.RowKit

def RDoes (b : Nat) (m : MS) (v : Value) (ls : List ByteArray) (o : Ste) (w : World) (e : Ending) (w' : World) : Prop :=
  ∃ v', e = .returned (.int .i64 (m.ans o)) ∧ XAt w' b (m.act o (.bool false)) v' ∧ LAt w' v' (m.said o ls) ∧ Kp (fun k => k = b ∨ v.ownBlock = some k) w w' ∧ SameOrNew w v v'
theorem rdoes_of {b : Nat} {m m' : MS} {v : Value} {ls : List ByteArray} {o : Ste} {w w1 w' : World} {e : Ending} (hl : LAt w v ls) (hne : v.ownBlock ≠ some b) (k1 : Kp (fun _ => False) w w1) (hc : e = .returned (.int .i64 (m.ans o)) ∧ XAt w' b m' v ∧ Kp (· = b) w1 w') (ha : m.act o (.bool false) = m') (hs : m.said o ls = ls) :
    RDoes b m v ls o w e w' := by
  obtain ⟨rfl, h1, h2⟩ := hc
  have h3 : Kp (· = b) w w' := (k1.mono (S' := (· = b)) (fun _ _ h => h.elim)).trans' h2 (fun _ _ h => h)
  exact ⟨v, rfl, by rw [ha]; exact h1, by rw [hs]; exact hl.kp h3 (fun g hg e => hne (e ▸ hg)), h3.mono (fun _ _ h => .inl h), .inl rfl⟩

theorem xCells_act (m : MS) (o : Ste) (v v' u : Value) : xCells (m.act o v) u = xCells (m.act o v') u := by
  unfold MS.act MS.line xCells
  repeat' split
  all_goals rfl
theorem act_xCells (m m' : MS) (o : Ste) (v u : Value) (h : { m with ln := v } = { m' with ln := v }) : xCells (m.act o v) u = xCells (m'.act o v) u ∧ m.ans o = m'.ans o ∧ ∀ ls, m.said o ls = m'.said o ls := by
  obtain ⟨f, d, c, s, oo, lf, ld, lc, l, lo, st, ln⟩ := m
  obtain ⟨f', d', c', s', oo', lf', ld', lc', l', lo', st', ln'⟩ := m'
  simp only [MS.mk.injEq, and_true] at h
  obtain ⟨rfl, rfl, rfl, rfl, rfl, rfl, rfl, rfl, rfl, rfl, rfl⟩ := h
  refine ⟨?_, ?_, ?_⟩
  · unfold MS.act MS.line MS.step MS.enter MS.leave MS.used MS.text xCells
    repeat' split
    all_goals rfl
  · unfold MS.ans MS.line MS.step MS.enter MS.used MS.text
    repeat' split
    all_goals rfl
  · intro ls; rfl

set_option maxRecDepth 100000 in
set_option maxHeartbeats 1000000 in
theorem rdo_any (b : Nat) (m : MS) (v : Value) (ls : List ByteArray) (o : Ste) (w : World) (h : XAt w b m v) (ok : MOk m) (hl : LAt w v ls) (hll : ls.length ≤ 1000000) (hr : o.s.size ≤ 140737488351232) (hnb : o.n ≤ 9223372036854775807) :
    Calls Try.prog 22 #[.pointer (some ⟨b, 0, none⟩), .agg #[.int .i64 o.k, .int .i64 o.n, .string o.s]] w (RDoes b m v ls o w) := by
  have hb := h.lt
  have hb1 : ¬ b = w.heap.size := by omega
  have hne := hl.ne h (by decide)
  have k1 : Kp (fun _ => False) w (w.alloc (.cells #[.int .i64 o.k, .int .i64 o.n, .string o.s] 49)) := (Kp.refl _ _).alloc _
  have h1 : XAt (w.alloc (.cells #[.int .i64 o.k, .int .i64 o.n, .string o.s] 49)) b m v := Blk.alloc h _
  have l1 := hl.kp k1 (fun _ _ h => h)
  have H1 := Lib.hid h1; clear h1
  have L1 := Lib.hid l1; clear l1
  have K1 := Lib.hid k1; clear k1
  have HR := Lib.hid hr; clear hr
  have HN := Lib.hid hnb; clear hnb
  clear h
  obtain ⟨k, n, s⟩ := o
  dsimp only at *
  by_cases e1 : k = 1
  · subst e1
    go_enter Try.func22, Try.ntmps22
    go_wp2_with fail
    refine (rstep_any b m v _ H1.out ok).mono ?_
    intro e w1 hc
    have hd := rdoes_of (o := ⟨1, n, s⟩) hl hne K1.out hc rfl rfl
    obtain ⟨rfl, hc⟩ := hc
    clear hc
    have HD := Lib.hid hd; clear hd
    go_wp2
    go_returns
    exact HD.out
  by_cases e2 : k = 2
  · subst e2
    go_enter Try.func22, Try.ntmps22
    go_wp2_with fail
    refine (renter_any b m v _ H1.out ok).mono ?_
    intro e w1 hc
    have hd := rdoes_of (o := ⟨2, n, s⟩) hl hne K1.out hc rfl rfl
    obtain ⟨rfl, hc⟩ := hc
    clear hc
    have HD := Lib.hid hd; clear hd
    go_wp2
    go_returns
    exact HD.out
  by_cases e4 : k = 4
  · subst e4
    go_enter Try.func22, Try.ntmps22
    go_wp2_with fail
    refine (rused_any b m v n _ H1.out ok).mono ?_
    intro e w1 hc
    have hd := rdoes_of (o := ⟨4, n, s⟩) hl hne K1.out hc rfl rfl
    obtain ⟨rfl, hc⟩ := hc
    clear hc
    have HD := Lib.hid hd; clear hd
    go_wp2
    go_returns
    exact HD.out
  by_cases e5 : k = 5
  · subst e5
    go_enter Try.func22, Try.ntmps22
    go_wp2_with fail
    refine (rtext_any b m v n _ H1.out ok).mono ?_
    intro e w1 hc
    have hd := rdoes_of (o := ⟨5, n, s⟩) hl hne K1.out hc rfl rfl
    obtain ⟨rfl, hc⟩ := hc
    clear hc
    have HD := Lib.hid hd; clear hd
    go_wp2
    go_returns
    exact HD.out
  by_cases e3 : k = 3
  · subst e3
    go_enter Try.func22, Try.ntmps22
    go_wp2_with fail
    refine (rleave_any b m v n _ H1.out ok HN.out).mono ?_
    rintro e w1 ⟨rfl, hc⟩
    have hd := fun e he => rdoes_of (o := ⟨3, n, s⟩) (e := e) hl hne K1.out ⟨he, hc⟩ rfl rfl
    clear hc
    have HD := Lib.hid hd; clear hd
    go_wp2
    go_returns
    exact HD.out _ rfl
  by_cases e6 : k = 6
  · subst e6
    go_enter Try.func22, Try.ntmps22
    go_wp2_with fail
    refine (rline_any b m v ls s _ H1.out ok L1.out HR.out hll).mono ?_
    rintro e w1 ⟨v', rfl, g1, g2, g3, g4⟩
    have hd : RDoes b m v ls ⟨6, n, s⟩ w (.returned (.int .i64 (m.line s.size (.bool false)).st)) w1 := by
      refine ⟨v', rfl, g1, ?_, (K1.out.mono (fun _ _ h => h.elim)).trans' g3 (fun _ _ h => h), ?_⟩
      · have : m.said ⟨6, n, s⟩ ls = if m.says s.size then ls ++ [s] else ls := by simp [MS.said]
        rw [this]; exact g2
      · rcases g4 with h | h
        · exact .inl h
        · refine .inr fun g hg => ?_
          have := h g hg
          simp at this
          omega
    clear g1 g2 g3 g4
    have HD := Lib.hid hd; clear hd
    go_wp2
    go_returns
    exact HD.out
  · have hd := fun e he => rdoes_of (m := m) (o := ⟨k, n, s⟩) (e := e) (m' := m) (w' := w.alloc (.cells #[.int .i64 k, .int .i64 n, .string s] 49)) hl hne K1.out ⟨he, H1.out, Kp.refl _ _⟩ (by simp [MS.act, e1, e2, e3, e4, e5, e6]) (by simp [MS.said, e6])
    have ha : m.ans ⟨k, n, s⟩ = 0 := by simp [MS.ans, e1, e2, e3, e4, e5, e6]
    rw [ha] at hd
    have HD := Lib.hid hd; clear hd
    clear ha
    have f1 : (k == 1) = false := by simpa using e1
    have f2 : (k == 2) = false := by simpa using e2
    have f3 : (k == 3) = false := by simpa using e3
    have f4 : (k == 4) = false := by simpa using e4
    have f5 : (k == 5) = false := by simpa using e5
    have f6 : (k == 6) = false := by simpa using e6
    clear e1 e2 e3 e4 e5 e6
    go_enter Try.func22, Try.ntmps22
    go_wp2
    go_returns
    exact HD.out _ rfl
end Go.Proofs.Ytmngeljbcnifgaa
