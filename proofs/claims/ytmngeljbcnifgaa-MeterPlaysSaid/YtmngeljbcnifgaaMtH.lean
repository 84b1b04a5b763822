/- The law's own functions over steps: great, do. -/
import Derived.Test.YtmngeljbcnifgaaMtG
namespace Go.Proofs.Ytmngeljbcnifgaa
set_option linter.unusedSimpArgs false
set_option linter.unusedVariables false
open Go.RowKit

/-- A step that came in. -/
structure Ste where
  k : Int
  n : Int
  s : ByteArray
instance : Inhabited Ste := ⟨⟨0, 0, ByteArray.empty⟩⟩
/-- The steps that came in: where they lie, and that their strings are within the reach. -/
structure Stes (w : World) (b off len : Nat) (os : Nat → Ste) : Prop where
  lt : b < w.heap.size
  k : ∀ j, j < len → w.cell? ⟨b, off + j * 3, none⟩ = some (.int .i64 (os j).k)
  n : ∀ j, j < len → w.cell? ⟨b, off + j * 3 + 1, none⟩ = some (.int .i64 (os j).n)
  s : ∀ j, j < len → w.cell? ⟨b, off + j * 3 + 2, none⟩ = some (.string (os j).s)
  r : ∀ j, j < len → (os j).s.size ≤ 140737488351232
theorem Stes.kp {S : Nat → Prop} {w w' : World} {b off len : Nat} {os : Nat → Ste} (h : Stes w b off len os) (k : Kp S w w') (hn : ¬ S b) : Stes w' b off len os :=
  ⟨Nat.lt_of_lt_of_le h.lt k.size, fun j hj => (k.cell (p := ⟨b, _, none⟩) h.lt hn).trans (h.k j hj), fun j hj => (k.cell (p := ⟨b, _, none⟩) h.lt hn).trans (h.n j hj), fun j hj => (k.cell (p := ⟨b, _, none⟩) h.lt hn).trans (h.s j hj), h.r⟩

set_option maxRecDepth 100000 in
set_option maxHeartbeats 400000 in
theorem great_any (b off len cap : Nat) (os : Nat → Ste) (w : World) (ho : Stes w b off len os) (hlen : len * 32 ≤ 140737488351232) :
    Calls Try.prog 16 #[.slice (some ⟨b, off, none⟩) len cap] w fun e w' => ∃ g : Bool, e = .returned (.bool g) ∧ Below w.heap.size w w' := by
  have HO := Lib.hid ho; clear ho
  go_enter Try.func16, Try.ntmps16
  go_wp2_with fail
  go_loopw [3, 8] (fun nv iv wr => ∃ (j : Nat) (x : Int), iv = .int .i64 j ∧ nv = .int .i64 x ∧ j ≤ len ∧ 0 ≤ x ∧ x ≤ 10000 * j ∧ Below w.heap.size w wr) (fun _ iv _ => len - (intOf iv).toNat)
  case atStart => exact ⟨0, 0, rfl, rfl, Nat.zero_le _, by omega, by omega, Below.refl _ _⟩
  case round =>
    obtain ⟨j, x, rfl, rfl, hj, x0, x1, hb⟩ := hrel
    by_cases hlt : j < len
    · have hlb := HO.out.lt
      have h1 := (hb.cell (p := ⟨b, off + j * 3, none⟩) hlb).trans (HO.out.k j hlt)
      have h2 := (hb.cell (p := ⟨b, off + j * 3 + 1, none⟩) hlb).trans (HO.out.n j hlt)
      have h3 := (hb.cell (p := ⟨b, off + j * 3 + 2, none⟩) hlb).trans (HO.out.s j hlt)
      have hr := HO.out.r j hlt
      have hsz := hb.size
      generalize os j = o at *
      go_wp2
      go_roundw
      case rel => exact ⟨j + 1, _, by go_num, rfl, by omega, by split <;> omega, by split <;> omega, by go_grown⟩
      case measure => simp [intOf]; omega
    · go_wp2
      all_goals go_returns
      all_goals (first | exact ⟨_, rfl, hb⟩ | exact ⟨.inl rfl, hb⟩ | exact ⟨.inr rfl, hb⟩)

set_option maxRecDepth 100000 in
theorem great_nil (a : Option Addr) (len cap : Nat) (w : World) (hlen : len ≤ 0) :
    Calls Try.prog 16 #[.slice a len cap] w fun e w' => ∃ g : Bool, e = .returned (.bool g) ∧ Below w.heap.size w w' := by
  obtain rfl : len = 0 := by omega
  go_enter Try.func16, Try.ntmps16
  go_wp2
  go_rounds 1
  go_returns
  exact ⟨_, rfl, Below.refl _ _⟩

/-- A meter: where it lies, its numbers, its lines; block B and what lies behind are the law's own. -/
def sz (ls : List ByteArray) : Nat := (ls.map (fun s => s.size + 1)).sum
theorem sz_len (ls : List ByteArray) : ls.length ≤ sz ls := by
  induction ls with
  | nil => simp [sz]
  | cons s r ih => simp [sz] at ih ⊢; omega
theorem sz_snoc (ls : List ByteArray) (s : ByteArray) : sz (ls ++ [s]) = sz ls + (s.size + 1) := by simp [sz, List.sum_append]
structure Mtr (w : World) (b : Nat) (m : MS) (ls : List ByteArray) : Prop where
  at' : MAt w b m
  ok : MOk m
  lines : LAt w m.ln ls
  size : (sz ls : Int) = m.lo - m.o
theorem Mtr.len {w : World} {b : Nat} {m : MS} {ls : List ByteArray} (h : Mtr w b m ls) : ls.length ≤ 1000000 := by
  have := sz_len ls; have := h.size; have := h.ok.o0; have := h.ok.o1; have := h.ok.o2; omega
theorem Mtr.ne {w : World} {b : Nat} {m : MS} {ls : List ByteArray} (h : Mtr w b m ls) : m.ln.ownBlock ≠ some b := h.lines.ne h.at' (by decide)
theorem Mtr.kp {S : Nat → Prop} {w w' : World} {b : Nat} {m : MS} {ls : List ByteArray} (h : Mtr w b m ls) (k : Kp S w w') (hb : ¬ S b) (hl : ∀ g, m.ln.ownBlock = some g → ¬ S g) : Mtr w' b m ls :=
  ⟨Blk.kp h.at' k hb, h.ok, h.lines.kp k hl, h.size⟩

def MS.act (m : MS) (o : Ste) (v : Value) : MS := if o.k = 1 then m.step else if o.k = 2 then m.enter else if o.k = 3 then m.leave o.n else if o.k = 4 then m.used o.n else if o.k = 5 then m.text o.n else if o.k = 6 then m.line o.s.size v else m
def MS.ans (m : MS) (o : Ste) : Int := if o.k = 1 then m.step.st else if o.k = 2 then m.enter.st else if o.k = 3 then 0 else if o.k = 4 then (m.used o.n).st else if o.k = 5 then (m.text o.n).st else if o.k = 6 then (m.line o.s.size (.bool false)).st else 0
def MS.said (m : MS) (o : Ste) (ls : List ByteArray) : List ByteArray := if o.k = 6 ∧ m.says o.s.size = true then ls ++ [o.s] else ls

/-- What a step does. -/
def Does (b : Nat) (m : MS) (ls : List ByteArray) (o : Ste) (w : World) (e : Ending) (w' : World) : Prop :=
  ∃ v, e = .returned (.int .i64 (m.ans o)) ∧ Mtr w' b (m.act o v) (m.said o ls) ∧ Kp (fun k => k = b ∨ m.ln.ownBlock = some k) w w' ∧ SameOrNew w m.ln (m.act o v).ln

theorem step_ln (m : MS) : m.step.ln = m.ln ∧ m.step.lo = m.lo ∧ m.step.o = m.o := by unfold MS.step; split <;> (try split) <;> simp
theorem enter_ln (m : MS) : m.enter.ln = m.ln ∧ m.enter.lo = m.lo ∧ m.enter.o = m.o := by unfold MS.enter; split <;> (try split) <;> simp
theorem used_ln (m : MS) (n : Int) : (m.used n).ln = m.ln ∧ (m.used n).lo = m.lo ∧ (m.used n).o = m.o := by unfold MS.used; split <;> (try split) <;> simp
theorem text_ln (m : MS) (n : Int) : (m.text n).ln = m.ln ∧ (m.text n).lo = m.lo ∧ (m.text n).o = m.o := by unfold MS.text; split <;> (try split) <;> simp
theorem leave_ln (m : MS) (n : Int) : (m.leave n).ln = m.ln ∧ (m.leave n).lo = m.lo ∧ (m.leave n).o = m.o := by unfold MS.leave; split <;> simp
theorem line_st (m : MS) (n : Int) (v v' : Value) : (m.line n v).st = (m.line n v').st := by unfold MS.line; split <;> (try split) <;> simp

theorem does_of {b : Nat} {m m' : MS} {ls : List ByteArray} {o : Ste} {w w1 w' : World} {e : Ending} (h : Mtr w b m ls) (k1 : Kp (fun _ => False) w w1) (hc : e = .returned (.int .i64 (m.ans o)) ∧ MAt w' b m' ∧ Kp (· = b) w1 w') (ok : MOk m') (ha : ∀ v, m.act o v = m') (hs : m.said o ls = ls) (hl : m'.ln = m.ln ∧ m'.lo = m.lo ∧ m'.o = m.o) :
    Does b m ls o w e w' := by
  obtain ⟨rfl, h1, h2⟩ := hc
  have h3 : Kp (· = b) w w' := (k1.mono (S' := (· = b)) (fun _ _ h => h.elim)).trans' h2 (fun _ _ h => h)
  refine ⟨.bool false, rfl, ?_, h3.mono (fun _ _ h => .inl h), ?_⟩
  · rw [ha, hs]
    exact ⟨h1, ok, by rw [hl.1]; exact h.lines.kp h3 (fun g hg e => h.ne (e ▸ hg)), by rw [hl.2.1, hl.2.2]; exact h.size⟩
  · rw [ha, hl.1]; exact .inl rfl

set_option maxRecDepth 100000 in
set_option maxHeartbeats 1000000 in
theorem do_any (b : Nat) (m : MS) (ls : List ByteArray) (o : Ste) (w : World) (h : Mtr w b m ls) (hr : o.s.size ≤ 140737488351232) :
    Calls Try.prog 21 #[.pointer (some ⟨b, 0, none⟩), .agg #[.int .i64 o.k, .int .i64 o.n, .string o.s]] w (Does b m ls o w) := by
  have hb := h.at'.lt
  have hb1 : ¬ b = w.heap.size := by omega
  have k1 : Kp (fun _ => False) w (w.alloc (.cells #[.int .i64 o.k, .int .i64 o.n, .string o.s] 44)) := (Kp.refl _ _).alloc _
  have h1 := h.kp k1 (fun h => h) (fun _ _ h => h)
  have H := Lib.hid h; clear h
  have H1 := Lib.hid h1; clear h1
  have K1 := Lib.hid k1; clear k1
  have HR := Lib.hid hr; clear hr
  obtain ⟨k, n, s⟩ := o
  dsimp only at *
  by_cases e1 : k = 1
  · subst e1
    go_enter Try.func21, Try.ntmps21
    go_wp2_with fail
    refine (step_any b m _ H1.out.at' H1.out.ok).mono ?_
    intro e w1 hc
    have hd := does_of (o := ⟨1, n, s⟩) H.out K1.out hc (ok_step H1.out.ok) (fun _ => rfl) rfl (step_ln m)
    obtain ⟨rfl, hc⟩ := hc
    clear hc
    have HD := Lib.hid hd; clear hd
    go_wp2
    go_returns
    exact HD.out
  by_cases e2 : k = 2
  · subst e2
    go_enter Try.func21, Try.ntmps21
    go_wp2_with fail
    refine (enter_any b m _ H1.out.at' H1.out.ok).mono ?_
    intro e w1 hc
    have hd := does_of (o := ⟨2, n, s⟩) H.out K1.out hc (ok_enter H1.out.ok) (fun _ => rfl) rfl (enter_ln m)
    obtain ⟨rfl, hc⟩ := hc
    clear hc
    have HD := Lib.hid hd; clear hd
    go_wp2
    go_returns
    exact HD.out
  by_cases e4 : k = 4
  · subst e4
    go_enter Try.func21, Try.ntmps21
    go_wp2_with fail
    refine (used_any b m n _ H1.out.at' H1.out.ok).mono ?_
    intro e w1 hc
    have hd := does_of (o := ⟨4, n, s⟩) H.out K1.out hc (ok_used n H1.out.ok) (fun _ => rfl) rfl (used_ln m n)
    obtain ⟨rfl, hc⟩ := hc
    clear hc
    have HD := Lib.hid hd; clear hd
    go_wp2
    go_returns
    exact HD.out
  by_cases e5 : k = 5
  · subst e5
    go_enter Try.func21, Try.ntmps21
    go_wp2_with fail
    refine (text_any b m n _ H1.out.at' H1.out.ok).mono ?_
    intro e w1 hc
    have hd := does_of (o := ⟨5, n, s⟩) H.out K1.out hc (ok_text n H1.out.ok) (fun _ => rfl) rfl (text_ln m n)
    obtain ⟨rfl, hc⟩ := hc
    clear hc
    have HD := Lib.hid hd; clear hd
    go_wp2
    go_returns
    exact HD.out
  by_cases e3 : k = 3
  · subst e3
    go_enter Try.func21, Try.ntmps21
    go_wp2_with fail
    refine (leave_any b m n _ H1.out.at' H1.out.ok).mono ?_
    rintro e w1 ⟨rfl, hc⟩
    have hd := fun e he => does_of (o := ⟨3, n, s⟩) (e := e) H.out K1.out ⟨he, hc⟩ (ok_leave n H1.out.ok) (fun _ => rfl) rfl (leave_ln m n)
    clear hc
    have HD := Lib.hid hd; clear hd
    go_wp2
    go_returns
    exact HD.out _ rfl
  by_cases e6 : k = 6
  · subst e6
    have hl := H1.out.len
    go_enter Try.func21, Try.ntmps21
    go_wp2_with fail
    refine (line_any b m ls s _ H1.out.at' H1.out.ok H1.out.lines HR.out hl).mono ?_
    rintro e w1 ⟨v, rfl, g1, g2, g3, g4⟩
    have hd : Does b m ls ⟨6, n, s⟩ w (.returned (.int .i64 (m.line s.size v).st)) w1 := by
      refine ⟨v, ret_int (line_st m _ _ _), ⟨g1, ok_line _ _ (by omega) H.out.ok, ?_, ?_⟩, (K1.out.mono (fun _ _ h => h.elim)).trans' g3 (fun _ _ h => h), ?_⟩
      · have : m.said ⟨6, n, s⟩ ls = if m.says s.size then ls ++ [s] else ls := by simp [MS.said]
        rw [this]; exact g2
      · have hz := H.out.size
        show (sz (m.said ⟨6, n, s⟩ ls) : Int) = (m.line s.size v).lo - (m.line s.size v).o
        unfold MS.said MS.says MS.line
        by_cases a1 : m.st = 0
        · by_cases a2 : m.o < s.size + 1
          · simp [a1, a2]; omega
          · simp [a1, a2, show ((s.size : Int) + 1 ≤ m.o) by omega, sz_snoc]; omega
        · simp [a1]; omega
      · rcases g4 with h | h
        · exact .inl h
        · refine .inr fun g hg => ?_
          have := h g hg
          simp at this
          show w.heap.size ≤ g
          omega
    clear g1 g2 g3 g4
    have HD := Lib.hid hd; clear hd
    go_wp2
    go_returns
    exact HD.out
  · have hd := fun e he => does_of (o := ⟨k, n, s⟩) (e := e) (m' := m) (w' := w.alloc (.cells #[.int .i64 k, .int .i64 n, .string s] 44)) H.out K1.out ⟨he, H1.out.at', Kp.refl _ _⟩ H1.out.ok (fun _ => by simp [MS.act, e1, e2, e3, e4, e5, e6]) (by simp [MS.said, e6]) ⟨rfl, rfl, rfl⟩
    have ha : m.ans ⟨k, n, s⟩ = 0 := by simp [MS.ans, e1, e2, e3, e4, e5, e6]
    rw [ha] at hd
    have HD := Lib.hid hd; clear hd
    clear ha
    have f1 : (k == 1) = false := by simpa using e1
    have f2 : (k == 2) = false := by simpa using e2
    have f3 : (k == 3) = false := by simpa using e3
    have f4 : (k == 4) = false := by simpa using e4
    have f5 : (k == 5) = false := by simpa using e5
    have f6 : (k == 6) = false := by simpa using e6
    clear e1 e2 e3 e4 e5 e6
    go_enter Try.func21, Try.ntmps21
    go_wp2
    go_returns
    exact HD.out _ rfl
end Go.Proofs.Ytmngeljbcnifgaa
