/- The law's own 'do'. -/
import Derived.Test.YtcdofhfneiednaaSiI
namespace Go.Proofs.Ytcdofhfneiednaa
set_option linter.unusedSimpArgs false
set_option linter.unusedVariables false
open Go.RowKit

theorem Site.old {w : World} {b : Nat} {s : SS} {F : Nat → Prop} (h : Site w b s F) : Site w b s (fun k => F k ∧ k < w.heap.size) := by
  obtain ⟨v, h1, h2, h3, h4, h5⟩ := h
  exact ⟨v, h1, h2, h3, ⟨h4, h1.lt⟩, fun k hk => ⟨h5 k hk, (h2.lt k hk).2⟩⟩
/-- A step that came in. -/
structure Sop where
  (k a b ep : Int)
instance : Inhabited Sop := ⟨⟨0, 0, 0, 0⟩⟩
def Sop.cells (o : Sop) : Array Value := #[.int .i64 o.k, .int .i64 o.a, .int .i64 o.b, .int .u64 o.ep]
def SS.act (s : SS) (o : Sop) : SS := if o.k = 1 then s.asked o.a o.ep else if o.k = 2 then s.learn ⟨o.a, o.b, o.ep⟩ else if o.k = 3 then s.evict o.a else if o.k = 4 then s.flush else if o.k = 5 then s.dep else s
def SS.ansN (s : SS) (o : Sop) : Int := if o.k = 1 then s.askN o.a o.ep else 0
def SS.ansIs (s : SS) (o : Sop) : Bool := if o.k = 1 then s.askIs o.a o.ep else false
def SS.ans (s : SS) (o : Sop) : Value := .agg #[.int .i64 (s.ansN o), .bool (s.ansIs o)]

/-- The world in which the steps are called. -/
def DoW (w : World) (o : Sop) : World := ((w.alloc (.cells #[.int .i64 o.k, .int .i64 o.a, .int .i64 o.b, .int .u64 o.ep] 38)).alloc (.cells #[.int .i64 0, .bool false] 40)).alloc (.cells #[.int .i64 0, .bool false] 40)
theorem dow_site {b : Nat} {s : SS} {o : Sop} {F : Nat → Prop} {w : World} (h : Site w b s F) : Site (DoW w o) b s (fun k => F k ∧ k < w.heap.size) :=
  h.old.kp ((((Kp.refl (fun _ => False) _).alloc _).alloc _).alloc _) (fun _ _ _ h => h)
theorem do_done {b : Nat} {s' : SS} {o : Sop} {F : Nat → Prop} {w w1 : World} (h : Then b s' (fun k => F k ∧ k < w.heap.size) (DoW w o) w1) :
    Blk w1 (w.heap.size + 1) 40 #[.int .i64 0, .bool false] ∧ Blk w1 (w.heap.size + 1 + 1) 40 #[.int .i64 0, .bool false] ∧ w.heap.size + 1 + 1 + 1 ≤ w1.heap.size ∧
      ∀ w2, Kp (fun k => k = w.heap.size + 1 ∨ k = w.heap.size + 1 + 1) w1 w2 → Then b s' F w w2 := by
  obtain ⟨F', h1, h2, h3⟩ := h
  have hs : w.heap.size + 1 + 1 + 1 ≤ w1.heap.size := by have := h2.size; simpa [DoW] using this
  refine ⟨Blk.kp ((Blk.new (by simp)).alloc _) h2 (fun h => by have := h.2; omega), Blk.kp (Blk.new (by simp)) h2 (fun h => by have := h.2; omega), hs, fun w2 hk => ?_⟩
  have hF : ∀ k, F' k → ¬ (k = w.heap.size + 1 ∨ k = w.heap.size + 1 + 1) := by
    intro k hk e
    rcases h3 k hk with h | h
    · have := h.2; omega
    · have : w.heap.size + 1 + 1 + 1 ≤ k := by simpa [DoW] using h
      omega
  refine ⟨F', h1.kp hk (fun k _ h => hF k h), ?_, fun k hk => (h3 k hk).elim (fun h => .inl h.1) (fun h => .inr (Nat.le_trans (by simp [DoW]; omega) h))⟩
  have k0 : Kp F w (DoW w o) := (((Kp.refl F _).alloc _).alloc _).alloc _
  have k1 := k0.trans' h2 (fun k _ h => h.1)
  exact ⟨hk.os.trans k1.os, hk.tape.trans k1.tape, hk.output.trans k1.output, Nat.le_trans k1.size hk.size, fun k hlt hn => by
    rw [hk.block k (Nat.lt_of_lt_of_le hlt k1.size) (by omega)]
    exact k1.block k hlt hn⟩

set_option maxRecDepth 100000 in
set_option maxHeartbeats 1000000 in
theorem do_site (b : Nat) (s : SS) (o : Sop) (F : Nat → Prop) (w : World) (h : Site w b s F) (hh : s.hits < 1000000000000) (hr : s.rw < 1000000000000) :
    Calls Try.prog 22 #[.pointer (some ⟨b, 0, none⟩), .agg #[.int .i64 o.k, .int .i64 o.a, .int .i64 o.b, .int .u64 o.ep]] w fun e w' => e = .returned (s.ans o) ∧ Then b (s.act o) F w w' := by
  obtain ⟨k, a, c, ep⟩ := o
  dsimp only
  by_cases e1 : k = 1
  · subst e1
    have h3 := dow_site (o := ⟨1, a, c, ep⟩) h
    have HT := Lib.hid ((ask_site b s a ep _ _ h3 hh).mono (fun e w' ⟨he, hs, hk⟩ => (⟨he, ⟨_, hs, hk, fun _ h => .inl h⟩⟩ : e = Ending.returned (.tuple #[.int .i64 (s.askN a ep), .bool (s.askIs a ep)]) ∧ Then b (s.asked a ep) _ _ w')))
    clear h3
    go_enter Try.func22, Try.ntmps22
    go_wp2_with fail
    change Calls _ _ _ (DoW w ⟨_, _, _, _⟩) _
    refine (HT.out).mono ?_
    rintro e w1 ⟨rfl, ht⟩
    obtain ⟨B1, B2, hsz, hfin⟩ := do_done ht
    have FIN := Lib.hid hfin
    clear hfin ht
    have x0 := B1.cell 0 (.int .i64 0) rfl
    have x1 := B1.cell 1 (.bool false) rfl
    have y0 := B2.cell 0 (.int .i64 0) rfl
    have y1 := B2.cell 1 (.bool false) rfl
    have f1 := B1.free
    have f2 := B2.free
    have b1 : w.heap.size + 1 < w1.heap.size := by omega
    have b2 : w.heap.size + 1 + 1 < w1.heap.size := by omega
    have HB1 := Lib.hid B1; have HB2 := Lib.hid B2
    clear B1 B2
    go_wp2
    have R0 := (Blk.set (((HB1.out.other (p := ⟨w.heap.size + 1 + 1, 0, none⟩) (by simp) (.int .i64 (s.askN a ep))).other (p := ⟨w.heap.size + 1 + 1, 1, none⟩) (by simp) (.bool (s.askIs a ep)))) 0 (.int .i64 (s.askN a ep))).cell 0 (.int .i64 (s.askN a ep)) rfl
    have R1 := ((Blk.set (((HB1.out.other (p := ⟨w.heap.size + 1 + 1, 0, none⟩) (by simp) (.int .i64 (s.askN a ep))).other (p := ⟨w.heap.size + 1 + 1, 1, none⟩) (by simp) (.bool (s.askIs a ep)))) 0 (.int .i64 (s.askN a ep))).set 1 (.bool (s.askIs a ep))).cell 0 (.int .i64 (s.askN a ep)) rfl
    have R2 := ((Blk.set (((HB1.out.other (p := ⟨w.heap.size + 1 + 1, 0, none⟩) (by simp) (.int .i64 (s.askN a ep))).other (p := ⟨w.heap.size + 1 + 1, 1, none⟩) (by simp) (.bool (s.askIs a ep)))) 0 (.int .i64 (s.askN a ep))).set 1 (.bool (s.askIs a ep))).cell 1 (.bool (s.askIs a ep)) rfl
    refine bodyPost_ret (v := .agg #[.int .i64 (s.askN a ep), .bool (s.askIs a ep)]) (by simp [results, Try.results22, go_sem, R0, R1, R2]) rfl ?_
    exact ⟨rfl, FIN.out _ (by (repeat (first | (with_reducible exact Kp.refl _ _) | (with_reducible assumption) | (with_reducible refine Kp.drew ?_) | (with_reducible refine Kp.drewN ?_ _) | (with_reducible refine Kp.alloc ?_ _) | (with_reducible refine Kp.setCell ?_ ?_ _) | (left; rfl) | (left; left; rfl) | (right; simp; done) | (right; simp; omega) | go_size)) <;> simp)⟩
  by_cases e2 : k = 2
  · subst e2
    have h3 := Lib.hid (dow_site (o := ⟨2, a, c, ep⟩) h)
    go_enter Try.func22, Try.ntmps22
    go_wp2_with fail
    change Calls _ _ _ (DoW w ⟨_, _, _, _⟩) _
    refine (learn_site b s ⟨a, c, ep⟩ _ _ h3.out hr).mono ?_
    rintro e w1 ⟨rfl, ht⟩
    obtain ⟨B1, B2, hsz, hfin⟩ := do_done ht
    have FIN := Lib.hid hfin
    clear hfin ht
    have x0 := B1.cell 0 (.int .i64 0) rfl
    have x1 := B1.cell 1 (.bool false) rfl
    have y0 := B2.cell 0 (.int .i64 0) rfl
    have y1 := B2.cell 1 (.bool false) rfl
    have f1 := B1.free
    have f2 := B2.free
    have b1 : w.heap.size + 1 < w1.heap.size := by omega
    have b2 : w.heap.size + 1 + 1 < w1.heap.size := by omega
    have HB1 := Lib.hid B1; have HB2 := Lib.hid B2
    clear B1 B2
    go_wp2
    have R0 := (Blk.set (HB1.out) 0 (.int .i64 (0))).cell 0 (.int .i64 (0)) rfl
    have R1 := ((Blk.set (HB1.out) 0 (.int .i64 (0))).set 1 (.bool (false))).cell 0 (.int .i64 (0)) rfl
    have R2 := ((Blk.set (HB1.out) 0 (.int .i64 (0))).set 1 (.bool (false))).cell 1 (.bool (false)) rfl
    refine bodyPost_ret (v := .agg #[.int .i64 (0), .bool (false)]) (by simp [results, Try.results22, go_sem, R0, R1, R2]) rfl ?_
    exact ⟨rfl, FIN.out _ (by (repeat (first | (with_reducible exact Kp.refl _ _) | (with_reducible assumption) | (with_reducible refine Kp.drew ?_) | (with_reducible refine Kp.drewN ?_ _) | (with_reducible refine Kp.alloc ?_ _) | (with_reducible refine Kp.setCell ?_ ?_ _) | (left; rfl) | (left; left; rfl) | (right; simp; done) | (right; simp; omega) | go_size)) <;> simp)⟩
  by_cases e3 : k = 3
  · subst e3
    have h3 := Lib.hid (dow_site (o := ⟨3, a, c, ep⟩) h)
    go_enter Try.func22, Try.ntmps22
    go_wp2_with fail
    change Calls _ _ _ (DoW w ⟨_, _, _, _⟩) _
    refine (evict_site b s a _ _ h3.out).mono ?_
    rintro e w1 ⟨rfl, ht⟩
    obtain ⟨B1, B2, hsz, hfin⟩ := do_done ht
    have FIN := Lib.hid hfin
    clear hfin ht
    have x0 := B1.cell 0 (.int .i64 0) rfl
    have x1 := B1.cell 1 (.bool false) rfl
    have y0 := B2.cell 0 (.int .i64 0) rfl
    have y1 := B2.cell 1 (.bool false) rfl
    have f1 := B1.free
    have f2 := B2.free
    have b1 : w.heap.size + 1 < w1.heap.size := by omega
    have b2 : w.heap.size + 1 + 1 < w1.heap.size := by omega
    have HB1 := Lib.hid B1; have HB2 := Lib.hid B2
    clear B1 B2
    go_wp2
    have R0 := (Blk.set (HB1.out) 0 (.int .i64 (0))).cell 0 (.int .i64 (0)) rfl
    have R1 := ((Blk.set (HB1.out) 0 (.int .i64 (0))).set 1 (.bool (false))).cell 0 (.int .i64 (0)) rfl
    have R2 := ((Blk.set (HB1.out) 0 (.int .i64 (0))).set 1 (.bool (false))).cell 1 (.bool (false)) rfl
    refine bodyPost_ret (v := .agg #[.int .i64 (0), .bool (false)]) (by simp [results, Try.results22, go_sem, R0, R1, R2]) rfl ?_
    exact ⟨rfl, FIN.out _ (by (repeat (first | (with_reducible exact Kp.refl _ _) | (with_reducible assumption) | (with_reducible refine Kp.drew ?_) | (with_reducible refine Kp.drewN ?_ _) | (with_reducible refine Kp.alloc ?_ _) | (with_reducible refine Kp.setCell ?_ ?_ _) | (left; rfl) | (left; left; rfl) | (right; simp; done) | (right; simp; omega) | go_size)) <;> simp)⟩
  by_cases e4 : k = 4
  · subst e4
    have h3 := Lib.hid (dow_site (o := ⟨4, a, c, ep⟩) h)
    go_enter Try.func22, Try.ntmps22
    go_wp2_with fail
    change Calls _ _ _ (DoW w ⟨_, _, _, _⟩) _
    refine (flush_site b s _ _ h3.out).mono ?_
    rintro e w1 ⟨rfl, ht⟩
    obtain ⟨B1, B2, hsz, hfin⟩ := do_done ht
    have FIN := Lib.hid hfin
    clear hfin ht
    have x0 := B1.cell 0 (.int .i64 0) rfl
    have x1 := B1.cell 1 (.bool false) rfl
    have y0 := B2.cell 0 (.int .i64 0) rfl
    have y1 := B2.cell 1 (.bool false) rfl
    have f1 := B1.free
    have f2 := B2.free
    have b1 : w.heap.size + 1 < w1.heap.size := by omega
    have b2 : w.heap.size + 1 + 1 < w1.heap.size := by omega
    have HB1 := Lib.hid B1; have HB2 := Lib.hid B2
    clear B1 B2
    go_wp2
    have R0 := (Blk.set (HB1.out) 0 (.int .i64 (0))).cell 0 (.int .i64 (0)) rfl
    have R1 := ((Blk.set (HB1.out) 0 (.int .i64 (0))).set 1 (.bool (false))).cell 0 (.int .i64 (0)) rfl
    have R2 := ((Blk.set (HB1.out) 0 (.int .i64 (0))).set 1 (.bool (false))).cell 1 (.bool (false)) rfl
    refine bodyPost_ret (v := .agg #[.int .i64 (0), .bool (false)]) (by simp [results, Try.results22, go_sem, R0, R1, R2]) rfl ?_
    exact ⟨rfl, FIN.out _ (by (repeat (first | (with_reducible exact Kp.refl _ _) | (with_reducible assumption) | (with_reducible refine Kp.drew ?_) | (with_reducible refine Kp.drewN ?_ _) | (with_reducible refine Kp.alloc ?_ _) | (with_reducible refine Kp.setCell ?_ ?_ _) | (left; rfl) | (left; left; rfl) | (right; simp; done) | (right; simp; omega) | go_size)) <;> simp)⟩
  by_cases e5 : k = 5
  · subst e5
    have h3 := Lib.hid (dow_site (o := ⟨5, a, c, ep⟩) h)
    go_enter Try.func22, Try.ntmps22
    go_wp2_with fail
    change Calls _ _ _ (DoW w ⟨_, _, _, _⟩) _
    refine (dep_site b s _ _ h3.out).mono ?_
    rintro e w1 ⟨rfl, ht⟩
    obtain ⟨B1, B2, hsz, hfin⟩ := do_done ht
    have FIN := Lib.hid hfin
    clear hfin ht
    have x0 := B1.cell 0 (.int .i64 0) rfl
    have x1 := B1.cell 1 (.bool false) rfl
    have y0 := B2.cell 0 (.int .i64 0) rfl
    have y1 := B2.cell 1 (.bool false) rfl
    have f1 := B1.free
    have f2 := B2.free
    have b1 : w.heap.size + 1 < w1.heap.size := by omega
    have b2 : w.heap.size + 1 + 1 < w1.heap.size := by omega
    have HB1 := Lib.hid B1; have HB2 := Lib.hid B2
    clear B1 B2
    go_wp2
    have R0 := (Blk.set (HB1.out) 0 (.int .i64 (0))).cell 0 (.int .i64 (0)) rfl
    have R1 := ((Blk.set (HB1.out) 0 (.int .i64 (0))).set 1 (.bool (false))).cell 0 (.int .i64 (0)) rfl
    have R2 := ((Blk.set (HB1.out) 0 (.int .i64 (0))).set 1 (.bool (false))).cell 1 (.bool (false)) rfl
    refine bodyPost_ret (v := .agg #[.int .i64 (0), .bool (false)]) (by simp [results, Try.results22, go_sem, R0, R1, R2]) rfl ?_
    exact ⟨rfl, FIN.out _ (by (repeat (first | (with_reducible exact Kp.refl _ _) | (with_reducible assumption) | (with_reducible refine Kp.drew ?_) | (with_reducible refine Kp.drewN ?_ _) | (with_reducible refine Kp.alloc ?_ _) | (with_reducible refine Kp.setCell ?_ ?_ _) | (left; rfl) | (left; left; rfl) | (right; simp; done) | (right; simp; omega) | go_size)) <;> simp)⟩
  have E : s.ans ⟨k, a, c, ep⟩ = .agg #[.int .i64 0, .bool false] ∧ s.act ⟨k, a, c, ep⟩ = s := by
    unfold SS.ans SS.ansN SS.ansIs SS.act
    simp [e1, e2, e3, e4, e5]
  rw [E.1, E.2]
  have h3 := Lib.hid h.old
  have q1 : (k == 1) = false := by simpa using e1
  have q2 : (k == 2) = false := by simpa using e2
  have q3 : (k == 3) = false := by simpa using e3
  have q4 : (k == 4) = false := by simpa using e4
  have q5 : (k == 5) = false := by simpa using e5
  clear e1 e2 e3 e4 e5 E h
  go_enter Try.func22, Try.ntmps22
  go_wp2
  have R : Blk (((w.alloc (.cells #[.int .i64 k, .int .i64 a, .int .i64 c, .int .u64 ep] 38)).alloc (.cells #[.int .i64 0, .bool false] 40)).alloc (.cells #[.int .i64 0, .bool false] 40)) (w.heap.size + 1) 40 #[.int .i64 0, .bool false] := (Blk.new (by simp)).alloc _
  have R1 := R.cell 0 (.int .i64 0) rfl
  have R2 := R.cell 1 (.bool false) rfl
  refine bodyPost_ret (v := .agg #[.int .i64 0, .bool false]) (by simp [results, Try.results22, go_sem, R1, R2]) rfl ?_
  refine ⟨rfl, fun k => F k ∧ k < w.heap.size, h3.out.kp (S := fun k => w.heap.size ≤ k) ?_ (fun k _ h e => by omega), ?_, fun k h => .inl h.1⟩
  · (repeat (first | (with_reducible exact Kp.refl _ _) | (with_reducible assumption) | (with_reducible refine Kp.drew ?_) | (with_reducible refine Kp.drewN ?_ _) | (with_reducible refine Kp.alloc ?_ _) | (with_reducible refine Kp.setCell ?_ ?_ _) | (left; rfl) | (left; left; rfl) | (right; simp; done) | (right; simp; omega) | go_size))
  · (repeat (first | (with_reducible exact Kp.refl _ _) | (with_reducible assumption) | (with_reducible refine Kp.drew ?_) | (with_reducible refine Kp.drewN ?_ _) | (with_reducible refine Kp.alloc ?_ _) | (with_reducible refine Kp.setCell ?_ ?_ _) | (left; rfl) | (left; left; rfl) | (right; simp; done) | (right; simp; omega) | go_size))
end Go.Proofs.Ytcdofhfneiednaa
