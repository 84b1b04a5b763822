/- The law's own 'do'; alive. -/
import Derived.Test.YtbmbfgcdbpanjaaCrF
namespace Go.Proofs.Ytbmbfgcdbpanjaa
set_option linter.unusedSimpArgs false
set_option linter.unusedVariables false
open Go.RowKit

/-- A step that came in. -/
structure Cop where
  (k a : Int)
instance : Inhabited Cop := ⟨⟨0, 0⟩⟩
def Bk.act (B : Bk) (o : Cop) : Bk := if o.k = 1 then B.create else if o.k = 2 then B.resume o.a else if o.k = 3 then B.back else if o.k = 4 then B.finish else if o.k = 5 then B.close o.a else B
def Bk.ansN (B : Bk) (o : Cop) : Int := if o.k = 1 then B.ended.length else 0
def Bk.ansE (B : Bk) (o : Cop) : Int := if o.k = 2 then resE (B.code o.a) else if o.k = 3 ∨ o.k = 4 then bkE B else if o.k = 5 then cloE (B.code o.a) else 0
def Bk.ansS (B : Bk) (o : Cop) : ByteArray := if o.k = 2 then resS (B.code o.a) else if o.k = 3 then bkS B else if o.k = 5 then cloS (B.code o.a) else wNone
def Bk.ans (B : Bk) (o : Cop) : Value := .agg #[.int .i64 (B.ansN o), .int .i64 (B.ansE o), .string (B.ansS o)]

/-- The world in which the steps are called. -/
def DoW (w : World) (o : Cop) : World := ((w.alloc (.cells #[.int .i64 o.k, .int .i64 o.a] 34)).alloc (.cells #[.int .i64 0, .int .i64 0, .string ⟨#[]⟩] 36)).alloc (.cells #[.int .i64 0, .int .i64 0, .string ⟨#[]⟩] 36)
theorem dow_book {b : Nat} {B : Bk} {o : Cop} {F : Nat → Prop} {w : World} (h : Book w b B F) : Book (DoW w o) b B (fun k => F k ∧ k < w.heap.size) :=
  h.old.kp ((((Kp.refl (fun _ => False) _).alloc _).alloc _).alloc _) (fun _ _ _ h => h)
theorem then_book {b : Nat} {B' : Bk} {F : Nat → Prop} {w w' : World} (h : Book w' b B' F) (k : Kp F w w') : ThenB b B' F w w' := ⟨F, h, k, fun _ h => .inl h⟩
theorem do_done {b : Nat} {B' : Bk} {o : Cop} {F : Nat → Prop} {w w1 : World} (h : ThenB b B' (fun k => F k ∧ k < w.heap.size) (DoW w o) w1) :
    Blk w1 (w.heap.size + 1) 36 #[.int .i64 0, .int .i64 0, .string ⟨#[]⟩] ∧ Blk w1 (w.heap.size + 1 + 1) 36 #[.int .i64 0, .int .i64 0, .string ⟨#[]⟩] ∧ w.heap.size + 1 + 1 + 1 ≤ w1.heap.size ∧
      ∀ w2, Kp (fun k => k = w.heap.size + 1 ∨ k = w.heap.size + 1 + 1) w1 w2 → ThenB b B' F w w2 := by
  obtain ⟨F', h1, h2, h3⟩ := h
  have hs : w.heap.size + 1 + 1 + 1 ≤ w1.heap.size := by have := h2.size; simpa [DoW] using this
  refine ⟨Blk.kp ((Blk.new (by simp)).alloc _) h2 (fun h => by have := h.2; omega), Blk.kp (Blk.new (by simp)) h2 (fun h => by have := h.2; omega), hs, fun w2 hk => ?_⟩
  have hF : ∀ k, F' k → ¬ (k = w.heap.size + 1 ∨ k = w.heap.size + 1 + 1) := by
    intro k hk e
    rcases h3 k hk with h | h
    · have := h.2; omega
    · have : w.heap.size + 1 + 1 + 1 ≤ k := by simpa [DoW] using h
      omega
  refine ⟨F', h1.kp hk (fun k _ h => hF k h), ?_, fun k hk => (h3 k hk).elim (fun h => .inl h.1) (fun h => .inr (Nat.le_trans (by simp [DoW]; omega) h))⟩
  have k0 : Kp F w (DoW w o) := (((Kp.refl F _).alloc _).alloc _).alloc _
  have k1 := k0.trans' h2 (fun k _ h => h.1)
  exact ⟨hk.os.trans k1.os, hk.tape.trans k1.tape, hk.output.trans k1.output, Nat.le_trans k1.size hk.size, fun k hlt hn => by
    rw [hk.block k (Nat.lt_of_lt_of_le hlt k1.size) (by omega)]
    exact k1.block k hlt hn⟩

set_option maxRecDepth 100000 in
set_option maxHeartbeats 1000000 in
theorem do_book (b : Nat) (B : Bk) (o : Cop) (F : Nat → Prop) (w : World) (h : Book w b B F) (h1 : B.ended.length < 100000) (h2 : B.wait.length < 100000) :
    Calls Try.prog 16 #[.pointer (some ⟨b, 0, none⟩), .agg #[.int .i64 o.k, .int .i64 o.a]] w fun e w' => e = .returned (B.ans o) ∧ ThenB b (B.act o) F w w' := by
  obtain ⟨k, a⟩ := o
  dsimp only
  by_cases e1 : k = 1
  · subst e1
    have h3 := Lib.hid (dow_book (o := ⟨1, a⟩) h)
    have HT := Lib.hid (create_book b B _ _ h3.out h1)
    go_enter Try.func16, Try.ntmps16
    go_wp2_with fail
    change Calls _ _ _ (DoW w ⟨_, _⟩) _
    refine (HT.out).mono ?_
    rintro e w1 ⟨rfl, ht⟩
    obtain ⟨B1, B2, hsz, hfin⟩ := do_done ht
    have FIN := Lib.hid hfin
    clear hfin ht
    have x0 := B1.cell 0 (.int .i64 0) rfl
    have x1 := B1.cell 1 (.int .i64 0) rfl
    have x2 := B1.cell 2 (.string ⟨#[]⟩) rfl
    have y0 := B2.cell 0 (.int .i64 0) rfl
    have y1 := B2.cell 1 (.int .i64 0) rfl
    have y2 := B2.cell 2 (.string ⟨#[]⟩) rfl
    have f1 := B1.free
    have f2 := B2.free
    have b1 : w.heap.size + 1 < w1.heap.size := by omega
    have b2 : w.heap.size + 1 + 1 < w1.heap.size := by omega
    have HB1 := Lib.hid B1; have HB2 := Lib.hid B2
    clear B1 B2
    go_wp2
    have RB := (((Blk.set (((HB1.out.other (p := ⟨w.heap.size + 1 + 1, 0, none⟩) (by simp) (.int .i64 B.ended.length)).other (p := ⟨w.heap.size + 1 + 1, 1, none⟩) (by simp) (.int .i64 0))) 0 (.int .i64 (B.ended.length))).set 1 (.int .i64 (0))).set 2 (.string (⟨#[]⟩)))
    have R0 := RB.cell 0 (.int .i64 (B.ended.length)) rfl
    have R1 := RB.cell 1 (.int .i64 (0)) rfl
    have R2 := RB.cell 2 (.string (⟨#[]⟩)) rfl
    clear RB
    refine bodyPost_ret (v := .agg #[.int .i64 (B.ended.length), .int .i64 (0), .string (⟨#[]⟩)]) (by simp [results, Try.results16, go_sem, R0, R1, R2]) rfl ?_
    exact ⟨rfl, FIN.out _ (by (repeat (first | (with_reducible exact Kp.refl _ _) | (with_reducible assumption) | (with_reducible refine Kp.drew ?_) | (with_reducible refine Kp.drewN ?_ _) | (with_reducible refine Kp.alloc ?_ _) | (with_reducible refine Kp.setCell ?_ ?_ _) | (left; rfl) | (left; left; rfl) | (right; simp; done) | (right; simp; omega) | go_size)) <;> simp)⟩
  by_cases e2 : k = 2
  · subst e2
    have h3 := Lib.hid (dow_book (o := ⟨2, a⟩) h)
    have HT := Lib.hid (resume_book b B _ a _ h3.out h2)
    go_enter Try.func16, Try.ntmps16
    go_wp2_with fail
    change Calls _ _ _ (DoW w ⟨_, _⟩) _
    refine (HT.out).mono ?_
    rintro e w1 ⟨rfl, ht⟩
    obtain ⟨B1, B2, hsz, hfin⟩ := do_done ht
    have FIN := Lib.hid hfin
    clear hfin ht
    have x0 := B1.cell 0 (.int .i64 0) rfl
    have x1 := B1.cell 1 (.int .i64 0) rfl
    have x2 := B1.cell 2 (.string ⟨#[]⟩) rfl
    have y0 := B2.cell 0 (.int .i64 0) rfl
    have y1 := B2.cell 1 (.int .i64 0) rfl
    have y2 := B2.cell 2 (.string ⟨#[]⟩) rfl
    have f1 := B1.free
    have f2 := B2.free
    have b1 : w.heap.size + 1 < w1.heap.size := by omega
    have b2 : w.heap.size + 1 + 1 < w1.heap.size := by omega
    have HB1 := Lib.hid B1; have HB2 := Lib.hid B2
    clear B1 B2
    go_wp2
    have RB := (((Blk.set (((HB1.out.other (p := ⟨w.heap.size + 1 + 1, 2, none⟩) (by simp) (.string (resS (B.code a)))).other (p := ⟨w.heap.size + 1 + 1, 1, none⟩) (by simp) (.int .i64 (resE (B.code a))))) 0 (.int .i64 (0))).set 1 (.int .i64 (resE (B.code a)))).set 2 (.string (resS (B.code a))))
    have R0 := RB.cell 0 (.int .i64 (0)) rfl
    have R1 := RB.cell 1 (.int .i64 (resE (B.code a))) rfl
    have R2 := RB.cell 2 (.string (resS (B.code a))) rfl
    clear RB
    refine bodyPost_ret (v := .agg #[.int .i64 (0), .int .i64 (resE (B.code a)), .string (resS (B.code a))]) (by simp [results, Try.results16, go_sem, R0, R1, R2]) rfl ?_
    exact ⟨rfl, FIN.out _ (by (repeat (first | (with_reducible exact Kp.refl _ _) | (with_reducible assumption) | (with_reducible refine Kp.drew ?_) | (with_reducible refine Kp.drewN ?_ _) | (with_reducible refine Kp.alloc ?_ _) | (with_reducible refine Kp.setCell ?_ ?_ _) | (left; rfl) | (left; left; rfl) | (right; simp; done) | (right; simp; omega) | go_size)) <;> simp)⟩
  by_cases e3 : k = 3
  · subst e3
    have h3 := Lib.hid (dow_book (o := ⟨3, a⟩) h)
    have HT := Lib.hid ((yield_book b B _ _ h3.out).mono (fun e w' hh => (⟨hh.1, then_book hh.2.1 hh.2.2⟩ : e = Ending.returned (.tuple #[.string (bkS B), .int .i64 (bkE B)]) ∧ ThenB b B.back _ _ w')))
    go_enter Try.func16, Try.ntmps16
    go_wp2_with fail
    change Calls _ _ _ (DoW w ⟨_, _⟩) _
    refine (HT.out).mono ?_
    rintro e w1 ⟨rfl, ht⟩
    obtain ⟨B1, B2, hsz, hfin⟩ := do_done ht
    have FIN := Lib.hid hfin
    clear hfin ht
    have x0 := B1.cell 0 (.int .i64 0) rfl
    have x1 := B1.cell 1 (.int .i64 0) rfl
    have x2 := B1.cell 2 (.string ⟨#[]⟩) rfl
    have y0 := B2.cell 0 (.int .i64 0) rfl
    have y1 := B2.cell 1 (.int .i64 0) rfl
    have y2 := B2.cell 2 (.string ⟨#[]⟩) rfl
    have f1 := B1.free
    have f2 := B2.free
    have b1 : w.heap.size + 1 < w1.heap.size := by omega
    have b2 : w.heap.size + 1 + 1 < w1.heap.size := by omega
    have HB1 := Lib.hid B1; have HB2 := Lib.hid B2
    clear B1 B2
    go_wp2
    have RB := (((Blk.set (((HB1.out.other (p := ⟨w.heap.size + 1 + 1, 2, none⟩) (by simp) (.string (bkS B))).other (p := ⟨w.heap.size + 1 + 1, 1, none⟩) (by simp) (.int .i64 (bkE B)))) 0 (.int .i64 (0))).set 1 (.int .i64 (bkE B))).set 2 (.string (bkS B)))
    have R0 := RB.cell 0 (.int .i64 (0)) rfl
    have R1 := RB.cell 1 (.int .i64 (bkE B)) rfl
    have R2 := RB.cell 2 (.string (bkS B)) rfl
    clear RB
    refine bodyPost_ret (v := .agg #[.int .i64 (0), .int .i64 (bkE B), .string (bkS B)]) (by simp [results, Try.results16, go_sem, R0, R1, R2]) rfl ?_
    exact ⟨rfl, FIN.out _ (by (repeat (first | (with_reducible exact Kp.refl _ _) | (with_reducible assumption) | (with_reducible refine Kp.drew ?_) | (with_reducible refine Kp.drewN ?_ _) | (with_reducible refine Kp.alloc ?_ _) | (with_reducible refine Kp.setCell ?_ ?_ _) | (left; rfl) | (left; left; rfl) | (right; simp; done) | (right; simp; omega) | go_size)) <;> simp)⟩
  by_cases e4 : k = 4
  · subst e4
    have h3 := Lib.hid (dow_book (o := ⟨4, a⟩) h)
    have HT := Lib.hid ((finish_book b B _ _ h3.out).mono (fun e w' hh => (⟨hh.1, then_book hh.2.1 hh.2.2⟩ : e = Ending.returned (.int .i64 (bkE B)) ∧ ThenB b B.finish _ _ w')))
    go_enter Try.func16, Try.ntmps16
    go_wp2_with fail
    change Calls _ _ _ (DoW w ⟨_, _⟩) _
    refine (HT.out).mono ?_
    rintro e w1 ⟨rfl, ht⟩
    obtain ⟨B1, B2, hsz, hfin⟩ := do_done ht
    have FIN := Lib.hid hfin
    clear hfin ht
    have x0 := B1.cell 0 (.int .i64 0) rfl
    have x1 := B1.cell 1 (.int .i64 0) rfl
    have x2 := B1.cell 2 (.string ⟨#[]⟩) rfl
    have y0 := B2.cell 0 (.int .i64 0) rfl
    have y1 := B2.cell 1 (.int .i64 0) rfl
    have y2 := B2.cell 2 (.string ⟨#[]⟩) rfl
    have f1 := B1.free
    have f2 := B2.free
    have b1 : w.heap.size + 1 < w1.heap.size := by omega
    have b2 : w.heap.size + 1 + 1 < w1.heap.size := by omega
    have HB1 := Lib.hid B1; have HB2 := Lib.hid B2
    clear B1 B2
    go_wp2
    have RB := (((Blk.set ((HB1.out.other (p := ⟨w.heap.size + 1 + 1, 1, none⟩) (by simp) (.int .i64 (bkE B)))) 0 (.int .i64 (0))).set 1 (.int .i64 (bkE B))).set 2 (.string (⟨#[]⟩)))
    have R0 := RB.cell 0 (.int .i64 (0)) rfl
    have R1 := RB.cell 1 (.int .i64 (bkE B)) rfl
    have R2 := RB.cell 2 (.string (⟨#[]⟩)) rfl
    clear RB
    refine bodyPost_ret (v := .agg #[.int .i64 (0), .int .i64 (bkE B), .string (⟨#[]⟩)]) (by simp [results, Try.results16, go_sem, R0, R1, R2]) rfl ?_
    exact ⟨rfl, FIN.out _ (by (repeat (first | (with_reducible exact Kp.refl _ _) | (with_reducible assumption) | (with_reducible refine Kp.drew ?_) | (with_reducible refine Kp.drewN ?_ _) | (with_reducible refine Kp.alloc ?_ _) | (with_reducible refine Kp.setCell ?_ ?_ _) | (left; rfl) | (left; left; rfl) | (right; simp; done) | (right; simp; omega) | go_size)) <;> simp)⟩
  by_cases e5 : k = 5
  · subst e5
    have h3 := Lib.hid (dow_book (o := ⟨5, a⟩) h)
    have HT := Lib.hid ((close_book b B _ a _ h3.out).mono (fun e w' hh => (⟨hh.1, then_book hh.2.1 hh.2.2⟩ : e = Ending.returned (.tuple #[.string (cloS (B.code a)), .int .i64 (cloE (B.code a))]) ∧ ThenB b (B.close a) _ _ w')))
    go_enter Try.func16, Try.ntmps16
    go_wp2_with fail
    change Calls _ _ _ (DoW w ⟨_, _⟩) _
    refine (HT.out).mono ?_
    rintro e w1 ⟨rfl, ht⟩
    obtain ⟨B1, B2, hsz, hfin⟩ := do_done ht
    have FIN := Lib.hid hfin
    clear hfin ht
    have x0 := B1.cell 0 (.int .i64 0) rfl
    have x1 := B1.cell 1 (.int .i64 0) rfl
    have x2 := B1.cell 2 (.string ⟨#[]⟩) rfl
    have y0 := B2.cell 0 (.int .i64 0) rfl
    have y1 := B2.cell 1 (.int .i64 0) rfl
    have y2 := B2.cell 2 (.string ⟨#[]⟩) rfl
    have f1 := B1.free
    have f2 := B2.free
    have b1 : w.heap.size + 1 < w1.heap.size := by omega
    have b2 : w.heap.size + 1 + 1 < w1.heap.size := by omega
    have HB1 := Lib.hid B1; have HB2 := Lib.hid B2
    clear B1 B2
    go_wp2
    have RB := (((Blk.set (((HB1.out.other (p := ⟨w.heap.size + 1 + 1, 2, none⟩) (by simp) (.string (cloS (B.code a)))).other (p := ⟨w.heap.size + 1 + 1, 1, none⟩) (by simp) (.int .i64 (cloE (B.code a))))) 0 (.int .i64 (0))).set 1 (.int .i64 (cloE (B.code a)))).set 2 (.string (cloS (B.code a))))
    have R0 := RB.cell 0 (.int .i64 (0)) rfl
    have R1 := RB.cell 1 (.int .i64 (cloE (B.code a))) rfl
    have R2 := RB.cell 2 (.string (cloS (B.code a))) rfl
    clear RB
    refine bodyPost_ret (v := .agg #[.int .i64 (0), .int .i64 (cloE (B.code a)), .string (cloS (B.code a))]) (by simp [results, Try.results16, go_sem, R0, R1, R2]) rfl ?_
    exact ⟨rfl, FIN.out _ (by (repeat (first | (with_reducible exact Kp.refl _ _) | (with_reducible assumption) | (with_reducible refine Kp.drew ?_) | (with_reducible refine Kp.drewN ?_ _) | (with_reducible refine Kp.alloc ?_ _) | (with_reducible refine Kp.setCell ?_ ?_ _) | (left; rfl) | (left; left; rfl) | (right; simp; done) | (right; simp; omega) | go_size)) <;> simp)⟩
  have E : B.ans ⟨k, a⟩ = .agg #[.int .i64 0, .int .i64 0, .string ⟨#[]⟩] ∧ B.act ⟨k, a⟩ = B := by
    unfold Bk.ans Bk.ansN Bk.ansE Bk.ansS Bk.act
    simp [e1, e2, e3, e4, e5, wNone]
  rw [E.1, E.2]
  have h3 := Lib.hid h.old
  have q1 : (k == 1) = false := by simpa using e1
  have q2 : (k == 2) = false := by simpa using e2
  have q3 : (k == 3) = false := by simpa using e3
  have q4 : (k == 4) = false := by simpa using e4
  have q5 : (k == 5) = false := by simpa using e5
  clear e1 e2 e3 e4 e5 E h
  go_enter Try.func16, Try.ntmps16
  go_wp2
  have HB1 : Blk (((w.alloc (.cells #[.int .i64 k, .int .i64 a] 34)).alloc (.cells #[.int .i64 0, .int .i64 0, .string ⟨#[]⟩] 36)).alloc (.cells #[.int .i64 0, .int .i64 0, .string ⟨#[]⟩] 36)) (w.heap.size + 1) 36 #[.int .i64 0, .int .i64 0, .string ⟨#[]⟩] := (Blk.new (by simp)).alloc _
  have R0 := HB1.cell 0 (.int .i64 0) rfl
  have R1 := HB1.cell 1 (.int .i64 0) rfl
  have R2 := HB1.cell 2 (.string ⟨#[]⟩) rfl
  clear HB1
  refine bodyPost_ret (v := .agg #[.int .i64 0, .int .i64 0, .string ⟨#[]⟩]) (by simp [results, Try.results16, go_sem, R0, R1, R2]) rfl ?_
  refine ⟨rfl, fun k => F k ∧ k < w.heap.size, h3.out.kp (S := fun k => w.heap.size ≤ k) ?_ (fun k _ h e => by omega), ?_, fun k h => .inl h.1⟩
  · (repeat (first | (with_reducible exact Kp.refl _ _) | (with_reducible assumption) | (with_reducible refine Kp.drew ?_) | (with_reducible refine Kp.drewN ?_ _) | (with_reducible refine Kp.alloc ?_ _) | (with_reducible refine Kp.setCell ?_ ?_ _) | (left; rfl) | (left; left; rfl) | (right; simp; done) | (right; simp; omega) | go_size))
  · (repeat (first | (with_reducible exact Kp.refl _ _) | (with_reducible assumption) | (with_reducible refine Kp.drew ?_) | (with_reducible refine Kp.drewN ?_ _) | (with_reducible refine Kp.alloc ?_ _) | (with_reducible refine Kp.setCell ?_ ?_ _) | (left; rfl) | (left; left; rfl) | (right; simp; done) | (right; simp; omega) | go_size))

/-- A book over blocks of P. -/
def OwnB (P : Nat → Prop) (w : World) (b : Nat) (B : Bk) : Prop := ∃ F, Book w b B F ∧ ∀ k, F k → P k
theorem OwnB.kp {P S : Nat → Prop} {w w' : World} {b : Nat} {B : Bk} (h : OwnB P w b B) (k : Kp S w w') (hn : ∀ k, k < w.heap.size → P k → ¬ S k) : OwnB P w' b B := by
  obtain ⟨F, h1, h2⟩ := h
  exact ⟨F, h1.kp k (fun i hi hf => hn i hi (h2 i hf)), h2⟩
theorem OwnB.ok {P : Nat → Prop} {w : World} {b : Nat} {B : Bk} (h : OwnB P w b B) : BOk B := by obtain ⟨F, h1, h2⟩ := h; exact h1.ok
theorem OwnB.lt {P : Nat → Prop} {w : World} {b : Nat} {B : Bk} (h : OwnB P w b B) : b < w.heap.size := by obtain ⟨F, h1, h2⟩ := h; exact h1.lt
theorem ownb_of {P : Nat → Prop} {w w' : World} {b : Nat} {B : Bk} {F : Nat → Prop} (hP : ∀ k, w.heap.size ≤ k → P k) (hF : ∀ k, F k → P k) (h : ThenB b B F w w') : OwnB P w' b B ∧ Kp P w w' := by
  obtain ⟨F', h1, h2, h3⟩ := h
  exact ⟨⟨F', h1, fun k hk => (h3 k hk).elim (hF k) (hP k)⟩, h2.mono (fun k _ h => hF k h)⟩
section
variable {P : Nat → Prop} {b : Nat} {B : Bk} {w : World}
theorem create_own (h : OwnB P w b B) (hP : ∀ k, w.heap.size ≤ k → P k) (hs : B.ended.length < 100000) :
    Calls Try.prog 10 #[.pointer (some ⟨b, 0, none⟩)] w fun e w' => e = .returned (.int .i64 B.ended.length) ∧ OwnB P w' b B.create ∧ Kp P w w' := by
  obtain ⟨F, h1, h2⟩ := h
  exact (create_book b B F w h1 hs).mono fun e w' ⟨he, ht⟩ => ⟨he, ownb_of hP h2 ht⟩
theorem resume_own (h : OwnB P w b B) (id : Int) (hP : ∀ k, w.heap.size ≤ k → P k) (hs : B.wait.length < 100000) :
    Calls Try.prog 11 #[.pointer (some ⟨b, 0, none⟩), .int .i64 id] w fun e w' => e = .returned (.tuple #[.string (resS (B.code id)), .int .i64 (resE (B.code id))]) ∧ OwnB P w' b (B.resume id) ∧ Kp P w w' := by
  obtain ⟨F, h1, h2⟩ := h
  exact (resume_book b B F id w h1 hs).mono fun e w' ⟨he, ht⟩ => ⟨he, ownb_of hP h2 ht⟩
theorem yield_own (h : OwnB P w b B) :
    Calls Try.prog 24 #[.pointer (some ⟨b, 0, none⟩)] w fun e w' => e = .returned (.tuple #[.string (bkS B), .int .i64 (bkE B)]) ∧ OwnB P w' b B.back ∧ Kp P w w' := by
  obtain ⟨F, h1, h2⟩ := h
  exact (yield_book b B F w h1).mono fun e w' ⟨he, h3, h4⟩ => ⟨he, ⟨F, h3, h2⟩, h4.mono (fun k _ h => h2 k h)⟩
theorem finish_own (h : OwnB P w b B) :
    Calls Try.prog 15 #[.pointer (some ⟨b, 0, none⟩)] w fun e w' => e = .returned (.int .i64 (bkE B)) ∧ OwnB P w' b B.finish ∧ Kp P w w' := by
  obtain ⟨F, h1, h2⟩ := h
  exact (finish_book b B F w h1).mono fun e w' ⟨he, h3, h4⟩ => ⟨he, ⟨F, h3, h2⟩, h4.mono (fun k _ h => h2 k h)⟩
theorem close_own (h : OwnB P w b B) (id : Int) :
    Calls Try.prog 17 #[.pointer (some ⟨b, 0, none⟩), .int .i64 id] w fun e w' => e = .returned (.tuple #[.string (cloS (B.code id)), .int .i64 (cloE (B.code id))]) ∧ OwnB P w' b (B.close id) ∧ Kp P w w' := by
  obtain ⟨F, h1, h2⟩ := h
  exact (close_book b B F id w h1).mono fun e w' ⟨he, h3, h4⟩ => ⟨he, ⟨F, h3, h2⟩, h4.mono (fun k _ h => h2 k h)⟩
theorem status_own (h : OwnB P w b B) (id : Int) :
    Calls Try.prog 13 #[.pointer (some ⟨b, 0, none⟩), .int .i64 id] w fun e w' => e = .returned (.string (word (B.code id))) ∧ Kp (fun _ => False) w w' := by
  obtain ⟨F, h1, h2⟩ := h
  exact status_book b B F id w h1
theorem running_own (h : OwnB P w b B) :
    Calls Try.prog 12 #[.pointer (some ⟨b, 0, none⟩)] w fun e w' => e = .returned (.int .i64 (B.run : Nat)) ∧ Kp (fun _ => False) w w' := by
  obtain ⟨F, h1, h2⟩ := h
  exact running_book b B F w h1
theorem deep_own (h : OwnB P w b B) :
    Calls Try.prog 14 #[.pointer (some ⟨b, 0, none⟩)] w fun e w' => e = .returned (.int .i64 (B.wait.length - 1 : Nat)) ∧ Kp (fun _ => False) w w' := by
  obtain ⟨F, h1, h2⟩ := h
  exact deep_book b B F w h1
theorem do_own (h : OwnB P w b B) (o : Cop) (hP : ∀ k, w.heap.size ≤ k → P k) (hs : B.ended.length < 100000) (hw : B.wait.length < 100000) :
    Calls Try.prog 16 #[.pointer (some ⟨b, 0, none⟩), .agg #[.int .i64 o.k, .int .i64 o.a]] w fun e w' => e = .returned (B.ans o) ∧ OwnB P w' b (B.act o) ∧ Kp P w w' := by
  obtain ⟨F, h1, h2⟩ := h
  exact (do_book b B o F w h1 hs hw).mono fun e w' ⟨he, ht⟩ => ⟨he, ownb_of hP h2 ht⟩
theorem new_own (hP : ∀ k, w.heap.size ≤ k → P k) : Calls Try.prog 9 #[] w fun e w' => ∃ b, e = .returned (.pointer (some ⟨b, 0, none⟩)) ∧ OwnB P w' b ⟨[0], [false]⟩ ∧ Kp P w w' :=
  (newb_any w).mono fun e w' ⟨b, F, he, h1, h2, h3⟩ => ⟨b, he, ⟨F, h1, fun k hk => hP k (h2 k hk)⟩, Kp.of_below h3⟩
end
theorem ownb_tell {P : Nat → Prop} {b : Nat} {B : Bk} {w w' : World} (h : OwnB P w b B) (k : Kp (fun _ => False) w w') : OwnB P w' b B := h.kp k (fun _ _ _ h => h)
theorem kp_tell {P : Nat → Prop} {w0 w w' : World} (h : Kp P w0 w) (k : Kp (fun _ => False) w w') : Kp P w0 w' := h.trans (k.mono (fun _ _ h => h.elim))
theorem le_of_kp {P S : Nat → Prop} {w w' : World} (h : Kp S w w') (hP : ∀ k, w.heap.size ≤ k → P k) : ∀ k, w'.heap.size ≤ k → P k := fun k hk => hP k (Nat.le_trans h.size hk)
end Go.Proofs.Ytbmbfgcdbpanjaa
