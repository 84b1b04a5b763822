/- The document's book of threads: Do. -/
import Derived.Test.YtbmbfgcdbpanjaaCrT
namespace Go.Proofs.Ytbmbfgcdbpanjaa
set_option linter.unusedSimpArgs false
set_option linter.unusedVariables false
open Go.RowKit

/-- The world in which the steps are called. -/
def RDoW (w : World) (o : Cop) : World := ((w.alloc (.cells #[.int .i64 o.k, .int .i64 o.a] 42)).alloc (.cells #[.int .i64 0, .int .i64 0, .string ⟨#[]⟩] 36)).alloc (.cells #[.int .i64 0, .int .i64 0, .string ⟨#[]⟩] 36)
theorem rdow_book {b : Nat} {B : Bk} {o : Cop} {F : Nat → Prop} {w : World} (h : RBook w b B F) : RBook (RDoW w o) b B (fun k => F k ∧ k < w.heap.size) :=
  h.old.kp ((((Kp.refl (fun _ => False) _).alloc _).alloc _).alloc _) (fun _ _ _ h => h)
theorem rdo_done {b : Nat} {B' : Bk} {o : Cop} {F : Nat → Prop} {w w1 : World} (h : RThenB b B' (fun k => F k ∧ k < w.heap.size) (RDoW w o) w1) :
    Blk w1 (w.heap.size + 1) 36 #[.int .i64 0, .int .i64 0, .string ⟨#[]⟩] ∧ Blk w1 (w.heap.size + 1 + 1) 36 #[.int .i64 0, .int .i64 0, .string ⟨#[]⟩] ∧ w.heap.size + 1 + 1 + 1 ≤ w1.heap.size ∧
      ∀ w2, Kp (fun k => k = w.heap.size + 1 ∨ k = w.heap.size + 1 + 1) w1 w2 → RThenB b B' F w w2 := by
  obtain ⟨F', h1, h2, h3⟩ := h
  have hs : w.heap.size + 1 + 1 + 1 ≤ w1.heap.size := by have := h2.size; simpa [RDoW] using this
  refine ⟨Blk.kp ((Blk.new (by simp)).alloc _) h2 (fun h => by have := h.2; omega), Blk.kp (Blk.new (by simp)) h2 (fun h => by have := h.2; omega), hs, fun w2 hk => ?_⟩
  have hF : ∀ k, F' k → ¬ (k = w.heap.size + 1 ∨ k = w.heap.size + 1 + 1) := by
    intro k hk e
    rcases h3 k hk with h | h
    · have := h.2; omega
    · have : w.heap.size + 1 + 1 + 1 ≤ k := by simpa [RDoW] using h
      omega
  refine ⟨F', h1.kp hk (fun k _ h => hF k h), ?_, fun k hk => (h3 k hk).elim (fun h => .inl h.1) (fun h => .inr (Nat.le_trans (by simp [RDoW]; omega) h))⟩
  have k0 : Kp F w (RDoW w o) := (((Kp.refl F _).alloc _).alloc _).alloc _
  have k1 := k0.trans' h2 (fun k _ h => h.1)
  exact ⟨hk.os.trans k1.os, hk.tape.trans k1.tape, hk.output.trans k1.output, Nat.le_trans k1.size hk.size, fun k hlt hn => by
    rw [hk.block k (Nat.lt_of_lt_of_le hlt k1.size) (by omega)]
    exact k1.block k hlt hn⟩

set_option maxRecDepth 100000 in
set_option maxHeartbeats 1000000 in
theorem rdo_book (b : Nat) (B : Bk) (o : Cop) (F : Nat → Prop) (w : World) (h : RBook w b B F) (h1 : B.ended.length < 100000) (h2 : B.wait.length < 100000) :
    Calls Try.prog 19 #[.pointer (some ⟨b, 0, none⟩), .agg #[.int .i64 o.k, .int .i64 o.a]] w fun e w' => e = .returned (B.ans o) ∧ RThenB b (B.act o) F w w' := by
  obtain ⟨k, a⟩ := o
  dsimp only
  by_cases e1 : k = 1
  · subst e1
    have h3 := Lib.hid (rdow_book (o := ⟨1, a⟩) h)
    have HT := Lib.hid (rcreate_book b B _ _ h3.out h1)
    go_enter Try.func19, Try.ntmps19
    go_wp2_with fail
    change Calls _ _ _ (RDoW w ⟨_, _⟩) _
    refine (HT.out).mono ?_
    rintro e w1 ⟨rfl, ht⟩
    obtain ⟨B1, B2, hsz, hfin⟩ := rdo_done ht
    have FIN := Lib.hid hfin
    clear hfin ht
    have x0 := B1.cell 0 (.int .i64 0) rfl
    have x1 := B1.cell 1 (.int .i64 0) rfl
    have x2 := B1.cell 2 (.string ⟨#[]⟩) rfl
    have y0 := B2.cell 0 (.int .i64 0) rfl
    have y1 := B2.cell 1 (.int .i64 0) rfl
    have y2 := B2.cell 2 (.string ⟨#[]⟩) rfl
    have f1 := B1.free
    have f2 := B2.free
    have b1 : w.heap.size + 1 < w1.heap.size := by omega
    have b2 : w.heap.size + 1 + 1 < w1.heap.size := by omega
    have HB1 := Lib.hid B1; have HB2 := Lib.hid B2
    clear B1 B2
    go_wp2
    have RB := (((Blk.set ((HB1.out.other (p := ⟨w.heap.size + 1 + 1, 0, none⟩) (by simp) (.int .i64 B.ended.length))) 0 (.int .i64 (B.ended.length))).set 1 (.int .i64 (0))).set 2 (.string (⟨#[]⟩)))
    have R0 := RB.cell 0 (.int .i64 (B.ended.length)) rfl
    have R1 := RB.cell 1 (.int .i64 (0)) rfl
    have R2 := RB.cell 2 (.string (⟨#[]⟩)) rfl
    clear RB
    refine bodyPost_ret (v := .agg #[.int .i64 (B.ended.length), .int .i64 (0), .string (⟨#[]⟩)]) (by simp [results, Try.results19, go_sem, R0, R1, R2]) rfl ?_
    exact ⟨rfl, FIN.out _ (by (repeat (first | (with_reducible exact Kp.refl _ _) | (with_reducible assumption) | (with_reducible refine Kp.drew ?_) | (with_reducible refine Kp.drewN ?_ _) | (with_reducible refine Kp.alloc ?_ _) | (with_reducible refine Kp.setCell ?_ ?_ _) | (left; rfl) | (left; left; rfl) | (right; simp; done) | (right; simp; omega) | go_size)) <;> simp)⟩
  by_cases e2 : k = 2
  · subst e2
    have h3 := Lib.hid (rdow_book (o := ⟨2, a⟩) h)
    have HT := Lib.hid (rresume_book b B _ a _ h3.out h2)
    go_enter Try.func19, Try.ntmps19
    go_wp2_with fail
    change Calls _ _ _ (RDoW w ⟨_, _⟩) _
    refine (HT.out).mono ?_
    rintro e w1 ⟨rfl, ht⟩
    obtain ⟨B1, B2, hsz, hfin⟩ := rdo_done ht
    have FIN := Lib.hid hfin
    clear hfin ht
    have x0 := B1.cell 0 (.int .i64 0) rfl
    have x1 := B1.cell 1 (.int .i64 0) rfl
    have x2 := B1.cell 2 (.string ⟨#[]⟩) rfl
    have y0 := B2.cell 0 (.int .i64 0) rfl
    have y1 := B2.cell 1 (.int .i64 0) rfl
    have y2 := B2.cell 2 (.string ⟨#[]⟩) rfl
    have f1 := B1.free
    have f2 := B2.free
    have b1 : w.heap.size + 1 < w1.heap.size := by omega
    have b2 : w.heap.size + 1 + 1 < w1.heap.size := by omega
    have HB1 := Lib.hid B1; have HB2 := Lib.hid B2
    clear B1 B2
    go_wp2
    have RB := (((Blk.set (((HB1.out.other (p := ⟨w.heap.size + 1 + 1, 2, none⟩) (by simp) (.string (resS (B.code a)))).other (p := ⟨w.heap.size + 1 + 1, 1, none⟩) (by simp) (.int .i64 (resE (B.code a))))) 0 (.int .i64 (0))).set 1 (.int .i64 (resE (B.code a)))).set 2 (.string (resS (B.code a))))
    have R0 := RB.cell 0 (.int .i64 (0)) rfl
    have R1 := RB.cell 1 (.int .i64 (resE (B.code a))) rfl
    have R2 := RB.cell 2 (.string (resS (B.code a))) rfl
    clear RB
    refine bodyPost_ret (v := .agg #[.int .i64 (0), .int .i64 (resE (B.code a)), .string (resS (B.code a))]) (by simp [results, Try.results19, go_sem, R0, R1, R2]) rfl ?_
    exact ⟨rfl, FIN.out _ (by (repeat (first | (with_reducible exact Kp.refl _ _) | (with_reducible assumption) | (with_reducible refine Kp.drew ?_) | (with_reducible refine Kp.drewN ?_ _) | (with_reducible refine Kp.alloc ?_ _) | (with_reducible refine Kp.setCell ?_ ?_ _) | (left; rfl) | (left; left; rfl) | (right; simp; done) | (right; simp; omega) | go_size)) <;> simp)⟩
  by_cases e3 : k = 3
  · subst e3
    have h3 := Lib.hid (rdow_book (o := ⟨3, a⟩) h)
    have HT := Lib.hid ((ryield_book b B _ _ h3.out).mono (fun e w' hh => (⟨hh.1, rthen_book hh.2.1 hh.2.2⟩ : e = Ending.returned (.tuple #[.string (bkS B), .int .i64 (bkE B)]) ∧ RThenB b B.back _ _ w')))
    go_enter Try.func19, Try.ntmps19
    go_wp2_with fail
    change Calls _ _ _ (RDoW w ⟨_, _⟩) _
    refine (HT.out).mono ?_
    rintro e w1 ⟨rfl, ht⟩
    obtain ⟨B1, B2, hsz, hfin⟩ := rdo_done ht
    have FIN := Lib.hid hfin
    clear hfin ht
    have x0 := B1.cell 0 (.int .i64 0) rfl
    have x1 := B1.cell 1 (.int .i64 0) rfl
    have x2 := B1.cell 2 (.string ⟨#[]⟩) rfl
    have y0 := B2.cell 0 (.int .i64 0) rfl
    have y1 := B2.cell 1 (.int .i64 0) rfl
    have y2 := B2.cell 2 (.string ⟨#[]⟩) rfl
    have f1 := B1.free
    have f2 := B2.free
    have b1 : w.heap.size + 1 < w1.heap.size := by omega
    have b2 : w.heap.size + 1 + 1 < w1.heap.size := by omega
    have HB1 := Lib.hid B1; have HB2 := Lib.hid B2
    clear B1 B2
    go_wp2
    have RB := (((Blk.set (((HB1.out.other (p := ⟨w.heap.size + 1 + 1, 2, none⟩) (by simp) (.string (bkS B))).other (p := ⟨w.heap.size + 1 + 1, 1, none⟩) (by simp) (.int .i64 (bkE B)))) 0 (.int .i64 (0))).set 1 (.int .i64 (bkE B))).set 2 (.string (bkS B)))
    have R0 := RB.cell 0 (.int .i64 (0)) rfl
    have R1 := RB.cell 1 (.int .i64 (bkE B)) rfl
    have R2 := RB.cell 2 (.string (bkS B)) rfl
    clear RB
    refine bodyPost_ret (v := .agg #[.int .i64 (0), .int .i64 (bkE B), .string (bkS B)]) (by simp [results, Try.results19, go_sem, R0, R1, R2]) rfl ?_
    exact ⟨rfl, FIN.out _ (by (repeat (first | (with_reducible exact Kp.refl _ _) | (with_reducible assumption) | (with_reducible refine Kp.drew ?_) | (with_reducible refine Kp.drewN ?_ _) | (with_reducible refine Kp.alloc ?_ _) | (with_reducible refine Kp.setCell ?_ ?_ _) | (left; rfl) | (left; left; rfl) | (right; simp; done) | (right; simp; omega) | go_size)) <;> simp)⟩
  by_cases e4 : k = 4
  · subst e4
    have h3 := Lib.hid (rdow_book (o := ⟨4, a⟩) h)
    have HT := Lib.hid ((rfinish_book b B _ _ h3.out).mono (fun e w' hh => (⟨hh.1, rthen_book hh.2.1 hh.2.2⟩ : e = Ending.returned (.int .i64 (bkE B)) ∧ RThenB b B.finish _ _ w')))
    go_enter Try.func19, Try.ntmps19
    go_wp2_with fail
    change Calls _ _ _ (RDoW w ⟨_, _⟩) _
    refine (HT.out).mono ?_
    rintro e w1 ⟨rfl, ht⟩
    obtain ⟨B1, B2, hsz, hfin⟩ := rdo_done ht
    have FIN := Lib.hid hfin
    clear hfin ht
    have x0 := B1.cell 0 (.int .i64 0) rfl
    have x1 := B1.cell 1 (.int .i64 0) rfl
    have x2 := B1.cell 2 (.string ⟨#[]⟩) rfl
    have y0 := B2.cell 0 (.int .i64 0) rfl
    have y1 := B2.cell 1 (.int .i64 0) rfl
    have y2 := B2.cell 2 (.string ⟨#[]⟩) rfl
    have f1 := B1.free
    have f2 := B2.free
    have b1 : w.heap.size + 1 < w1.heap.size := by omega
    have b2 : w.heap.size + 1 + 1 < w1.heap.size := by omega
    have HB1 := Lib.hid B1; have HB2 := Lib.hid B2
    clear B1 B2
    go_wp2
    have RB := (((Blk.set ((HB1.out.other (p := ⟨w.heap.size + 1 + 1, 1, none⟩) (by simp) (.int .i64 (bkE B)))) 0 (.int .i64 (0))).set 1 (.int .i64 (bkE B))).set 2 (.string (⟨#[]⟩)))
    have R0 := RB.cell 0 (.int .i64 (0)) rfl
    have R1 := RB.cell 1 (.int .i64 (bkE B)) rfl
    have R2 := RB.cell 2 (.string (⟨#[]⟩)) rfl
    clear RB
    refine bodyPost_ret (v := .agg #[.int .i64 (0), .int .i64 (bkE B), .string (⟨#[]⟩)]) (by simp [results, Try.results19, go_sem, R0, R1, R2]) rfl ?_
    exact ⟨rfl, FIN.out _ (by (repeat (first | (with_reducible exact Kp.refl _ _) | (with_reducible assumption) | (with_reducible refine Kp.drew ?_) | (with_reducible refine Kp.drewN ?_ _) | (with_reducible refine Kp.alloc ?_ _) | (with_reducible refine Kp.setCell ?_ ?_ _) | (left; rfl) | (left; left; rfl) | (right; simp; done) | (right; simp; omega) | go_size)) <;> simp)⟩
  by_cases e5 : k = 5
  · subst e5
    have h3 := Lib.hid (rdow_book (o := ⟨5, a⟩) h)
    have HT := Lib.hid ((rclose_book b B _ a _ h3.out).mono (fun e w' hh => (⟨hh.1, rthen_book hh.2.1 hh.2.2⟩ : e = Ending.returned (.tuple #[.string (cloS (B.code a)), .int .i64 (cloE (B.code a))]) ∧ RThenB b (B.close a) _ _ w')))
    go_enter Try.func19, Try.ntmps19
    go_wp2_with fail
    change Calls _ _ _ (RDoW w ⟨_, _⟩) _
    refine (HT.out).mono ?_
    rintro e w1 ⟨rfl, ht⟩
    obtain ⟨B1, B2, hsz, hfin⟩ := rdo_done ht
    have FIN := Lib.hid hfin
    clear hfin ht
    have x0 := B1.cell 0 (.int .i64 0) rfl
    have x1 := B1.cell 1 (.int .i64 0) rfl
    have x2 := B1.cell 2 (.string ⟨#[]⟩) rfl
    have y0 := B2.cell 0 (.int .i64 0) rfl
    have y1 := B2.cell 1 (.int .i64 0) rfl
    have y2 := B2.cell 2 (.string ⟨#[]⟩) rfl
    have f1 := B1.free
    have f2 := B2.free
    have b1 : w.heap.size + 1 < w1.heap.size := by omega
    have b2 : w.heap.size + 1 + 1 < w1.heap.size := by omega
    have HB1 := Lib.hid B1; have HB2 := Lib.hid B2
    clear B1 B2
    go_wp2
    have RB := (((Blk.set (((HB1.out.other (p := ⟨w.heap.size + 1 + 1, 2, none⟩) (by simp) (.string (cloS (B.code a)))).other (p := ⟨w.heap.size + 1 + 1, 1, none⟩) (by simp) (.int .i64 (cloE (B.code a))))) 0 (.int .i64 (0))).set 1 (.int .i64 (cloE (B.code a)))).set 2 (.string (cloS (B.code a))))
    have R0 := RB.cell 0 (.int .i64 (0)) rfl
    have R1 := RB.cell 1 (.int .i64 (cloE (B.code a))) rfl
    have R2 := RB.cell 2 (.string (cloS (B.code a))) rfl
    clear RB
    refine bodyPost_ret (v := .agg #[.int .i64 (0), .int .i64 (cloE (B.code a)), .string (cloS (B.code a))]) (by simp [results, Try.results19, go_sem, R0, R1, R2]) rfl ?_
    exact ⟨rfl, FIN.out _ (by (repeat (first | (with_reducible exact Kp.refl _ _) | (with_reducible assumption) | (with_reducible refine Kp.drew ?_) | (with_reducible refine Kp.drewN ?_ _) | (with_reducible refine Kp.alloc ?_ _) | (with_reducible refine Kp.setCell ?_ ?_ _) | (left; rfl) | (left; left; rfl) | (right; simp; done) | (right; simp; omega) | go_size)) <;> simp)⟩
  have E : B.ans ⟨k, a⟩ = .agg #[.int .i64 0, .int .i64 0, .string ⟨#[]⟩] ∧ B.act ⟨k, a⟩ = B := by
    unfold Bk.ans Bk.ansN Bk.ansE Bk.ansS Bk.act
    simp [e1, e2, e3, e4, e5, wNone]
  rw [E.1, E.2]
  have h3 := Lib.hid h.old
  have q1 : (k == 1) = false := by simpa using e1
  have q2 : (k == 2) = false := by simpa using e2
  have q3 : (k == 3) = false := by simpa using e3
  have q4 : (k == 4) = false := by simpa using e4
  have q5 : (k == 5) = false := by simpa using e5
  clear e1 e2 e3 e4 e5 E h
  go_enter Try.func19, Try.ntmps19
  go_wp2
  have HB1 : Blk (((w.alloc (.cells #[.int .i64 k, .int .i64 a] 42)).alloc (.cells #[.int .i64 0, .int .i64 0, .string ⟨#[]⟩] 36)).alloc (.cells #[.int .i64 0, .int .i64 0, .string ⟨#[]⟩] 36)) (w.heap.size + 1) 36 #[.int .i64 0, .int .i64 0, .string ⟨#[]⟩] := (Blk.new (by simp)).alloc _
  have R0 := HB1.cell 0 (.int .i64 0) rfl
  have R1 := HB1.cell 1 (.int .i64 0) rfl
  have R2 := HB1.cell 2 (.string ⟨#[]⟩) rfl
  clear HB1
  refine bodyPost_ret (v := .agg #[.int .i64 0, .int .i64 0, .string ⟨#[]⟩]) (by simp [results, Try.results19, go_sem, R0, R1, R2]) rfl ?_
  refine ⟨rfl, fun k => F k ∧ k < w.heap.size, h3.out.kp (S := fun k => w.heap.size ≤ k) ?_ (fun k _ h e => by omega), ?_, fun k h => .inl h.1⟩
  · (repeat (first | (with_reducible exact Kp.refl _ _) | (with_reducible assumption) | (with_reducible refine Kp.drew ?_) | (with_reducible refine Kp.drewN ?_ _) | (with_reducible refine Kp.alloc ?_ _) | (with_reducible refine Kp.setCell ?_ ?_ _) | (left; rfl) | (left; left; rfl) | (right; simp; done) | (right; simp; omega) | go_size))
  · (repeat (first | (with_reducible exact Kp.refl _ _) | (with_reducible assumption) | (with_reducible refine Kp.drew ?_) | (with_reducible refine Kp.drewN ?_ _) | (with_reducible refine Kp.alloc ?_ _) | (with_reducible refine Kp.setCell ?_ ?_ _) | (left; rfl) | (left; left; rfl) | (right; simp; done) | (right; simp; omega) | go_size))


end Go.Proofs.Ytbmbfgcdbpanjaa
