/- The document's meter: its walks, told by the same functions of numbers as the program's. -/
import Derived.Test.YtmngeljbcnifgaaMtJ
namespace Go.Proofs.Ytmngeljbcnifgaa
set_option linter.unusedSimpArgs false
set_option linter.unusedVariables false
open Go.RowKit

/-- The document's meter that counted what m counted. -/
def xCells (m : MS) (v : Value) : Array Value := #[.int .i64 m.lf, .int .i64 m.ld, .int .i64 m.lc, .int .i64 m.ls, .int .i64 m.lo, .int .i64 (m.lf - m.f), .int .i64 (m.ld - m.d), .int .i64 (m.lo - m.o), .int .i64 m.st, v]
def XAt (w : World) (b : Nat) (m : MS) (v : Value) : Prop := Blk w b 51 (xCells m v)
theorem XAt.of {w : World} {b : Nat} {m : MS} {v : Value} {cs : Array Value} (h : Blk w b 51 cs) (e : cs = xCells m v) : XAt w b m v := by subst e; exact h

set_option maxRecDepth 100000 in
theorem between_any (n lo hi : Int) (w : World) : Calls Try.prog 29 #[.int .i64 n, .int .i64 lo, .int .i64 hi] w fun e w' => e = .returned (.bool (decide (lo ≤ n ∧ n ≤ hi))) ∧ w = w' := by
  by_cases h : lo ≤ n
  · by_cases h2 : n ≤ hi
    · have hd : decide (lo ≤ n ∧ n ≤ hi) = true := by simp [h, h2]
      rw [hd]; clear hd
      go_enter Try.func29, Try.ntmps29
      go_wp2
      go_returns
      exact ⟨rfl, rfl⟩
    · have hd : decide (lo ≤ n ∧ n ≤ hi) = false := by simp [h2]
      rw [hd]; clear hd
      go_enter Try.func29, Try.ntmps29
      go_wp2
      go_returns
      exact ⟨rfl, rfl⟩
  · have hd : decide (lo ≤ n ∧ n ≤ hi) = false := by simp [h]
    rw [hd]; clear hd
    go_enter Try.func29, Try.ntmps29
    go_wp2
    go_returns
    exact ⟨rfl, rfl⟩

set_option maxRecDepth 100000 in
set_option maxHeartbeats 1000000 in
theorem rright_any (f d c s o : Int) (w : World)  :
    Calls Try.prog 19 #[.agg #[.int .i64 f, .int .i64 d, .int .i64 c, .int .i64 s, .int .i64 o]] w fun e w' => e = .returned (.bool (rightB f d c s o)) ∧ w' = w.alloc (.cells #[.int .i64 f, .int .i64 d, .int .i64 c, .int .i64 s, .int .i64 o] 40) := by
  unfold rightB
  by_cases h1 : 0 ≤ f ∧ f ≤ 1000000
  · by_cases h2 : 0 ≤ o ∧ o ≤ 1000000
    · by_cases h3 : 1 ≤ d ∧ d ≤ 200
      · by_cases h4 : 0 ≤ c ∧ c ≤ 100000
        · by_cases h5 : 0 ≤ s ∧ s ≤ 65536
          · have hd : decide (0 ≤ f ∧ f ≤ 1000000 ∧ 1 ≤ d ∧ d ≤ 200 ∧ 0 ≤ c ∧ c ≤ 100000 ∧ 0 ≤ s ∧ s ≤ 65536 ∧ 0 ≤ o ∧ o ≤ 1000000) = true := by simp; omega
            rw [hd]; clear hd
            go_enter Try.func19, Try.ntmps19
            go_wp2_with fail
            refine (between_any _ _ _ _).mono ?_
            rintro e w1 ⟨he, rfl⟩
            obtain rfl : e = .returned (.bool true) := by rw [he, decide_eq_true h1]
            clear he
            go_wp2_with fail
            refine (between_any _ _ _ _).mono ?_
            rintro e w1 ⟨he, rfl⟩
            obtain rfl : e = .returned (.bool true) := by rw [he, decide_eq_true h2]
            clear he
            go_wp2_with fail
            refine (between_any _ _ _ _).mono ?_
            rintro e w1 ⟨he, rfl⟩
            obtain rfl : e = .returned (.bool true) := by rw [he, decide_eq_true h3]
            clear he
            go_wp2_with fail
            refine (between_any _ _ _ _).mono ?_
            rintro e w1 ⟨he, rfl⟩
            obtain rfl : e = .returned (.bool true) := by rw [he, decide_eq_true h4]
            clear he
            go_wp2_with fail
            refine (between_any _ _ _ _).mono ?_
            rintro e w1 ⟨he, rfl⟩
            obtain rfl : e = .returned (.bool true) := by rw [he, decide_eq_true h5]
            clear he
            go_wp2
            go_returns
            exact ⟨rfl, rfl⟩
          · have hd : decide (0 ≤ f ∧ f ≤ 1000000 ∧ 1 ≤ d ∧ d ≤ 200 ∧ 0 ≤ c ∧ c ≤ 100000 ∧ 0 ≤ s ∧ s ≤ 65536 ∧ 0 ≤ o ∧ o ≤ 1000000) = false := by simp; omega
            rw [hd]; clear hd
            go_enter Try.func19, Try.ntmps19
            go_wp2_with fail
            refine (between_any _ _ _ _).mono ?_
            rintro e w1 ⟨he, rfl⟩
            obtain rfl : e = .returned (.bool true) := by rw [he, decide_eq_true h1]
            clear he
            go_wp2_with fail
            refine (between_any _ _ _ _).mono ?_
            rintro e w1 ⟨he, rfl⟩
            obtain rfl : e = .returned (.bool true) := by rw [he, decide_eq_true h2]
            clear he
            go_wp2_with fail
            refine (between_any _ _ _ _).mono ?_
            rintro e w1 ⟨he, rfl⟩
            obtain rfl : e = .returned (.bool true) := by rw [he, decide_eq_true h3]
            clear he
            go_wp2_with fail
            refine (between_any _ _ _ _).mono ?_
            rintro e w1 ⟨he, rfl⟩
            obtain rfl : e = .returned (.bool true) := by rw [he, decide_eq_true h4]
            clear he
            go_wp2_with fail
            refine (between_any _ _ _ _).mono ?_
            rintro e w1 ⟨he, rfl⟩
            obtain rfl : e = .returned (.bool false) := by rw [he, decide_eq_false h5]
            clear he
            go_wp2
            go_returns
            exact ⟨rfl, rfl⟩
        · have hd : decide (0 ≤ f ∧ f ≤ 1000000 ∧ 1 ≤ d ∧ d ≤ 200 ∧ 0 ≤ c ∧ c ≤ 100000 ∧ 0 ≤ s ∧ s ≤ 65536 ∧ 0 ≤ o ∧ o ≤ 1000000) = false := by simp; omega
          rw [hd]; clear hd
          go_enter Try.func19, Try.ntmps19
          go_wp2_with fail
          refine (between_any _ _ _ _).mono ?_
          rintro e w1 ⟨he, rfl⟩
          obtain rfl : e = .returned (.bool true) := by rw [he, decide_eq_true h1]
          clear he
          go_wp2_with fail
          refine (between_any _ _ _ _).mono ?_
          rintro e w1 ⟨he, rfl⟩
          obtain rfl : e = .returned (.bool true) := by rw [he, decide_eq_true h2]
          clear he
          go_wp2_with fail
          refine (between_any _ _ _ _).mono ?_
          rintro e w1 ⟨he, rfl⟩
          obtain rfl : e = .returned (.bool true) := by rw [he, decide_eq_true h3]
          clear he
          go_wp2_with fail
          refine (between_any _ _ _ _).mono ?_
          rintro e w1 ⟨he, rfl⟩
          obtain rfl : e = .returned (.bool false) := by rw [he, decide_eq_false h4]
          clear he
          go_wp2
          go_returns
          exact ⟨rfl, rfl⟩
      · have hd : decide (0 ≤ f ∧ f ≤ 1000000 ∧ 1 ≤ d ∧ d ≤ 200 ∧ 0 ≤ c ∧ c ≤ 100000 ∧ 0 ≤ s ∧ s ≤ 65536 ∧ 0 ≤ o ∧ o ≤ 1000000) = false := by simp; omega
        rw [hd]; clear hd
        go_enter Try.func19, Try.ntmps19
        go_wp2_with fail
        refine (between_any _ _ _ _).mono ?_
        rintro e w1 ⟨he, rfl⟩
        obtain rfl : e = .returned (.bool true) := by rw [he, decide_eq_true h1]
        clear he
        go_wp2_with fail
        refine (between_any _ _ _ _).mono ?_
        rintro e w1 ⟨he, rfl⟩
        obtain rfl : e = .returned (.bool true) := by rw [he, decide_eq_true h2]
        clear he
        go_wp2_with fail
        refine (between_any _ _ _ _).mono ?_
        rintro e w1 ⟨he, rfl⟩
        obtain rfl : e = .returned (.bool false) := by rw [he, decide_eq_false h3]
        clear he
        go_wp2
        go_returns
        exact ⟨rfl, rfl⟩
    · have hd : decide (0 ≤ f ∧ f ≤ 1000000 ∧ 1 ≤ d ∧ d ≤ 200 ∧ 0 ≤ c ∧ c ≤ 100000 ∧ 0 ≤ s ∧ s ≤ 65536 ∧ 0 ≤ o ∧ o ≤ 1000000) = false := by simp; omega
      rw [hd]; clear hd
      go_enter Try.func19, Try.ntmps19
      go_wp2_with fail
      refine (between_any _ _ _ _).mono ?_
      rintro e w1 ⟨he, rfl⟩
      obtain rfl : e = .returned (.bool true) := by rw [he, decide_eq_true h1]
      clear he
      go_wp2_with fail
      refine (between_any _ _ _ _).mono ?_
      rintro e w1 ⟨he, rfl⟩
      obtain rfl : e = .returned (.bool false) := by rw [he, decide_eq_false h2]
      clear he
      go_wp2
      go_returns
      exact ⟨rfl, rfl⟩
  · have hd : decide (0 ≤ f ∧ f ≤ 1000000 ∧ 1 ≤ d ∧ d ≤ 200 ∧ 0 ≤ c ∧ c ≤ 100000 ∧ 0 ≤ s ∧ s ≤ 65536 ∧ 0 ≤ o ∧ o ≤ 1000000) = false := by simp; omega
    rw [hd]; clear hd
    go_enter Try.func19, Try.ntmps19
    go_wp2_with fail
    refine (between_any _ _ _ _).mono ?_
    rintro e w1 ⟨he, rfl⟩
    obtain rfl : e = .returned (.bool false) := by rw [he, decide_eq_false h1]
    clear he
    go_wp2
    go_returns
    exact ⟨rfl, rfl⟩

set_option maxRecDepth 100000 in
set_option maxHeartbeats 400000 in
theorem rnew_ok (f d c s o : Int) (w : World) (h : rightB f d c s o = true) :
    Calls Try.prog 17 #[.agg #[.int .i64 f, .int .i64 d, .int .i64 c, .int .i64 s, .int .i64 o]] w fun e w' =>
      ∃ b, e = .returned (.tuple #[.pointer (some ⟨b, 0, none⟩), .int .i64 0]) ∧ w.heap.size ≤ b ∧ XAt w' b (MS.new f d c s o) (.slice none 0 0) ∧ Below w.heap.size w w' := by
  go_enter Try.func17, Try.ntmps17
  go_wp2_with fail
  refine (rright_any _ _ _ _ _ _).mono ?_
  rintro e w1 ⟨rfl, rfl⟩
  rw [h]
  go_wp2
  go_returns
  refine ⟨_, rfl, ?_, XAt.of (Blk.new (by simp)) ?_, ?_⟩
  · omega
  · simp [xCells, MS.new]
  · go_grown

set_option maxRecDepth 100000 in
set_option maxHeartbeats 400000 in
theorem rnew_no (f d c s o : Int) (w : World) (h : rightB f d c s o = false) :
    Calls Try.prog 17 #[.agg #[.int .i64 f, .int .i64 d, .int .i64 c, .int .i64 s, .int .i64 o]] w fun e w' =>
      e = .returned (.tuple #[.pointer none, .int .i64 1]) ∧ Below w.heap.size w w' := by
  go_enter Try.func17, Try.ntmps17
  go_wp2_with fail
  refine (rright_any _ _ _ _ _ _).mono ?_
  rintro e w1 ⟨rfl, rfl⟩
  rw [h]
  go_wp2
  go_returns
  exact ⟨rfl, by go_grown⟩

/-- What a count of the document's answers and leaves. -/
def RCounts (b : Nat) (m : MS) (v : Value) (w : World) (e : Ending) (w' : World) : Prop := e = .returned (.int .i64 m.st) ∧ XAt w' b m v ∧ Kp (· = b) w w'
set_option maxRecDepth 100000 in
set_option maxHeartbeats 400000 in
theorem rstep_any (b : Nat) (m : MS) (v : Value) (w : World) (h : XAt w b m v) (ok : MOk m) :
    Calls Try.prog 34 #[.pointer (some ⟨b, 0, none⟩)] w (RCounts b m.step v w) := by
  have hb := h.lt
  have x0 := h.cell 0 (.int .i64 m.lf) rfl
  have x1 := h.cell 1 (.int .i64 m.ld) rfl
  have x2 := h.cell 2 (.int .i64 m.lc) rfl
  have x3 := h.cell 3 (.int .i64 m.ls) rfl
  have x4 := h.cell 4 (.int .i64 m.lo) rfl
  have x5 := h.cell 5 (.int .i64 (m.lf - m.f)) rfl
  have x6 := h.cell 6 (.int .i64 (m.ld - m.d)) rfl
  have x7 := h.cell 7 (.int .i64 (m.lo - m.o)) rfl
  have x8 := h.cell 8 (.int .i64 m.st) rfl
  have fr := h.free
  have p0 := ok.f0
  have p1 := ok.f1
  have p2 := ok.f2
  have p3 := ok.d0
  have p4 := ok.d1
  have p5 := ok.d2
  have p6 := ok.o0
  have p7 := ok.o1
  have p8 := ok.o2
  have H := Lib.hid h
  clear h
  by_cases hs : m.st = 0
  · by_cases hf : m.f < 1
    · have hm : m.step = { m with st := 1 } := by simp [MS.step, hs, hf]
      rw [hm]; clear hm
      rw [hs] at x8; clear hs
      have hd : decide (m.lf ≤ m.lf - m.f) = true := by simp; omega
      go_enter Try.func34, Try.ntmps34
      go_wp2
      refine wp_region_still_tail 11 (by kernel_rfl) (by kernel_rfl) ?_
      simp only [List.take_succ_cons, List.take_zero, List.drop_succ_cons, List.drop_zero]
      change wpStill _ _ (World.drew _) _ _ _
      repeat still_step
      refine wpStill_nil ?_
      change wpList _ _ _ _ _ (World.drew _)
      go_wp2
      go_returns
      exact ⟨rfl, XAt.of (Blk.drew (H.out.set 8 _)) (by simp [xCells]), by (repeat (first | exact Kp.refl _ _ | assumption | refine Kp.drew ?_ | refine Kp.drewN ?_ _ | refine Kp.alloc ?_ _ | refine Kp.setCell ?_ ?_ _ | (left; rfl) | (right; simp; done) | (right; simp; omega) | go_size))⟩
    · have hm : m.step = { m with f := m.f - 1 } := by simp [MS.step, hs, hf]
      rw [hm]; clear hm
      rw [hs] at x8
      have HS := Lib.hid hs; clear hs
      have hd : decide (m.lf ≤ m.lf - m.f) = false := by simp; omega
      go_enter Try.func34, Try.ntmps34
      go_wp2
      refine wp_region_still_tail 11 (by kernel_rfl) (by kernel_rfl) ?_
      simp only [List.take_succ_cons, List.take_zero, List.drop_succ_cons, List.drop_zero]
      change wpStill _ _ (World.drew _) _ _ _
      repeat still_step
      refine wpStill_nil ?_
      change wpList _ _ _ _ _ (World.drew _)
      go_wp2
      go_returns
      exact ⟨ret_int HS.out.symm, XAt.of (Blk.drew (H.out.set 5 _)) (by simp [xCells]; omega), by (repeat (first | exact Kp.refl _ _ | assumption | refine Kp.drew ?_ | refine Kp.drewN ?_ _ | refine Kp.alloc ?_ _ | refine Kp.setCell ?_ ?_ _ | (left; rfl) | (right; simp; done) | (right; simp; omega) | go_size))⟩
  · have hm : m.step = m := by simp [MS.step, hs]
    rw [hm]; clear hm
    have hs' : (m.st == 0) = false := by simpa using hs
    have hs2 : (m.st != 0) = true := by simpa using hs
    clear hs
    by_cases hf : m.f < 1
    · have hd : decide (m.lf ≤ m.lf - m.f) = true := by simp; omega
      go_enter Try.func34, Try.ntmps34
      go_wp2
      refine wp_region_still_tail 11 (by kernel_rfl) (by kernel_rfl) ?_
      simp only [List.take_succ_cons, List.take_zero, List.drop_succ_cons, List.drop_zero]
      change wpStill _ _ (World.drew _) _ _ _
      repeat still_step
      refine wpStill_nil ?_
      change wpList _ _ _ _ _ (World.drew _)
      go_wp2
      go_returns
      exact ⟨rfl, Blk.drew H.out, by (repeat (first | exact Kp.refl _ _ | assumption | refine Kp.drew ?_ | refine Kp.drewN ?_ _ | refine Kp.alloc ?_ _ | refine Kp.setCell ?_ ?_ _ | (left; rfl) | (right; simp; done) | (right; simp; omega) | go_size))⟩
    · have hd : decide (m.lf ≤ m.lf - m.f) = false := by simp; omega
      go_enter Try.func34, Try.ntmps34
      go_wp2
      refine wp_region_still_tail 11 (by kernel_rfl) (by kernel_rfl) ?_
      simp only [List.take_succ_cons, List.take_zero, List.drop_succ_cons, List.drop_zero]
      change wpStill _ _ (World.drew _) _ _ _
      repeat still_step
      refine wpStill_nil ?_
      change wpList _ _ _ _ _ (World.drew _)
      go_wp2
      go_returns
      exact ⟨rfl, Blk.drew H.out, by (repeat (first | exact Kp.refl _ _ | assumption | refine Kp.drew ?_ | refine Kp.drewN ?_ _ | refine Kp.alloc ?_ _ | refine Kp.setCell ?_ ?_ _ | (left; rfl) | (right; simp; done) | (right; simp; omega) | go_size))⟩
set_option maxRecDepth 100000 in
set_option maxHeartbeats 400000 in
theorem renter_any (b : Nat) (m : MS) (v : Value) (w : World) (h : XAt w b m v) (ok : MOk m) :
    Calls Try.prog 35 #[.pointer (some ⟨b, 0, none⟩)] w (RCounts b m.enter v w) := by
  have hb := h.lt
  have x0 := h.cell 0 (.int .i64 m.lf) rfl
  have x1 := h.cell 1 (.int .i64 m.ld) rfl
  have x2 := h.cell 2 (.int .i64 m.lc) rfl
  have x3 := h.cell 3 (.int .i64 m.ls) rfl
  have x4 := h.cell 4 (.int .i64 m.lo) rfl
  have x5 := h.cell 5 (.int .i64 (m.lf - m.f)) rfl
  have x6 := h.cell 6 (.int .i64 (m.ld - m.d)) rfl
  have x7 := h.cell 7 (.int .i64 (m.lo - m.o)) rfl
  have x8 := h.cell 8 (.int .i64 m.st) rfl
  have fr := h.free
  have p0 := ok.f0
  have p1 := ok.f1
  have p2 := ok.f2
  have p3 := ok.d0
  have p4 := ok.d1
  have p5 := ok.d2
  have p6 := ok.o0
  have p7 := ok.o1
  have p8 := ok.o2
  have H := Lib.hid h
  clear h
  by_cases hs : m.st = 0
  · by_cases hf : m.d < 1
    · have hm : m.enter = { m with st := 2 } := by simp [MS.enter, hs, hf]
      rw [hm]; clear hm
      rw [hs] at x8; clear hs
      have hd : decide (m.ld ≤ m.ld - m.d) = true := by simp; omega
      go_enter Try.func35, Try.ntmps35
      go_wp2
      refine wp_region_still_tail 11 (by kernel_rfl) (by kernel_rfl) ?_
      simp only [List.take_succ_cons, List.take_zero, List.drop_succ_cons, List.drop_zero]
      change wpStill _ _ (World.drew _) _ _ _
      repeat still_step
      refine wpStill_nil ?_
      change wpList _ _ _ _ _ (World.drew _)
      go_wp2
      go_returns
      exact ⟨rfl, XAt.of (Blk.drew (H.out.set 8 _)) (by simp [xCells]), by (repeat (first | exact Kp.refl _ _ | assumption | refine Kp.drew ?_ | refine Kp.drewN ?_ _ | refine Kp.alloc ?_ _ | refine Kp.setCell ?_ ?_ _ | (left; rfl) | (right; simp; done) | (right; simp; omega) | go_size))⟩
    · have hm : m.enter = { m with d := m.d - 1 } := by simp [MS.enter, hs, hf]
      rw [hm]; clear hm
      rw [hs] at x8
      have HS := Lib.hid hs; clear hs
      have hd : decide (m.ld ≤ m.ld - m.d) = false := by simp; omega
      go_enter Try.func35, Try.ntmps35
      go_wp2
      refine wp_region_still_tail 11 (by kernel_rfl) (by kernel_rfl) ?_
      simp only [List.take_succ_cons, List.take_zero, List.drop_succ_cons, List.drop_zero]
      change wpStill _ _ (World.drew _) _ _ _
      repeat still_step
      refine wpStill_nil ?_
      change wpList _ _ _ _ _ (World.drew _)
      go_wp2
      go_returns
      exact ⟨ret_int HS.out.symm, XAt.of (Blk.drew (H.out.set 6 _)) (by simp [xCells]; omega), by (repeat (first | exact Kp.refl _ _ | assumption | refine Kp.drew ?_ | refine Kp.drewN ?_ _ | refine Kp.alloc ?_ _ | refine Kp.setCell ?_ ?_ _ | (left; rfl) | (right; simp; done) | (right; simp; omega) | go_size))⟩
  · have hm : m.enter = m := by simp [MS.enter, hs]
    rw [hm]; clear hm
    have hs' : (m.st == 0) = false := by simpa using hs
    have hs2 : (m.st != 0) = true := by simpa using hs
    clear hs
    by_cases hf : m.d < 1
    · have hd : decide (m.ld ≤ m.ld - m.d) = true := by simp; omega
      go_enter Try.func35, Try.ntmps35
      go_wp2
      refine wp_region_still_tail 11 (by kernel_rfl) (by kernel_rfl) ?_
      simp only [List.take_succ_cons, List.take_zero, List.drop_succ_cons, List.drop_zero]
      change wpStill _ _ (World.drew _) _ _ _
      repeat still_step
      refine wpStill_nil ?_
      change wpList _ _ _ _ _ (World.drew _)
      go_wp2
      go_returns
      exact ⟨rfl, Blk.drew H.out, by (repeat (first | exact Kp.refl _ _ | assumption | refine Kp.drew ?_ | refine Kp.drewN ?_ _ | refine Kp.alloc ?_ _ | refine Kp.setCell ?_ ?_ _ | (left; rfl) | (right; simp; done) | (right; simp; omega) | go_size))⟩
    · have hd : decide (m.ld ≤ m.ld - m.d) = false := by simp; omega
      go_enter Try.func35, Try.ntmps35
      go_wp2
      refine wp_region_still_tail 11 (by kernel_rfl) (by kernel_rfl) ?_
      simp only [List.take_succ_cons, List.take_zero, List.drop_succ_cons, List.drop_zero]
      change wpStill _ _ (World.drew _) _ _ _
      repeat still_step
      refine wpStill_nil ?_
      change wpList _ _ _ _ _ (World.drew _)
      go_wp2
      go_returns
      exact ⟨rfl, Blk.drew H.out, by (repeat (first | exact Kp.refl _ _ | assumption | refine Kp.drew ?_ | refine Kp.drewN ?_ _ | refine Kp.alloc ?_ _ | refine Kp.setCell ?_ ?_ _ | (left; rfl) | (right; simp; done) | (right; simp; omega) | go_size))⟩
set_option maxRecDepth 100000 in
set_option maxHeartbeats 400000 in
theorem rused_any (b : Nat) (m : MS) (v : Value) (n : Int) (w : World) (h : XAt w b m v) (ok : MOk m) :
    Calls Try.prog 37 #[.pointer (some ⟨b, 0, none⟩), .int .i64 n] w (RCounts b (m.used n) v w) := by
  have hb := h.lt
  have x0 := h.cell 0 (.int .i64 m.lf) rfl
  have x1 := h.cell 1 (.int .i64 m.ld) rfl
  have x2 := h.cell 2 (.int .i64 m.lc) rfl
  have x3 := h.cell 3 (.int .i64 m.ls) rfl
  have x4 := h.cell 4 (.int .i64 m.lo) rfl
  have x5 := h.cell 5 (.int .i64 (m.lf - m.f)) rfl
  have x6 := h.cell 6 (.int .i64 (m.ld - m.d)) rfl
  have x7 := h.cell 7 (.int .i64 (m.lo - m.o)) rfl
  have x8 := h.cell 8 (.int .i64 m.st) rfl
  have fr := h.free
  have p0 := ok.f0
  have p1 := ok.f1
  have p2 := ok.f2
  have p3 := ok.d0
  have p4 := ok.d1
  have p5 := ok.d2
  have p6 := ok.o0
  have p7 := ok.o1
  have p8 := ok.o2
  have H := Lib.hid h
  clear h
  by_cases hs : m.st = 0
  · by_cases hf : m.lc < n
    · have hm : (m.used n) = { m with st := 3 } := by simp [MS.used, hs, hf]
      rw [hm]; clear hm
      rw [hs] at x8; clear hs
      have hd : decide (m.lc < n) = true := by simpa using hf
      go_enter Try.func37, Try.ntmps37
      go_wp2
      go_returns
      exact ⟨rfl, XAt.of ((H.out.set 8 _)) (by simp [xCells]), by (repeat (first | exact Kp.refl _ _ | assumption | refine Kp.drew ?_ | refine Kp.drewN ?_ _ | refine Kp.alloc ?_ _ | refine Kp.setCell ?_ ?_ _ | (left; rfl) | (right; simp; done) | (right; simp; omega) | go_size))⟩
    · have hm : (m.used n) = m := by simp [MS.used, hs, hf]
      rw [hm]; clear hm
      rw [hs] at x8
      have HS := Lib.hid hs; clear hs
      have hd : decide (m.lc < n) = false := by simpa using hf
      go_enter Try.func37, Try.ntmps37
      go_wp2
      go_returns
      exact ⟨ret_int HS.out.symm, H.out, by (repeat (first | exact Kp.refl _ _ | assumption | refine Kp.drew ?_ | refine Kp.drewN ?_ _ | refine Kp.alloc ?_ _ | refine Kp.setCell ?_ ?_ _ | (left; rfl) | (right; simp; done) | (right; simp; omega) | go_size))⟩
  · have hm : (m.used n) = m := by simp [MS.used, hs]
    rw [hm]; clear hm
    have hs' : (m.st == 0) = false := by simpa using hs
    have hs2 : (m.st != 0) = true := by simpa using hs
    clear hs
    by_cases hf : m.lc < n
    · have hd : decide (m.lc < n) = true := by simpa using hf
      go_enter Try.func37, Try.ntmps37
      go_wp2
      go_returns
      exact ⟨rfl, H.out, by (repeat (first | exact Kp.refl _ _ | assumption | refine Kp.drew ?_ | refine Kp.drewN ?_ _ | refine Kp.alloc ?_ _ | refine Kp.setCell ?_ ?_ _ | (left; rfl) | (right; simp; done) | (right; simp; omega) | go_size))⟩
    · have hd : decide (m.lc < n) = false := by simpa using hf
      go_enter Try.func37, Try.ntmps37
      go_wp2
      go_returns
      exact ⟨rfl, H.out, by (repeat (first | exact Kp.refl _ _ | assumption | refine Kp.drew ?_ | refine Kp.drewN ?_ _ | refine Kp.alloc ?_ _ | refine Kp.setCell ?_ ?_ _ | (left; rfl) | (right; simp; done) | (right; simp; omega) | go_size))⟩
set_option maxRecDepth 100000 in
set_option maxHeartbeats 400000 in
theorem rtext_any (b : Nat) (m : MS) (v : Value) (n : Int) (w : World) (h : XAt w b m v) (ok : MOk m) :
    Calls Try.prog 38 #[.pointer (some ⟨b, 0, none⟩), .int .i64 n] w (RCounts b (m.text n) v w) := by
  have hb := h.lt
  have x0 := h.cell 0 (.int .i64 m.lf) rfl
  have x1 := h.cell 1 (.int .i64 m.ld) rfl
  have x2 := h.cell 2 (.int .i64 m.lc) rfl
  have x3 := h.cell 3 (.int .i64 m.ls) rfl
  have x4 := h.cell 4 (.int .i64 m.lo) rfl
  have x5 := h.cell 5 (.int .i64 (m.lf - m.f)) rfl
  have x6 := h.cell 6 (.int .i64 (m.ld - m.d)) rfl
  have x7 := h.cell 7 (.int .i64 (m.lo - m.o)) rfl
  have x8 := h.cell 8 (.int .i64 m.st) rfl
  have fr := h.free
  have p0 := ok.f0
  have p1 := ok.f1
  have p2 := ok.f2
  have p3 := ok.d0
  have p4 := ok.d1
  have p5 := ok.d2
  have p6 := ok.o0
  have p7 := ok.o1
  have p8 := ok.o2
  have H := Lib.hid h
  clear h
  by_cases hs : m.st = 0
  · by_cases hf : m.ls < n
    · have hm : (m.text n) = { m with st := 4 } := by simp [MS.text, hs, hf]
      rw [hm]; clear hm
      rw [hs] at x8; clear hs
      have hd : decide (m.ls < n) = true := by simpa using hf
      go_enter Try.func38, Try.ntmps38
      go_wp2
      go_returns
      exact ⟨rfl, XAt.of ((H.out.set 8 _)) (by simp [xCells]), by (repeat (first | exact Kp.refl _ _ | assumption | refine Kp.drew ?_ | refine Kp.drewN ?_ _ | refine Kp.alloc ?_ _ | refine Kp.setCell ?_ ?_ _ | (left; rfl) | (right; simp; done) | (right; simp; omega) | go_size))⟩
    · have hm : (m.text n) = m := by simp [MS.text, hs, hf]
      rw [hm]; clear hm
      rw [hs] at x8
      have HS := Lib.hid hs; clear hs
      have hd : decide (m.ls < n) = false := by simpa using hf
      go_enter Try.func38, Try.ntmps38
      go_wp2
      go_returns
      exact ⟨ret_int HS.out.symm, H.out, by (repeat (first | exact Kp.refl _ _ | assumption | refine Kp.drew ?_ | refine Kp.drewN ?_ _ | refine Kp.alloc ?_ _ | refine Kp.setCell ?_ ?_ _ | (left; rfl) | (right; simp; done) | (right; simp; omega) | go_size))⟩
  · have hm : (m.text n) = m := by simp [MS.text, hs]
    rw [hm]; clear hm
    have hs' : (m.st == 0) = false := by simpa using hs
    have hs2 : (m.st != 0) = true := by simpa using hs
    clear hs
    by_cases hf : m.ls < n
    · have hd : decide (m.ls < n) = true := by simpa using hf
      go_enter Try.func38, Try.ntmps38
      go_wp2
      go_returns
      exact ⟨rfl, H.out, by (repeat (first | exact Kp.refl _ _ | assumption | refine Kp.drew ?_ | refine Kp.drewN ?_ _ | refine Kp.alloc ?_ _ | refine Kp.setCell ?_ ?_ _ | (left; rfl) | (right; simp; done) | (right; simp; omega) | go_size))⟩
    · have hd : decide (m.ls < n) = false := by simpa using hf
      go_enter Try.func38, Try.ntmps38
      go_wp2
      go_returns
      exact ⟨rfl, H.out, by (repeat (first | exact Kp.refl _ _ | assumption | refine Kp.drew ?_ | refine Kp.drewN ?_ _ | refine Kp.alloc ?_ _ | refine Kp.setCell ?_ ?_ _ | (left; rfl) | (right; simp; done) | (right; simp; omega) | go_size))⟩

set_option maxRecDepth 100000 in
set_option maxHeartbeats 400000 in
theorem rleave_any (b : Nat) (m : MS) (v : Value) (n : Int) (w : World) (h : XAt w b m v) (ok : MOk m) (hn : n ≤ 9223372036854775807) :
    Calls Try.prog 36 #[.pointer (some ⟨b, 0, none⟩), .int .i64 n] w fun e w' => e = .returned (.tuple #[]) ∧ XAt w' b (m.leave n) v ∧ Kp (· = b) w w' := by
  have hb := h.lt
  have x0 := h.cell 0 (.int .i64 m.lf) rfl
  have x1 := h.cell 1 (.int .i64 m.ld) rfl
  have x2 := h.cell 2 (.int .i64 m.lc) rfl
  have x3 := h.cell 3 (.int .i64 m.ls) rfl
  have x4 := h.cell 4 (.int .i64 m.lo) rfl
  have x5 := h.cell 5 (.int .i64 (m.lf - m.f)) rfl
  have x6 := h.cell 6 (.int .i64 (m.ld - m.d)) rfl
  have x7 := h.cell 7 (.int .i64 (m.lo - m.o)) rfl
  have x8 := h.cell 8 (.int .i64 m.st) rfl
  have fr := h.free
  have p0 := ok.f0
  have p1 := ok.f1
  have p2 := ok.f2
  have p3 := ok.d0
  have p4 := ok.d1
  have p5 := ok.d2
  have p6 := ok.o0
  have p7 := ok.o1
  have p8 := ok.o2
  have H := Lib.hid h
  clear h
  by_cases hp : 0 < n
  · have hm : MS.leave m n = { m with d := min m.ld (m.d + min n 200) } := by simp [MS.leave, hp]
    rw [hm]; clear hm
    have key : ∀ x : Int, x = m.ld - min m.ld (m.d + min n 200) → XAt (w.setCell ⟨b, 6, none⟩ (.int .i64 x)) b { m with d := min m.ld (m.d + min n 200) } v := by
      intro x hx; subst hx; exact XAt.of (H.out.set 6 _) (by simp [xCells])
    go_enter Try.func36, Try.ntmps36
    go_wp2
    all_goals go_returns
    all_goals refine ⟨rfl, key _ ?_, by (repeat (first | exact Kp.refl _ _ | assumption | refine Kp.drew ?_ | refine Kp.drewN ?_ _ | refine Kp.alloc ?_ _ | refine Kp.setCell ?_ ?_ _ | (left; rfl) | (right; simp; done) | (right; simp; omega) | go_size))⟩
    all_goals go_arith
  · have hm : MS.leave m n = m := by simp [MS.leave, hp]
    rw [hm]; clear hm
    go_enter Try.func36, Try.ntmps36
    go_wp2
    go_returns
    exact ⟨rfl, H.out, Kp.refl _ _⟩

/-- What the document's Line answers and leaves. -/
def RLined (b : Nat) (m : MS) (v : Value) (ls : List ByteArray) (s : ByteArray) (w : World) (e : Ending) (w' : World) : Prop :=
  ∃ v', e = .returned (.int .i64 (m.line s.size (.bool false)).st) ∧ XAt w' b (m.line s.size (.bool false)) v' ∧ LAt w' v' (if m.says s.size then ls ++ [s] else ls) ∧
    Kp (fun k => k = b ∨ v.ownBlock = some k) w w' ∧ SameOrNew w v v'
theorem rlined_of_counts {b : Nat} {m m' : MS} {v : Value} {ls : List ByteArray} {s : ByteArray} {w : World} (hm : m.line s.size (.bool false) = m') (hy : m.says s.size = false) (hl : LAt w v ls) (hne : v.ownBlock ≠ some b) :
    ∀ e w', RCounts b m' v w e w' → RLined b m v ls s w e w' := by
  rintro e w' ⟨rfl, hb, k⟩
  subst hm
  exact ⟨v, rfl, hb, by rw [hy]; exact hl.kp k (fun g hg e => hne (e ▸ hg)), k.mono (fun _ _ h => .inl h), .inl rfl⟩
def RLined2 (b : Nat) (m : MS) (v : Value) (ls : List ByteArray) (s : ByteArray) (w : World) (e : Ending) (w' : World) : Prop :=
  ∃ v', e = .returned (.int .i64 0) ∧ XAt w' b { m with o := m.o - (s.size + 1), ln := .bool false } v' ∧ LAt w' v' (ls ++ [s]) ∧ Kp (fun k => k = b ∨ v.ownBlock = some k) w w' ∧ SameOrNew w v v'
theorem rlined_of_2 {b : Nat} {m : MS} {v : Value} {ls : List ByteArray} {s : ByteArray} {w : World} (hs : m.st = 0) (hm : m.line s.size (.bool false) = { m with o := m.o - (s.size + 1), ln := .bool false }) (hy : m.says s.size = true) :
    ∀ e w', RLined2 b m v ls s w e w' → RLined b m v ls s w e w' := by
  rintro e w' ⟨v', rfl, hb, h1, h2, h3⟩
  refine ⟨v', ?_, ?_, ?_, h2, h3⟩
  · rw [hm]; exact ret_int hs.symm
  · rw [hm]; exact hb
  · rw [hy]; exact h1

set_option maxRecDepth 100000 in
set_option maxHeartbeats 1000000 in
theorem rline_any (b : Nat) (m : MS) (v : Value) (ls : List ByteArray) (s : ByteArray) (w : World) (h : XAt w b m v) (ok : MOk m) (hl : LAt w v ls) (hs2 : s.size ≤ 140737488351232) (hll : ls.length ≤ 1000000) :
    Calls Try.prog 39 #[.pointer (some ⟨b, 0, none⟩), .string s] w (RLined b m v ls s w) := by
  obtain ⟨i0, hi, hz0, hz1, hz2⟩ := info_parts Try.info9
  have hne := hl.ne h (by decide)
  have x9 := h.cell 9 v rfl
  have hb := h.lt
  have x0 := h.cell 0 (.int .i64 m.lf) rfl
  have x1 := h.cell 1 (.int .i64 m.ld) rfl
  have x2 := h.cell 2 (.int .i64 m.lc) rfl
  have x3 := h.cell 3 (.int .i64 m.ls) rfl
  have x4 := h.cell 4 (.int .i64 m.lo) rfl
  have x5 := h.cell 5 (.int .i64 (m.lf - m.f)) rfl
  have x6 := h.cell 6 (.int .i64 (m.ld - m.d)) rfl
  have x7 := h.cell 7 (.int .i64 (m.lo - m.o)) rfl
  have x8 := h.cell 8 (.int .i64 m.st) rfl
  have fr := h.free
  have p0 := ok.f0
  have p1 := ok.f1
  have p2 := ok.f2
  have p3 := ok.d0
  have p4 := ok.d1
  have p5 := ok.d2
  have p6 := ok.o0
  have p7 := ok.o1
  have p8 := ok.o2
  have H := Lib.hid h
  clear h
  by_cases hs : m.st = 0
  · by_cases hf : m.o < s.size + 1
    · refine Calls.mono (R := RCounts b { m with st := 5 } v w) ?_ (rlined_of_counts (by simp [MS.line, hs, hf]) (by simp [MS.says, hf]) hl hne)
      have hd : decide (m.lo < m.lo - m.o + s.size + 1) = true := by simp; omega
      rw [hs] at x8; clear hs
      clear x9
      go_enter Try.func39, Try.ntmps39
      go_wp2
      refine wp_region_still_tail 15 (by kernel_rfl) (by kernel_rfl) ?_
      simp only [List.take_succ_cons, List.take_zero, List.drop_succ_cons, List.drop_zero]
      change wpStill _ _ (World.drew _) _ _ _
      repeat still_step
      refine wpStill_nil ?_
      change wpList _ _ _ _ _ (World.drew _)
      go_wp2
      go_returns
      exact ⟨rfl, XAt.of (Blk.drew (H.out.set 8 _)) (by simp [xCells]), by (repeat (first | exact Kp.refl _ _ | assumption | refine Kp.drew ?_ | refine Kp.drewN ?_ _ | refine Kp.alloc ?_ _ | refine Kp.setCell ?_ ?_ _ | (left; rfl) | (right; simp; done) | (right; simp; omega) | go_size))⟩
    · refine Calls.mono (R := RLined2 b m v ls s w) ?_ (rlined_of_2 hs (by simp [MS.line, hs, hf]) (by simp [MS.says, hs]; omega))
      have hd : decide (m.lo < m.lo - m.o + s.size + 1) = false := by simp; omega
      rw [hs] at x8
      have HS := Lib.hid hs; clear hs
      have HL := Lib.hid hl; clear hl
      go_enter Try.func39, Try.ntmps39
      go_wp2
      refine wp_region_still_tail 15 (by kernel_rfl) (by kernel_rfl) ?_
      simp only [List.take_succ_cons, List.take_zero, List.drop_succ_cons, List.drop_zero]
      change wpStill _ _ (World.drew _) _ _ _
      repeat still_step
      refine wpStill_nil ?_
      change wpList _ _ _ _ _ (World.drew _)
      go_wp2_with (first | (go_at_call 43; go_in) | (at_builtin; refine wpList_append2 _ rfl (.tmp 36) (.tmp 38) 45 rfl 9 i0 (.string ByteArray.empty) 1 16 Try.underlying45 hi hz0 hz1 hz2 rfl (by decide) v ls.length (ls.map Value.string) rfl ?own ⟨w.heap.size, 0, none⟩ 1 1 [.string s] rfl rfl ?c1 ?c2 ?c3 ?c4 ?h))
      case own => exact HL.out.kp (S := (· = b)) (by (repeat (first | exact Kp.refl _ _ | assumption | refine Kp.drew ?_ | refine Kp.drewN ?_ _ | refine Kp.alloc ?_ _ | refine Kp.setCell ?_ ?_ _ | (left; rfl) | (right; simp; done) | (right; simp; omega) | go_size))) (fun g hg e => hne (e ▸ hg))
      case c1 => exact cell_one _ _ _ _ (by simp)
      case c2 => intro u hu; simp at hu; subst hu; rfl
      case c3 => unfold maxLen; omega
      case c4 => omega
      case h =>
        intro v' w1 hown hgr hsn
        obtain ⟨g, cap', rfl⟩ := ownsRow_some hown (by omega)
        have HB : Blk w1 b 51 (xCells { m with o := m.o - (s.size + 1) } v) := Blk.grown (Blk.drew (Blk.alloc (XAt.of (H.out.set 7 (.int .i64 (m.lo - m.o + (s.size + 1)))) (by simp [xCells]; omega)) _)) hgr hne
        have k1 : Kp (fun k => k = b ∨ v.ownBlock = some k) w w1 := (((Kp.refl _ w).setCell (p := ⟨b, 7, none⟩) (.inl (.inl rfl)) (.int .i64 (m.lo - m.o + (s.size + 1)))).alloc _).drew.grown hgr (fun k e => .inl (.inr e))
        have y8 := HB.cell 8 (.int .i64 m.st) rfl
        rw [HS.out] at y8
        have y9 := HB.cell 9 v rfl
        have yf := HB.free
        have HB' := Lib.hid HB; clear HB
        have HO := Lib.hid hown; clear hown
        have hns : SameOrNew w v (.slice (some ⟨g, 0, none⟩) (ls.length + 1) cap') := by
          rcases hsn with h | h
          · exact .inl h
          · exact .inr fun g' hg' => by have := h g' hg'; simp at this; omega
        have hnb : ∀ g', (Value.slice (some ⟨g, 0, none⟩) (ls.length + 1) cap').ownBlock = some g' → g' ≠ b := by
          intro g' hg' e
          rcases hns with h | h
          · exact hne (by rw [← h, hg', e])
          · have := h g' hg'; omega
        clear hgr x0 x1 x2 x3 x4 x5 x6 x7 x8 x9 fr
        go_wp2
        go_returns
        exact ⟨.slice (some ⟨g, 0, none⟩) (ls.length + 1) cap', rfl, XAt.of (HB'.out.set 9 _) (by simp [xCells]), (show LAt w1 _ (ls ++ [s]) from by unfold LAt; simpa using HO.out).kp (S := (· = b)) (by (repeat (first | exact Kp.refl _ _ | assumption | refine Kp.drew ?_ | refine Kp.drewN ?_ _ | refine Kp.alloc ?_ _ | refine Kp.setCell ?_ ?_ _ | (left; rfl) | (right; simp; done) | (right; simp; omega) | go_size))) (fun g' hg' e => hnb g' hg' e), k1.setCell (.inl (.inl rfl)) _, hns⟩
  · refine Calls.mono (R := RCounts b m v w) ?_ (rlined_of_counts (by simp [MS.line, hs]) (by simp [MS.says, hs]) hl hne)
    have hs' : (m.st == 0) = false := by simpa using hs
    have hs2 : (m.st != 0) = true := by simpa using hs
    clear hs x9
    by_cases hf : m.o < s.size + 1
    · have hd : decide (m.lo < m.lo - m.o + s.size + 1) = true := by simp; omega
      go_enter Try.func39, Try.ntmps39
      go_wp2
      refine wp_region_still_tail 15 (by kernel_rfl) (by kernel_rfl) ?_
      simp only [List.take_succ_cons, List.take_zero, List.drop_succ_cons, List.drop_zero]
      change wpStill _ _ (World.drew _) _ _ _
      repeat still_step
      refine wpStill_nil ?_
      change wpList _ _ _ _ _ (World.drew _)
      go_wp2
      go_returns
      exact ⟨rfl, Blk.drew H.out, by (repeat (first | exact Kp.refl _ _ | assumption | refine Kp.drew ?_ | refine Kp.drewN ?_ _ | refine Kp.alloc ?_ _ | refine Kp.setCell ?_ ?_ _ | (left; rfl) | (right; simp; done) | (right; simp; omega) | go_size))⟩
    · have hd : decide (m.lo < m.lo - m.o + s.size + 1) = false := by simp; omega
      go_enter Try.func39, Try.ntmps39
      go_wp2
      refine wp_region_still_tail 15 (by kernel_rfl) (by kernel_rfl) ?_
      simp only [List.take_succ_cons, List.take_zero, List.drop_succ_cons, List.drop_zero]
      change wpStill _ _ (World.drew _) _ _ _
      repeat still_step
      refine wpStill_nil ?_
      change wpList _ _ _ _ _ (World.drew _)
      go_wp2
      go_returns
      exact ⟨rfl, Blk.drew H.out, by (repeat (first | exact Kp.refl _ _ | assumption | refine Kp.drew ?_ | refine Kp.drewN ?_ _ | refine Kp.alloc ?_ _ | refine Kp.setCell ?_ ?_ _ | (left; rfl) | (right; simp; done) | (right; simp; omega) | go_size))⟩
end Go.Proofs.Ytmngeljbcnifgaa
