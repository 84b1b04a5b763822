/- The walks of package meter: Enter, Used, Text, Stop, Leave, Deep, Steps. -/
import Derived.Test.YtmngeljbcnifgaaMtB
namespace Go.Proofs.Ytmngeljbcnifgaa
open Go.RowKit

set_option maxRecDepth 100000 in
set_option maxHeartbeats 400000 in
theorem enter_any (b : Nat) (m : MS) (w : World) (h : MAt w b m) (ok : MOk m) :
    Calls Try.prog 11 #[.pointer (some ⟨b, 0, none⟩)] w (Counts b m.enter w) := by
  have hmf : ∀ (fn : Fn) (first cap : Array Value) (w : World), (Instr.makeFunc fn first cap).run Try.prog w = .ok (.func fn first cap) w := fun _ _ _ _ => rfl
  have hb := h.lt
  have hb1 : b < w.heap.size + 1 := by omega
  have hb2 : b < w.heap.size + 1 + 1 := by omega
  have h0 := h.cell 1 (.int .i64 m.d) rfl
  have h10 := h.cell 10 (.int .i64 m.st) rfl
  have fr := h.free
  have p0 := ok.d0
  have p1 := ok.d1
  have p2 := ok.d2
  have H := Lib.hid h
  clear h
  by_cases hs : m.st = 0
  · by_cases hf : m.d < 1
    · have hm : MS.enter m = { m with st := 2 } := by simp [MS.enter, hs, hf]
      rw [hm]; clear hm
      rw [hs] at h10; clear hs
      go_enter Try.func11, Try.ntmps11
      go_wp2
      refine wp_region_still_tail 5 (by kernel_rfl) (by kernel_rfl) ?_
      simp only [List.take_succ_cons, List.take_zero, List.drop_succ_cons, List.drop_zero]
      change wpStill _ _ (World.drew _) _ _ _
      repeat still_step
      refine wpStill_nil ?_
      change wpList _ _ _ _ _ (World.drew _)
      go_wp2
      go_returns
      exact ⟨rfl, ((H.out.set 10 _).alloc _).drew, by (repeat (first | exact Kp.refl _ _ | assumption | refine Kp.drew ?_ | refine Kp.alloc ?_ _ | refine Kp.setCell ?_ ?_ _ | refine Kp.setCell ?_ _ | (left; rfl) | (right; simp; done) | (right; simp; omega) | go_size))⟩
    · have hm : MS.enter m = { m with d := m.d - 1 } := by simp [MS.enter, hs, hf]
      rw [hm]; clear hm
      rw [hs] at h10
      have HS := Lib.hid hs; clear hs
      go_enter Try.func11, Try.ntmps11
      go_wp2
      refine wp_region_still_tail 5 (by kernel_rfl) (by kernel_rfl) ?_
      simp only [List.take_succ_cons, List.take_zero, List.drop_succ_cons, List.drop_zero]
      change wpStill _ _ (World.drew _) _ _ _
      repeat still_step
      refine wpStill_nil ?_
      change wpList _ _ _ _ _ (World.drew _)
      go_wp2
      go_returns
      exact ⟨by rw [show ({ m with d := m.d - 1 } : MS).st = 0 from HS.out]; rfl, ((H.out.set 1 _).alloc _).drew, by (repeat (first | exact Kp.refl _ _ | assumption | refine Kp.drew ?_ | refine Kp.alloc ?_ _ | refine Kp.setCell ?_ ?_ _ | refine Kp.setCell ?_ _ | (left; rfl) | (right; simp; done) | (right; simp; omega) | go_size))⟩
  · have hm : MS.enter m = m := by simp [MS.enter, hs]
    rw [hm]; clear hm
    have hs' : (m.st == 0) = false := by simpa using hs
    clear hs
    go_enter Try.func11, Try.ntmps11
    go_wp2
    refine wp_region_still_tail 5 (by kernel_rfl) (by kernel_rfl) ?_
    simp only [List.take_succ_cons, List.take_zero, List.drop_succ_cons, List.drop_zero]
    change wpStill _ _ (World.drew _) _ _ _
    repeat still_step
    refine wpStill_nil ?_
    change wpList _ _ _ _ _ (World.drew _)
    go_wp2
    go_returns
    exact ⟨rfl, (H.out.alloc _).drew, by (repeat (first | exact Kp.refl _ _ | assumption | refine Kp.drew ?_ | refine Kp.alloc ?_ _ | refine Kp.setCell ?_ ?_ _ | refine Kp.setCell ?_ _ | (left; rfl) | (right; simp; done) | (right; simp; omega) | go_size))⟩

set_option maxRecDepth 100000 in
set_option maxHeartbeats 400000 in
theorem used_any (b : Nat) (m : MS) (n : Int) (w : World) (h : MAt w b m) (ok : MOk m)  :
    Calls Try.prog 31 #[.pointer (some ⟨b, 0, none⟩), .int .i64 n] w (Counts b (m.used n) w) := by
  have hmf : ∀ (fn : Fn) (first cap : Array Value) (w : World), (Instr.makeFunc fn first cap).run Try.prog w = .ok (.func fn first cap) w := fun _ _ _ _ => rfl
  have hb := h.lt
  have hb1 : b < w.heap.size + 1 := by omega
  have hb2 : b < w.heap.size + 1 + 1 := by omega
  have h0 := h.cell 7 (.int .i64 m.lc) rfl
  have h10 := h.cell 10 (.int .i64 m.st) rfl
  have fr := h.free
  have p0 := ok.c0
  have p2 := ok.c2
  have H := Lib.hid h
  clear h
  by_cases hs : m.st = 0
  · by_cases hf : m.lc < n
    · have hm : MS.used m n = { m with st := 3 } := by simp [MS.used, hs, hf]
      rw [hm]; clear hm
      rw [hs] at h10; clear hs
      go_enter Try.func31, Try.ntmps31
      go_wp2
      go_returns
      exact ⟨rfl, ((((H.out.set 10 _).alloc _).alloc _).alloc _), by (repeat (first | exact Kp.refl _ _ | assumption | refine Kp.drew ?_ | refine Kp.alloc ?_ _ | refine Kp.setCell ?_ ?_ _ | refine Kp.setCell ?_ _ | (left; rfl) | (right; simp; done) | (right; simp; omega) | go_size))⟩
    · have hm : MS.used m n = m := by simp [MS.used, hs, hf]
      rw [hm]; clear hm
      rw [hs] at h10
      have HS := Lib.hid hs; clear hs
      go_enter Try.func31, Try.ntmps31
      go_wp2
      go_returns
      exact ⟨ret_int HS.out.symm, ((H.out.alloc _).alloc _).alloc _, by (repeat (first | exact Kp.refl _ _ | assumption | refine Kp.drew ?_ | refine Kp.alloc ?_ _ | refine Kp.setCell ?_ ?_ _ | refine Kp.setCell ?_ _ | (left; rfl) | (right; simp; done) | (right; simp; omega) | go_size))⟩
  · have hm : MS.used m n = m := by simp [MS.used, hs]
    rw [hm]; clear hm
    have hs' : (m.st == 0) = false := by simpa using hs
    clear hs
    go_enter Try.func31, Try.ntmps31
    go_wp2
    go_returns
    exact ⟨rfl, ((H.out.alloc _).alloc _).alloc _, by (repeat (first | exact Kp.refl _ _ | assumption | refine Kp.drew ?_ | refine Kp.alloc ?_ _ | refine Kp.setCell ?_ ?_ _ | refine Kp.setCell ?_ _ | (left; rfl) | (right; simp; done) | (right; simp; omega) | go_size))⟩

set_option maxRecDepth 100000 in
theorem stop_any (b : Nat) (m : MS) (w : World) (h : MAt w b m) :
    Calls Try.prog 13 #[.pointer (some ⟨b, 0, none⟩)] w fun e w' => e = .returned (.int .i64 m.st) ∧ w = w' := by
  have hmf : ∀ (fn : Fn) (first cap : Array Value) (w : World), (Instr.makeFunc fn first cap).run Try.prog w = .ok (.func fn first cap) w := fun _ _ _ _ => rfl
  have hb := h.lt
  have hb1 : b < w.heap.size + 1 := by omega
  have hb2 : b < w.heap.size + 1 + 1 := by omega
  have h10 := h.cell 10 (.int .i64 m.st) rfl
  clear h
  go_enter Try.func13, Try.ntmps13
  go_wp2
  go_returns
  exact ⟨rfl, rfl⟩

set_option maxRecDepth 100000 in
theorem deep_any (b : Nat) (m : MS) (w : World) (h : MAt w b m) (ok : MOk m) :
    Calls Try.prog 12 #[.pointer (some ⟨b, 0, none⟩)] w fun e w' => e = .returned (.int .i64 (m.ld - m.d)) ∧ ∃ n, w' = w.drewN n := by
  have hb := h.lt
  have hb1 : b < w.heap.size + 1 := by omega
  have hb2 : b < w.heap.size + 1 + 1 := by omega
  have h1 := h.cell 1 (.int .i64 m.d) rfl
  have h6 := h.cell 6 (.int .i64 m.ld) rfl
  have p0 := ok.d0
  have p1 := ok.d1
  have p2 := ok.d2
  clear h
  go_enter Try.func12, Try.ntmps12
  go_wp2
  go_quiet (fail)
  go_wp2
  go_returns
  exact ⟨rfl, nq, rfl⟩

set_option maxRecDepth 100000 in
theorem leave_any (b : Nat) (m : MS) (n : Int) (w : World) (h : MAt w b m) (ok : MOk m) :
    Calls Try.prog 10 #[.pointer (some ⟨b, 0, none⟩), .int .i64 n] w fun e w' => e = .returned (.tuple #[]) ∧ MAt w' b (m.leave n) ∧ Kp (· = b) w w' := by
  have hb := h.lt
  have hb1 : b < w.heap.size + 1 := by omega
  have hb2 : b < w.heap.size + 1 + 1 := by omega
  have h1 := h.cell 1 (.int .i64 m.d) rfl
  have h6 := h.cell 6 (.int .i64 m.ld) rfl
  have p0 := ok.d0
  have p1 := ok.d1
  have p2 := ok.d2
  have fr := h.free
  have H := Lib.hid h
  clear h
  by_cases hn : 0 < n
  · have hm : MS.leave m n = { m with d := min m.ld (m.d + min n 200) } := by simp [MS.leave, hn]
    rw [hm]; clear hm
    have key : ∀ x : Int, x = min m.ld (m.d + min n 200) → MAt (w.setCell ⟨b, 1, none⟩ (.int .i64 x)).drew b { m with d := min m.ld (m.d + min n 200) } := by
      intro x hx; subst hx; exact H.out.set 1 _
    go_enter Try.func10, Try.ntmps10
    go_wp2
    refine wp_region_still_tail 18 (by kernel_rfl) (by kernel_rfl) ?_
    simp only [List.take_succ_cons, List.take_zero, List.drop_succ_cons, List.drop_zero]
    change wpStill _ _ (World.drew _) _ _ _
    repeat still_step
    refine wpStill_nil ?_
    change wpList _ _ _ _ _ (World.drew _)
    go_wp2
    all_goals go_returns
    all_goals refine ⟨rfl, key _ ?_, by (repeat (first | exact Kp.refl _ _ | assumption | refine Kp.drew ?_ | refine Kp.alloc ?_ _ | refine Kp.setCell ?_ ?_ _ | refine Kp.setCell ?_ _ | (left; rfl) | (right; simp; done) | (right; simp; omega) | go_size))⟩
    all_goals go_arith
  · have hm : MS.leave m n = m := by simp [MS.leave, hn]
    rw [hm]; clear hm
    go_enter Try.func10, Try.ntmps10
    go_wp2
    go_returns
    exact ⟨rfl, H.out, Kp.refl _ _⟩

set_option maxRecDepth 100000 in
theorem steps_any (b : Nat) (m : MS) (w : World) (h : MAt w b m) (ok : MOk m) :
    Calls Try.prog 15 #[.pointer (some ⟨b, 0, none⟩)] w fun e w' => e = .returned (.int .i64 (m.lf - m.f)) ∧ ∃ n, w' = w.drewN n := by
  have hb := h.lt
  have h1 := h.cell 0 (.int .i64 m.f) rfl
  have h6 := h.cell 5 (.int .i64 m.lf) rfl
  have p0 := ok.f0
  have p1 := ok.f1
  have p2 := ok.f2
  clear h
  go_enter Try.func15, Try.ntmps15
  go_wp2
  go_quiet (fail)
  go_wp2
  go_returns
  exact ⟨rfl, nq, rfl⟩

set_option maxRecDepth 100000 in
set_option maxHeartbeats 400000 in
theorem text_any (b : Nat) (m : MS) (n : Int) (w : World) (h : MAt w b m) (ok : MOk m)  :
    Calls Try.prog 32 #[.pointer (some ⟨b, 0, none⟩), .int .i64 n] w (Counts b (m.text n) w) := by
  have hmf : ∀ (fn : Fn) (first cap : Array Value) (w : World), (Instr.makeFunc fn first cap).run Try.prog w = .ok (.func fn first cap) w := fun _ _ _ _ => rfl
  have hb := h.lt
  have hb1 : b < w.heap.size + 1 := by omega
  have hb2 : b < w.heap.size + 1 + 1 := by omega
  have h0 := h.cell 8 (.int .i64 m.ls) rfl
  have h10 := h.cell 10 (.int .i64 m.st) rfl
  have fr := h.free
  have p0 := ok.s0
  have p2 := ok.s2
  have H := Lib.hid h
  clear h
  by_cases hs : m.st = 0
  · by_cases hf : m.ls < n
    · have hm : MS.text m n = { m with st := 4 } := by simp [MS.text, hs, hf]
      rw [hm]; clear hm
      rw [hs] at h10; clear hs
      go_enter Try.func32, Try.ntmps32
      go_wp2
      go_returns
      exact ⟨rfl, ((((H.out.set 10 _).alloc _).alloc _).alloc _), by (repeat (first | exact Kp.refl _ _ | assumption | refine Kp.drew ?_ | refine Kp.alloc ?_ _ | refine Kp.setCell ?_ ?_ _ | refine Kp.setCell ?_ _ | (left; rfl) | (right; simp; done) | (right; simp; omega) | go_size))⟩
    · have hm : MS.text m n = m := by simp [MS.text, hs, hf]
      rw [hm]; clear hm
      rw [hs] at h10
      have HS := Lib.hid hs; clear hs
      go_enter Try.func32, Try.ntmps32
      go_wp2
      go_returns
      exact ⟨ret_int HS.out.symm, ((H.out.alloc _).alloc _).alloc _, by (repeat (first | exact Kp.refl _ _ | assumption | refine Kp.drew ?_ | refine Kp.alloc ?_ _ | refine Kp.setCell ?_ ?_ _ | refine Kp.setCell ?_ _ | (left; rfl) | (right; simp; done) | (right; simp; omega) | go_size))⟩
  · have hm : MS.text m n = m := by simp [MS.text, hs]
    rw [hm]; clear hm
    have hs' : (m.st == 0) = false := by simpa using hs
    clear hs
    go_enter Try.func32, Try.ntmps32
    go_wp2
    go_returns
    exact ⟨rfl, ((H.out.alloc _).alloc _).alloc _, by (repeat (first | exact Kp.refl _ _ | assumption | refine Kp.drew ?_ | refine Kp.alloc ?_ _ | refine Kp.setCell ?_ ?_ _ | refine Kp.setCell ?_ _ | (left; rfl) | (right; simp; done) | (right; simp; omega) | go_size))⟩
end Go.Proofs.Ytmngeljbcnifgaa
