/- The walks of package meter: New, Step, Enter, Used, Text, Stop, Leave, Deep, Steps. -/
import Derived.Test.YtmngeljbcnifgaaMtA
import Derived.BigQuiet
import Derived.Lib.Hide
namespace Go.Proofs.Ytmngeljbcnifgaa
open Go.RowKit

set_option maxRecDepth 100000 in
set_option maxHeartbeats 400000 in
theorem new_ok (f d c s o : Int) (w : World) (h : rightB f d c s o = true) :
    Calls Try.prog 9 #[.agg #[.int .i64 f, .int .i64 d, .int .i64 c, .int .i64 s, .int .i64 o]] w fun e w' =>
      ∃ b, e = .returned (.tuple #[.pointer (some ⟨b, 0, none⟩), .int .i64 0]) ∧ w.heap.size ≤ b ∧ MAt w' b (MS.new f d c s o) ∧ Below w.heap.size w w' := by
  go_enter Try.func9, Try.ntmps9
  go_wp2_with (go_at_call 18; refine (right_any _ _ _ _ _ _).mono ?_; rintro e w1 ⟨rfl, hb⟩; rw [h]; obtain ⟨hc, hf⟩ := bcell hb)
  go_returns
  refine ⟨_, rfl, ?_, Blk.new rfl, ?_⟩
  · have := hb.size; simp at this; omega
  · exact (((Below.refl _ _).alloc (Nat.le_refl _) _).trans (hb.mono (by simp))).alloc (by have := hb.size; simp at this; omega) _

set_option maxRecDepth 100000 in
set_option maxHeartbeats 400000 in
theorem new_no (f d c s o : Int) (w : World) (h : rightB f d c s o = false) :
    Calls Try.prog 9 #[.agg #[.int .i64 f, .int .i64 d, .int .i64 c, .int .i64 s, .int .i64 o]] w fun e w' =>
      e = .returned (.tuple #[.pointer none, .int .i64 1]) ∧ Below w.heap.size w w' := by
  go_enter Try.func9, Try.ntmps9
  go_wp2_with (go_at_call 18; refine (right_any _ _ _ _ _ _).mono ?_; rintro e w1 ⟨rfl, hb⟩; rw [h])
  go_returns
  exact ⟨rfl, ((Below.refl _ _).alloc (Nat.le_refl _) _).trans (hb.mono (by simp))⟩

set_option maxRecDepth 100000 in
theorem step_nil (w : World) : Calls Try.prog 14 #[.pointer none] w fun e w' => e = .returned (.int .i64 0) ∧ Below w.heap.size w w' := by
  have hmf : ∀ (fn : Fn) (first cap : Array Value) (w : World), (Instr.makeFunc fn first cap).run Try.prog w = .ok (.func fn first cap) w := fun _ _ _ _ => rfl
  go_enter Try.func14, Try.ntmps14
  go_wp2
  go_returns
  exact ⟨rfl, by go_grown⟩

/-- What a count answers and leaves. -/
def Counts (b : Nat) (m : MS) (w : World) (e : Ending) (w' : World) : Prop := e = .returned (.int .i64 m.st) ∧ MAt w' b m ∧ Kp (· = b) w w'

set_option maxRecDepth 100000 in
set_option maxHeartbeats 400000 in
theorem step_any (b : Nat) (m : MS) (w : World) (h : MAt w b m) (ok : MOk m) :
    Calls Try.prog 14 #[.pointer (some ⟨b, 0, none⟩)] w (Counts b m.step w) := by
  have hmf : ∀ (fn : Fn) (first cap : Array Value) (w : World), (Instr.makeFunc fn first cap).run Try.prog w = .ok (.func fn first cap) w := fun _ _ _ _ => rfl
  have hb := h.lt
  have h0 := h.cell 0 (.int .i64 m.f) rfl
  have h10 := h.cell 10 (.int .i64 m.st) rfl
  have fr := h.free
  have p0 := ok.f0
  have p1 := ok.f1
  have p2 := ok.f2
  have H := Lib.hid h
  clear h
  by_cases hs : m.st = 0
  · by_cases hf : m.f < 1
    · have hm : MS.step m = { m with st := 1 } := by simp [MS.step, hs, hf]
      rw [hm]; clear hm
      rw [hs] at h10; clear hs
      go_enter Try.func14, Try.ntmps14
      go_wp2
      refine wp_region_still_tail 5 (by kernel_rfl) (by kernel_rfl) ?_
      simp only [List.take_succ_cons, List.take_zero, List.drop_succ_cons, List.drop_zero]
      change wpStill _ _ (World.drew _) _ _ _
      repeat still_step
      refine wpStill_nil ?_
      change wpList _ _ _ _ _ (World.drew _)
      go_wp2
      go_returns
      exact ⟨rfl, ((H.out.set 10 _).alloc _).drew, by (repeat (first | exact Kp.refl _ _ | assumption | refine Kp.drew ?_ | refine Kp.alloc ?_ _ | refine Kp.setCell ?_ ?_ _ | refine Kp.setCell ?_ _ | (left; rfl) | (right; simp; done) | (right; simp; omega) | go_size))⟩
    · have hm : MS.step m = { m with f := m.f - 1 } := by simp [MS.step, hs, hf]
      rw [hm]; clear hm
      rw [hs] at h10
      have HS := Lib.hid hs; clear hs
      go_enter Try.func14, Try.ntmps14
      go_wp2
      refine wp_region_still_tail 5 (by kernel_rfl) (by kernel_rfl) ?_
      simp only [List.take_succ_cons, List.take_zero, List.drop_succ_cons, List.drop_zero]
      change wpStill _ _ (World.drew _) _ _ _
      repeat still_step
      refine wpStill_nil ?_
      change wpList _ _ _ _ _ (World.drew _)
      go_wp2
      go_returns
      exact ⟨by rw [show ({ m with f := m.f - 1 } : MS).st = 0 from HS.out]; rfl, ((H.out.set 0 _).alloc _).drew, by (repeat (first | exact Kp.refl _ _ | assumption | refine Kp.drew ?_ | refine Kp.alloc ?_ _ | refine Kp.setCell ?_ ?_ _ | refine Kp.setCell ?_ _ | (left; rfl) | (right; simp; done) | (right; simp; omega) | go_size))⟩
  · have hm : MS.step m = m := by simp [MS.step, hs]
    rw [hm]; clear hm
    have hs' : (m.st == 0) = false := by simpa using hs
    clear hs
    go_enter Try.func14, Try.ntmps14
    go_wp2
    refine wp_region_still_tail 5 (by kernel_rfl) (by kernel_rfl) ?_
    simp only [List.take_succ_cons, List.take_zero, List.drop_succ_cons, List.drop_zero]
    change wpStill _ _ (World.drew _) _ _ _
    repeat still_step
    refine wpStill_nil ?_
    change wpList _ _ _ _ _ (World.drew _)
    go_wp2
    go_returns
    exact ⟨rfl, (H.out.alloc _).drew, by (repeat (first | exact Kp.refl _ _ | assumption | refine Kp.drew ?_ | refine Kp.alloc ?_ _ | refine Kp.setCell ?_ ?_ _ | refine Kp.setCell ?_ _ | (left; rfl) | (right; simp; done) | (right; simp; omega) | go_size))⟩
end Go.Proofs.Ytmngeljbcnifgaa
