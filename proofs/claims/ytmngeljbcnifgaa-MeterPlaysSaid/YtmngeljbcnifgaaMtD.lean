/- selkielaw19.alive answers true. -/
import Derived.Test.YtmngeljbcnifgaaMtC
namespace Go.Proofs.Ytmngeljbcnifgaa
open Go.RowKit

set_option maxRecDepth 100000 in
theorem wide_any (w : World) : Calls Try.prog 8 #[] w fun e w' => e = .returned (.agg #[.int .i64 1000000, .int .i64 200, .int .i64 100000, .int .i64 65536, .int .i64 1000000]) ∧ w' = w.alloc (.cells #[.int .i64 1000000, .int .i64 200, .int .i64 100000, .int .i64 65536, .int .i64 1000000] 25) := by
  go_enter Try.func8, Try.ntmps8
  go_wp2
  go_returns
  exact ⟨rfl, rfl⟩

theorem ok_new {f d c s o : Int} (h : rightB f d c s o = true) : MOk (MS.new f d c s o) := by
  unfold rightB at h
  have := of_decide_eq_true h
  constructor <;> simp [MS.new] <;> omega
theorem ok_step {m : MS} (h : MOk m) : MOk m.step := by
  have := h.f0; have := h.f1; have := h.f2; have := h.d0; have := h.d1; have := h.d2; have := h.c0; have := h.c2; have := h.s0; have := h.s2; have := h.o0; have := h.o1; have := h.o2; have := h.l1
  unfold MS.step
  split
  · split
    · constructor <;> simp <;> omega
    · constructor <;> simp <;> omega
  · exact h
theorem ok_enter {m : MS} (h : MOk m) : MOk m.enter := by
  have := h.f0; have := h.f1; have := h.f2; have := h.d0; have := h.d1; have := h.d2; have := h.c0; have := h.c2; have := h.s0; have := h.s2; have := h.o0; have := h.o1; have := h.o2; have := h.l1
  unfold MS.enter
  split
  · split
    · constructor <;> simp <;> omega
    · constructor <;> simp <;> omega
  · exact h
theorem ok_used {m : MS} (n : Int) (h : MOk m) : MOk (m.used n) := by
  have := h.f0; have := h.f1; have := h.f2; have := h.d0; have := h.d1; have := h.d2; have := h.c0; have := h.c2; have := h.s0; have := h.s2; have := h.o0; have := h.o1; have := h.o2; have := h.l1
  unfold MS.used
  split
  · split
    · constructor <;> simp <;> omega
    · exact h
  · exact h
theorem ok_text {m : MS} (n : Int) (h : MOk m) : MOk (m.text n) := by
  have := h.f0; have := h.f1; have := h.f2; have := h.d0; have := h.d1; have := h.d2; have := h.c0; have := h.c2; have := h.s0; have := h.s2; have := h.o0; have := h.o1; have := h.o2; have := h.l1
  unfold MS.text
  split
  · split
    · constructor <;> simp <;> omega
    · exact h
  · exact h
theorem ok_leave {m : MS} (n : Int) (h : MOk m) : MOk (m.leave n) := by
  have := h.f0; have := h.f1; have := h.f2; have := h.d0; have := h.d1; have := h.d2; have := h.c0; have := h.c2; have := h.s0; have := h.s2; have := h.o0; have := h.o1; have := h.o2; have := h.l1
  unfold MS.leave
  split
  · constructor <;> simp <;> omega
  · exact h

def L0 : MS := MS.new 2 200 100000 65536 1000000
def L1 : MS := L0.step
def L2 : MS := L1.step
def L3 : MS := L2.step
def L4 : MS := L3.enter
theorem ok_L0 : MOk L0 := ok_new rfl
theorem ok_L1 : MOk L1 := ok_step ok_L0
theorem ok_L2 : MOk L2 := ok_step ok_L1
theorem ok_L3 : MOk L3 := ok_step ok_L2
theorem ok_L4 : MOk L4 := ok_enter ok_L3
def lv : Array Value := #[.int .i64 2, .int .i64 200, .int .i64 100000, .int .i64 65536, .int .i64 1000000]

set_option maxRecDepth 100000 in
set_option maxHeartbeats 1000000 in
theorem alive_any (w : World) : Calls Try.prog 7 #[] w fun e w' => e = .returned (.bool true) ∧ Below w.heap.size w w' := by
  go_enter Try.func7, Try.ntmps7
  go_wp2_with fail
  refine (wide_any _).mono ?_
  rintro e w1 ⟨rfl, rfl⟩
  go_wp2_with fail
  refine (new_ok 2 200 100000 65536 1000000 _ rfl).mono ?_
  rintro e w1 ⟨b, rfl, hb, hm, hk⟩
  have hl : Blk w1 (w.heap.size + 1) 25 lv := (Blk.new (by simp)).below hk (by simp)
  simp only [World.size_alloc] at hb
  have nb : ¬ w.heap.size + 1 = b := by omega
  have kk : Kp (fun k => w.heap.size ≤ k) w w1 := ((Kp.refl _ _).alloc _).alloc _ |>.trans' (Kp.of_below hk (S := fun _ => False)) (fun _ _ h => h.elim)
  clear hk
  go_wp2_with fail
  refine (step_any b L0 _ hm ok_L0).mono ?_
  rintro e w2 ⟨he, hm2, k2⟩
  obtain rfl : e = .returned (.int .i64 0) := he
  have hl2 := hl.kp k2 nb
  have kk2 := kk.trans' k2 (fun i _ h => by subst h; omega)
  clear hm hl k2 kk
  go_wp2_with fail
  refine (step_any b L1 _ hm2 ok_L1).mono ?_
  rintro e w3 ⟨he, hm3, k3⟩
  obtain rfl : e = .returned (.int .i64 0) := he
  have hl3 := hl2.kp k3 nb
  have kk3 := kk2.trans' k3 (fun i _ h => by subst h; omega)
  clear hm2 hl2 k3 kk2
  go_wp2_with fail
  refine (step_any b L2 _ hm3 ok_L2).mono ?_
  rintro e w4 ⟨he, hm4, k4⟩
  obtain rfl : e = .returned (.int .i64 1) := he
  have hl4 := hl3.kp k4 nb
  have kk4 := kk3.trans' k4 (fun i _ h => by subst h; omega)
  clear hm3 hl3 k4 kk3
  go_wp2_with fail
  refine (enter_any b L3 _ hm4 ok_L3).mono ?_
  rintro e w5 ⟨he, hm5, k5⟩
  obtain rfl : e = .returned (.int .i64 1) := he
  have hl5 := hl4.kp k5 nb
  have kk5 := kk4.trans' k5 (fun i _ h => by subst h; omega)
  clear hm4 hl4 k5 kk4
  go_wp2_with fail
  refine (steps_any b L4 _ hm5 ok_L4).mono ?_
  rintro e w6 ⟨he, n, rfl⟩
  obtain rfl : e = .returned (.int .i64 2) := he
  have kk6 := kk5.drewN n
  have hl6 := hl5.drewN n
  clear hl5 kk5 hm5
  generalize w5.drewN n = w6 at *
  go_wp2_with fail
  refine (step_nil _).mono ?_
  rintro e w7 ⟨rfl, hk⟩
  have hl7 := hl6.below hk hl6.lt
  have kk7 := kk6.trans' (Kp.of_below hk (S := fun _ => False)) (fun _ _ h => h.elim)
  clear hk hl6 kk6
  have c0 := hl7.cell 0 (.int .i64 2) rfl
  have c1 := hl7.cell 1 (.int .i64 200) rfl
  have c2 := hl7.cell 2 (.int .i64 100000) rfl
  have c3 := hl7.cell 3 (.int .i64 65536) rfl
  have c4 := hl7.cell 4 (.int .i64 1000000) rfl
  go_wp2_with fail
  refine (right_any _ _ _ _ _ _).mono ?_
  rintro e w8 ⟨he, hk⟩
  obtain rfl : e = .returned (.bool true) := he
  have kk8 := kk7.trans' (Kp.of_below hk (S := fun _ => False)) (fun _ _ h => h.elim)
  clear hk kk7 c0 c1 c2 c3 c4 hl7
  go_wp2_with fail
  refine (right_any _ _ _ _ _ _).mono ?_
  rintro e w9 ⟨he, hk⟩
  obtain rfl : e = .returned (.bool false) := he
  have kk9 := kk8.trans' (Kp.of_below hk (S := fun _ => False)) (fun _ _ h => h.elim)
  clear hk kk8
  go_wp2
  go_returns
  exact ⟨rfl, kk9.below (Nat.le_refl _) (fun _ _ => by omega)⟩
end Go.Proofs.Ytmngeljbcnifgaa
