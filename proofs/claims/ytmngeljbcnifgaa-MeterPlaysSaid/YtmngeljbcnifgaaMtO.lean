/- selkielaw19.MeterPlays: no steps; limits that may not be. -/
import Derived.Test.YtmngeljbcnifgaaMtN
import Derived.Test.YtmngeljbcnifgaaOp
namespace Go.Proofs.Ytmngeljbcnifgaa
set_option linter.unusedSimpArgs false
set_option linter.unusedVariables false
open Go.RowKit

set_option maxRecDepth 100000 in
set_option maxHeartbeats 1000000 in
theorem plays_none (l : Lims) (sa : Option Addr) (len cap : Nat) (w : World) (hlen : len ≤ 0) (hr : l.right = true) :
    Calls Try.prog 4 #[l.val, .slice sa len cap] w fun e w' => e = .returned (.bool true) ∧ Below w.heap.size w w' := by
  obtain rfl : len = 0 := by omega
  unfold Lims.val
  go_enter Try.func4, Try.ntmps4
  go_wp2_with fail
  refine (alive_any _).mono ?_
  rintro e w1 ⟨rfl, hk⟩
  have hl1 : Blk w1 w.heap.size 34 l.cells := (Blk.new rfl).below hk (by simp)
  have k1 : Kp (fun i => w.heap.size ≤ i) w w1 := ((Kp.refl _ w).alloc _).trans (Kp.of_below hk)
  clear hk
  go_wp2_with fail
  refine (great_nil sa 0 cap _ (Nat.le_refl _)).mono ?_
  rintro e w2 ⟨g, rfl, hk⟩
  have hl2 := hl1.below hk hl1.lt
  have k2 := k1.trans (Kp.of_below hk)
  clear hk hl1 k1
  have hs2 := k2.size
  cases g with
  | true =>
    go_wp2
    go_returns
    exact ⟨rfl, k2.below (Nat.le_refl _) (fun _ _ => by omega)⟩
  | false =>
    have c0 := hl2.cell 0 (.int .i64 l.f) rfl
    have c1 := hl2.cell 1 (.int .i64 l.d) rfl
    have c2 := hl2.cell 2 (.int .i64 l.c) rfl
    have c3 := hl2.cell 3 (.int .i64 l.s) rfl
    have c4 := hl2.cell 4 (.int .i64 l.o) rfl
    go_wp2_with fail
    refine (new_ok l.f l.d l.c l.s l.o _ hr).mono ?_
    rintro e w3 ⟨b, rfl, hb, hm, hk⟩
    have hl3 := hl2.below hk hl2.lt
    have k3 := k2.trans (Kp.of_below hk)
    have hbw : w.heap.size ≤ b := by omega
    clear c0 c1 c2 c3 c4 hk hl2 k2 hb hs2
    have c0 := hl3.cell 0 (.int .i64 l.f) rfl
    have c1 := hl3.cell 1 (.int .i64 l.d) rfl
    have c2 := hl3.cell 2 (.int .i64 l.c) rfl
    have c3 := hl3.cell 3 (.int .i64 l.s) rfl
    have c4 := hl3.cell 4 (.int .i64 l.o) rfl
    go_wp2_with fail
    refine (rnew_ok l.f l.d l.c l.s l.o _ hr).mono ?_
    rintro e w4 ⟨bx, rfl, hbx, hx, hk⟩
    have hl4 := hl3.below hk hl3.lt
    have hm4 : Mtr w4 b l.new [] := mtr_new (Blk.below hm hk (Blk.lt hm)) hr
    have nbx : ¬ b = bx := by have := Blk.lt hm; omega
    have hbw2 : w.heap.size ≤ bx := by have := k3.size; omega
    have k4 := k3.trans (Kp.of_below hk)
    have hI : InPlays w b bx w4 l.new (.slice none 0 0) [] := ⟨hm4, hx, World.ownsRow_nil _ _ _ _, (fun g hg => by cases hg), (fun g hg => by cases hg), (fun g hg => by cases hg), k4⟩
    clear c0 c1 c2 c3 c4 hk hl3 k3 hbx hx hm4 hm k4
    have hlw := hl4.lt
    go_wp2_with fail
    refine wp_region_K (S := fun w' => Blk w' w.heap.size 34 l.cells) (K := 10) (by kernel_rfl) ?_
    have hHeld : (fun w' => Blk w' w.heap.size 34 l.cells) (World.drew _) := hl4
    refine wpK_take (i := 0) (v := ?_) rfl (by kernel_rfl) (fun _ _ _ h => h) (Or.inl ⟨by kernel_rfl, ?_⟩) hHeld ?_
    rotate_left
    · intro w hSw; (try dsimp only at hSw); have q0 := hSw.cell 0 (.int .i64 l.f) rfl; have q1 := hSw.cell 1 (.int .i64 l.d) rfl; have q2 := hSw.cell 2 (.int .i64 l.c) rfl; have q3 := hSw.cell 3 (.int .i64 l.s) rfl; have q4 := hSw.cell 4 (.int .i64 l.o) rfl; go_simp; (try with_reducible rfl)
    simp only [Act.put, List.setIfInBounds_toArray, List.set_cons_zero, List.set_cons_succ]
    refine wpK_take (i := 1) (v := ?_) rfl (by kernel_rfl) (fun _ _ _ h => h) (Or.inl ⟨by kernel_rfl, ?_⟩) hHeld ?_
    rotate_left
    · intro w hSw; (try dsimp only at hSw); have q0 := hSw.cell 0 (.int .i64 l.f) rfl; have q1 := hSw.cell 1 (.int .i64 l.d) rfl; have q2 := hSw.cell 2 (.int .i64 l.c) rfl; have q3 := hSw.cell 3 (.int .i64 l.s) rfl; have q4 := hSw.cell 4 (.int .i64 l.o) rfl; go_simp; (try with_reducible rfl)
    simp only [Act.put, List.setIfInBounds_toArray, List.set_cons_zero, List.set_cons_succ]
    refine wpK_take (i := 2) (v := ?_) rfl (by kernel_rfl) (fun _ _ _ h => h) (Or.inl ⟨by kernel_rfl, ?_⟩) hHeld ?_
    rotate_left
    · intro w hSw; (try dsimp only at hSw); have q0 := hSw.cell 0 (.int .i64 l.f) rfl; have q1 := hSw.cell 1 (.int .i64 l.d) rfl; have q2 := hSw.cell 2 (.int .i64 l.c) rfl; have q3 := hSw.cell 3 (.int .i64 l.s) rfl; have q4 := hSw.cell 4 (.int .i64 l.o) rfl; go_simp; (try with_reducible rfl)
    simp only [Act.put, List.setIfInBounds_toArray, List.set_cons_zero, List.set_cons_succ]
    refine wpK_take (i := 3) (v := ?_) rfl (by kernel_rfl) (fun _ _ _ h => h) (Or.inl ⟨by kernel_rfl, ?_⟩) hHeld ?_
    rotate_left
    · intro w hSw; (try dsimp only at hSw); have q0 := hSw.cell 0 (.int .i64 l.f) rfl; have q1 := hSw.cell 1 (.int .i64 l.d) rfl; have q2 := hSw.cell 2 (.int .i64 l.c) rfl; have q3 := hSw.cell 3 (.int .i64 l.s) rfl; have q4 := hSw.cell 4 (.int .i64 l.o) rfl; go_simp; (try with_reducible rfl)
    simp only [Act.put, List.setIfInBounds_toArray, List.set_cons_zero, List.set_cons_succ]
    refine wpK_take (i := 4) (v := ?_) rfl (by kernel_rfl) (fun _ _ _ h => h) (Or.inl ⟨by kernel_rfl, ?_⟩) hHeld ?_
    rotate_left
    · intro w hSw; (try dsimp only at hSw); have q0 := hSw.cell 0 (.int .i64 l.f) rfl; have q1 := hSw.cell 1 (.int .i64 l.d) rfl; have q2 := hSw.cell 2 (.int .i64 l.c) rfl; have q3 := hSw.cell 3 (.int .i64 l.s) rfl; have q4 := hSw.cell 4 (.int .i64 l.o) rfl; go_simp; (try with_reducible rfl)
    simp only [Act.put, List.setIfInBounds_toArray, List.set_cons_zero, List.set_cons_succ]
    refine wpK_take (i := 6) (v := ?_) rfl (by kernel_rfl) (fun _ _ _ h => h) (Or.inl ⟨by kernel_rfl, ?_⟩) hHeld ?_
    rotate_left
    · intro w hSw; (try dsimp only at hSw); have q0 := hSw.cell 0 (.int .i64 l.f) rfl; have q1 := hSw.cell 1 (.int .i64 l.d) rfl; have q2 := hSw.cell 2 (.int .i64 l.c) rfl; have q3 := hSw.cell 3 (.int .i64 l.s) rfl; have q4 := hSw.cell 4 (.int .i64 l.o) rfl; go_simp; (try with_reducible rfl)
    simp only [Act.put, List.setIfInBounds_toArray, List.set_cons_zero, List.set_cons_succ]
    refine wpK_one (i := 5) (by kernel_rfl) rfl (fun K' hK => ?_)
    go_simp
    go_wp2_with (go_at_call 18; refine (right_any _ _ _ _ _ _).mono ?_; rintro e w5 ⟨rfl, hk5⟩)
    refine hK.out _ _ (fun _ => Blk.below hHeld hk5 (Blk.lt hHeld)) (fun hHeld' => ?_)
    have hHeld := hHeld' (by decide)
    clear hHeld' hK K'
    refine wpK_one (i := 7) (by kernel_rfl) rfl (fun K' hK => ?_)
    go_simp
    go_wp2_with (go_at_call 19; refine (rright_any _ _ _ _ _ _).mono ?_; rintro e w6 ⟨rfl, rfl⟩)
    refine hK.out _ _ (fun _ => Blk.alloc hHeld _) (fun hHeld' => ?_)
    have hHeld := hHeld' (by decide)
    clear hHeld' hK K'
    refine wpK_take (i := 8) (v := ?_) rfl (by kernel_rfl) (fun _ _ _ h => h) (Or.inl ⟨by kernel_rfl, ?_⟩) hHeld ?_
    rotate_left
    · intro w hSw; (try dsimp only at hSw); have q0 := hSw.cell 0 (.int .i64 l.f) rfl; have q1 := hSw.cell 1 (.int .i64 l.d) rfl; have q2 := hSw.cell 2 (.int .i64 l.c) rfl; have q3 := hSw.cell 3 (.int .i64 l.s) rfl; have q4 := hSw.cell 4 (.int .i64 l.o) rfl; go_simp; (try with_reducible rfl)
    simp only [Act.put, List.setIfInBounds_toArray, List.set_cons_zero, List.set_cons_succ]
    refine wpK_take (i := 9) (v := ?_) rfl (by kernel_rfl) (fun _ _ _ h => h) (Or.inl ⟨by kernel_rfl, ?_⟩) hHeld ?_
    rotate_left
    · intro w hSw; (try dsimp only at hSw); have q0 := hSw.cell 0 (.int .i64 l.f) rfl; have q1 := hSw.cell 1 (.int .i64 l.d) rfl; have q2 := hSw.cell 2 (.int .i64 l.c) rfl; have q3 := hSw.cell 3 (.int .i64 l.s) rfl; have q4 := hSw.cell 4 (.int .i64 l.o) rfl; go_simp; (try with_reducible rfl)
    simp only [Act.put, List.setIfInBounds_toArray, List.set_cons_zero, List.set_cons_succ]
    refine wpK_done (by kernel_rfl) ?_ _
    have kq : Kp (fun _ => False) w4 (w5.alloc (.cells #[.int .i64 l.f, .int .i64 l.d, .int .i64 l.c, .int .i64 l.s, .int .i64 l.o] 40)) := ((Kp.refl _ _).drew.trans (Kp.of_below hk5)).alloc _
    have hI : InPlays w b bx (w5.alloc (.cells #[.int .i64 l.f, .int .i64 l.d, .int .i64 l.c, .int .i64 l.s, .int .i64 l.o] 40)) l.new (.slice none 0 0) [] := ⟨hI.hm.kp kq (fun h => h) (fun _ _ h => h), Blk.kp hI.hx kq (fun h => h), hI.hl.kp kq (fun _ _ h => h), hI.gm, hI.gv, hI.ap, hI.k.trans' kq (fun _ _ h => h.elim)⟩
    clear kq hk5 hHeld hl4 hlw
    generalize w5.alloc (.cells #[.int .i64 l.f, .int .i64 l.d, .int .i64 l.c, .int .i64 l.s, .int .i64 l.o] 40) = w6 at *
    go_wp2_with fail
    refine wp_loop_rounds 1 ?_
    rw [rounds_succ]
    go_wp2
    go_returns
    exact ⟨rfl, hI.k.below (Nat.le_refl _) (fun _ _ => by omega)⟩

set_option maxRecDepth 100000 in
set_option maxHeartbeats 1000000 in
theorem plays_wrong (l : Lims) (hr : l.right = false) (sa : Option Addr) (len cap : Nat) (w : World)
    (hg : ∀ w', Kp (fun i => w.heap.size ≤ i) w w' → Calls Try.prog 16 #[.slice sa len cap] w' fun e w'' => ∃ g : Bool, e = .returned (.bool g) ∧ Below w'.heap.size w' w'') :
    Calls Try.prog 4 #[l.val, .slice sa len cap] w fun e w' => e = .returned (.bool true) ∧ Below w.heap.size w w' := by
  have HG := Lib.hid hg; clear hg
  unfold Lims.val
  go_enter Try.func4, Try.ntmps4
  go_wp2_with fail
  refine (alive_any _).mono ?_
  rintro e w1 ⟨rfl, hk⟩
  have hl1 : Blk w1 w.heap.size 34 l.cells := (Blk.new rfl).below hk (by simp)
  have k1 : Kp (fun i => w.heap.size ≤ i) w w1 := ((Kp.refl _ w).alloc _).trans (Kp.of_below hk)
  clear hk
  go_wp2_with fail
  refine (HG.out _ k1).mono ?_
  rintro e w2 ⟨g, rfl, hk⟩
  have hl2 := hl1.below hk hl1.lt
  have k2 := k1.trans (Kp.of_below hk)
  clear hk hl1 k1
  have hs2 := k2.size
  cases g with
  | true =>
    go_wp2
    go_returns
    exact ⟨rfl, k2.below (Nat.le_refl _) (fun _ _ => by omega)⟩
  | false =>
    have c0 := hl2.cell 0 (.int .i64 l.f) rfl
    have c1 := hl2.cell 1 (.int .i64 l.d) rfl
    have c2 := hl2.cell 2 (.int .i64 l.c) rfl
    have c3 := hl2.cell 3 (.int .i64 l.s) rfl
    have c4 := hl2.cell 4 (.int .i64 l.o) rfl
    go_wp2_with fail
    refine (new_no l.f l.d l.c l.s l.o _ hr).mono ?_
    rintro e w3 ⟨rfl, hk⟩
    have hl3 := hl2.below hk hl2.lt
    have k3 := k2.trans (Kp.of_below hk)
    clear c0 c1 c2 c3 c4 hk hl2 k2 hs2
    have c0 := hl3.cell 0 (.int .i64 l.f) rfl
    have c1 := hl3.cell 1 (.int .i64 l.d) rfl
    have c2 := hl3.cell 2 (.int .i64 l.c) rfl
    have c3 := hl3.cell 3 (.int .i64 l.s) rfl
    have c4 := hl3.cell 4 (.int .i64 l.o) rfl
    go_wp2_with fail
    refine (rnew_no l.f l.d l.c l.s l.o _ hr).mono ?_
    rintro e w4 ⟨rfl, hk⟩
    have hl4 := hl3.below hk hl3.lt
    have k4 := k3.trans (Kp.of_below hk)
    clear c0 c1 c2 c3 c4 hk hl3 k3
    have hlw := hl4.lt
    go_wp2_with fail
    refine wp_region_K (S := fun w' => Blk w' w.heap.size 34 l.cells) (K := 10) (by kernel_rfl) ?_
    have hHeld : (fun w' => Blk w' w.heap.size 34 l.cells) (World.drew _) := hl4
    refine wpK_take (i := 0) (v := ?_) rfl (by kernel_rfl) (fun _ _ _ h => h) (Or.inl ⟨by kernel_rfl, ?_⟩) hHeld ?_
    rotate_left
    · intro w hSw; (try dsimp only at hSw); have q0 := hSw.cell 0 (.int .i64 l.f) rfl; have q1 := hSw.cell 1 (.int .i64 l.d) rfl; have q2 := hSw.cell 2 (.int .i64 l.c) rfl; have q3 := hSw.cell 3 (.int .i64 l.s) rfl; have q4 := hSw.cell 4 (.int .i64 l.o) rfl; go_simp; (try with_reducible rfl)
    simp only [Act.put, List.setIfInBounds_toArray, List.set_cons_zero, List.set_cons_succ]
    refine wpK_take (i := 1) (v := ?_) rfl (by kernel_rfl) (fun _ _ _ h => h) (Or.inl ⟨by kernel_rfl, ?_⟩) hHeld ?_
    rotate_left
    · intro w hSw; (try dsimp only at hSw); have q0 := hSw.cell 0 (.int .i64 l.f) rfl; have q1 := hSw.cell 1 (.int .i64 l.d) rfl; have q2 := hSw.cell 2 (.int .i64 l.c) rfl; have q3 := hSw.cell 3 (.int .i64 l.s) rfl; have q4 := hSw.cell 4 (.int .i64 l.o) rfl; go_simp; (try with_reducible rfl)
    simp only [Act.put, List.setIfInBounds_toArray, List.set_cons_zero, List.set_cons_succ]
    refine wpK_take (i := 2) (v := ?_) rfl (by kernel_rfl) (fun _ _ _ h => h) (Or.inl ⟨by kernel_rfl, ?_⟩) hHeld ?_
    rotate_left
    · intro w hSw; (try dsimp only at hSw); have q0 := hSw.cell 0 (.int .i64 l.f) rfl; have q1 := hSw.cell 1 (.int .i64 l.d) rfl; have q2 := hSw.cell 2 (.int .i64 l.c) rfl; have q3 := hSw.cell 3 (.int .i64 l.s) rfl; have q4 := hSw.cell 4 (.int .i64 l.o) rfl; go_simp; (try with_reducible rfl)
    simp only [Act.put, List.setIfInBounds_toArray, List.set_cons_zero, List.set_cons_succ]
    refine wpK_take (i := 3) (v := ?_) rfl (by kernel_rfl) (fun _ _ _ h => h) (Or.inl ⟨by kernel_rfl, ?_⟩) hHeld ?_
    rotate_left
    · intro w hSw; (try dsimp only at hSw); have q0 := hSw.cell 0 (.int .i64 l.f) rfl; have q1 := hSw.cell 1 (.int .i64 l.d) rfl; have q2 := hSw.cell 2 (.int .i64 l.c) rfl; have q3 := hSw.cell 3 (.int .i64 l.s) rfl; have q4 := hSw.cell 4 (.int .i64 l.o) rfl; go_simp; (try with_reducible rfl)
    simp only [Act.put, List.setIfInBounds_toArray, List.set_cons_zero, List.set_cons_succ]
    refine wpK_take (i := 4) (v := ?_) rfl (by kernel_rfl) (fun _ _ _ h => h) (Or.inl ⟨by kernel_rfl, ?_⟩) hHeld ?_
    rotate_left
    · intro w hSw; (try dsimp only at hSw); have q0 := hSw.cell 0 (.int .i64 l.f) rfl; have q1 := hSw.cell 1 (.int .i64 l.d) rfl; have q2 := hSw.cell 2 (.int .i64 l.c) rfl; have q3 := hSw.cell 3 (.int .i64 l.s) rfl; have q4 := hSw.cell 4 (.int .i64 l.o) rfl; go_simp; (try with_reducible rfl)
    simp only [Act.put, List.setIfInBounds_toArray, List.set_cons_zero, List.set_cons_succ]
    refine wpK_take (i := 6) (v := ?_) rfl (by kernel_rfl) (fun _ _ _ h => h) (Or.inl ⟨by kernel_rfl, ?_⟩) hHeld ?_
    rotate_left
    · intro w hSw; (try dsimp only at hSw); have q0 := hSw.cell 0 (.int .i64 l.f) rfl; have q1 := hSw.cell 1 (.int .i64 l.d) rfl; have q2 := hSw.cell 2 (.int .i64 l.c) rfl; have q3 := hSw.cell 3 (.int .i64 l.s) rfl; have q4 := hSw.cell 4 (.int .i64 l.o) rfl; go_simp; (try with_reducible rfl)
    simp only [Act.put, List.setIfInBounds_toArray, List.set_cons_zero, List.set_cons_succ]
    refine wpK_one (i := 5) (by kernel_rfl) rfl (fun K' hK => ?_)
    go_simp
    go_wp2_with (go_at_call 18; refine (right_any _ _ _ _ _ _).mono ?_; rintro e w5 ⟨rfl, hk5⟩)
    refine hK.out _ _ (fun _ => Blk.below hHeld hk5 (Blk.lt hHeld)) (fun hHeld' => ?_)
    have hHeld := hHeld' (by decide)
    clear hHeld' hK K'
    refine wpK_one (i := 7) (by kernel_rfl) rfl (fun K' hK => ?_)
    go_simp
    go_wp2_with (go_at_call 19; refine (rright_any _ _ _ _ _ _).mono ?_; rintro e w6 ⟨rfl, rfl⟩)
    refine hK.out _ _ (fun _ => Blk.alloc hHeld _) (fun hHeld' => ?_)
    have hHeld := hHeld' (by decide)
    clear hHeld' hK K'
    refine wpK_take (i := 8) (v := ?_) rfl (by kernel_rfl) (fun _ _ _ h => h) (Or.inl ⟨by kernel_rfl, ?_⟩) hHeld ?_
    rotate_left
    · intro w hSw; (try dsimp only at hSw); have q0 := hSw.cell 0 (.int .i64 l.f) rfl; have q1 := hSw.cell 1 (.int .i64 l.d) rfl; have q2 := hSw.cell 2 (.int .i64 l.c) rfl; have q3 := hSw.cell 3 (.int .i64 l.s) rfl; have q4 := hSw.cell 4 (.int .i64 l.o) rfl; go_simp; (try with_reducible rfl)
    simp only [Act.put, List.setIfInBounds_toArray, List.set_cons_zero, List.set_cons_succ]
    refine wpK_take (i := 9) (v := ?_) rfl (by kernel_rfl) (fun _ _ _ h => h) (Or.inl ⟨by kernel_rfl, ?_⟩) hHeld ?_
    rotate_left
    · intro w hSw; (try dsimp only at hSw); have q0 := hSw.cell 0 (.int .i64 l.f) rfl; have q1 := hSw.cell 1 (.int .i64 l.d) rfl; have q2 := hSw.cell 2 (.int .i64 l.c) rfl; have q3 := hSw.cell 3 (.int .i64 l.s) rfl; have q4 := hSw.cell 4 (.int .i64 l.o) rfl; go_simp; (try with_reducible rfl)
    simp only [Act.put, List.setIfInBounds_toArray, List.set_cons_zero, List.set_cons_succ]
    refine wpK_done (by kernel_rfl) ?_ _
    have kk := ((k4.drew.trans (Kp.of_below hk5)).alloc (.cells #[.int .i64 l.f, .int .i64 l.d, .int .i64 l.c, .int .i64 l.s, .int .i64 l.o] 40)).below (Nat.le_refl _) (fun _ _ => by omega)
    clear hk5 hHeld hl4
    go_wp2
    go_returns
    exact ⟨rfl, kk⟩
open Go.ChangeShapes Go.WideShapes Go.ChangeAt Go.Deep
section
variable {H : Type} {enc : TypeId × Value → H} {W : World}
theorem open_stes2 {base : Nat} {v : Value} {d : DataW H} {p : List MemPlace} (ok : Value.okWide Try.prog W .any base 35 v) (h : DataW.Trod enc Try.prog W 0 (fun _ => true) true 35 v d p) (hf : Fits Try.prog 35 d) :
    ∃ sa len cap, v = .slice sa len cap ∧ len * 32 ≤ 140737488351232 ∧ (len ≤ 0 ∨ ∃ ob off os, sa = some ⟨ob, off, none⟩ ∧ Stes W ob off len os ∧ NBound len os) := by
  obtain ⟨sa, len, cap, rfl⟩ := okWide_slice Try.underlying35 ok
  have hC : Try.prog.cellsOf 44 = 3 := by kernel_rfl
  have hB : Try.prog.bytesOf 44 = 32 := by kernel_rfl
  obtain ⟨h1, h2, h3⟩ := open_recs (by omega) Try.underlying35 Try.underlying44 (by kernel_rfl) hC (by decide) h hf
  rw [hB] at h2
  refine ⟨sa, len, cap, rfl, by simp only [reachBytes] at h2; omega, ?_⟩
  by_cases hl : 0 < len
  · obtain ⟨ob, off, rfl, hb, hc⟩ := h3 hl
    have key : ∀ i, i < len → ∃ o : Ste, W.cell? ⟨ob, off + i * 3, none⟩ = some (.int .i64 o.k) ∧ W.cell? ⟨ob, off + i * 3 + 1, none⟩ = some (.int .i64 o.n) ∧ W.cell? ⟨ob, off + i * 3 + 2, none⟩ = some (.string o.s) ∧ o.s.size ≤ 140737488351232 ∧ o.n ≤ 9223372036854775807 := by
      intro i hi
      obtain ⟨u0, g0, r0⟩ := hc i hi 0 _ rfl
      obtain ⟨u1, g1, r1⟩ := hc i hi 1 _ rfl
      obtain ⟨u2, g2, r2⟩ := hc i hi 2 _ rfl
      obtain ⟨n0, rfl, _⟩ := r0.int Try.underlying3
      obtain ⟨n1, rfl, hw⟩ := r1.int Try.underlying3
      obtain ⟨s, rfl, hs⟩ := r2.string Try.underlying9
      exact ⟨⟨n0, n1, s⟩, g0, g1, g2, hs, by simp [Lit.wf, IntKind.min, IntKind.max, IntKind.bits, IntKind.signed] at hw; exact hw.2⟩
    refine .inr ⟨ob, off, fun i => if h : i < len then Classical.choose (key i h) else default, rfl, ⟨hb, ?_, ?_, ?_, ?_⟩, ?_⟩
    all_goals
      intro j hj
      simp only [dif_pos hj]
      have := Classical.choose_spec (key j hj)
    · exact this.1
    · exact this.2.1
    · exact this.2.2.1
    · exact this.2.2.2.1
    · exact this.2.2.2.2
  · exact .inl (by omega)
end
end Go.Proofs.Ytmngeljbcnifgaa
