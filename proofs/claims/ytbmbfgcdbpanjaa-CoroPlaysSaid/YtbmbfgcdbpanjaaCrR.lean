/- The document's book of threads: Resume, back, Yield, Finish, Close. -/
import Derived.Test.YtbmbfgcdbpanjaaCrQ
namespace Go.Proofs.Ytbmbfgcdbpanjaa
set_option linter.unusedSimpArgs false
set_option linter.unusedVariables false
open Go.RowKit

set_option maxRecDepth 100000 in
theorem rfield_dead (w : World) : Calls Try.prog 35 #[.string ⟨#[100, 101, 97, 100]⟩] w fun e w' => e = .returned (.string mDead) ∧ Kp (fun _ => False) w w' := by
  go_enter Try.func35, Try.ntmps35
  go_wp2
  go_returns
  exact ⟨rfl, Kp.refl _ _⟩
set_option maxRecDepth 100000 in
theorem rfield_running (w : World) : Calls Try.prog 35 #[.string ⟨#[114, 117, 110, 110, 105, 110, 103]⟩] w fun e w' => e = .returned (.string mRes) ∧ Kp (fun _ => False) w w' := by
  go_enter Try.func35, Try.ntmps35
  go_wp2
  go_returns
  exact ⟨rfl, Kp.refl _ _⟩
set_option maxRecDepth 100000 in
theorem rfield_yield (w : World) : Calls Try.prog 35 #[.string ⟨#[121, 105, 101, 108, 100]⟩] w fun e w' => e = .returned (.string mYield) ∧ Kp (fun _ => False) w w' := by
  go_enter Try.func35, Try.ntmps35
  go_wp2
  go_returns
  exact ⟨rfl, Kp.refl _ _⟩
set_option maxRecDepth 100000 in
theorem rfield_close (w : World) : Calls Try.prog 35 #[.string ⟨#[99, 108, 111, 115, 101]⟩] w fun e w' => e = .returned (.string mClose) ∧ Kp (fun _ => False) w w' := by
  go_enter Try.func35, Try.ntmps35
  go_wp2
  go_returns
  exact ⟨rfl, Kp.refl _ _⟩

theorem ints_set (l : List Int) (i : Nat) (x : Int) : (ints l).set i (.int .i64 x) = ints (l.set i x) := by unfold ints; rw [List.map_set]
set_option maxRecDepth 100000 in
theorem rback_no (c : Nat) (B : Bk) (F : Nat → Prop) (how : Int) (w : World) (h : RBook w c B F) (h1 : B.wait.length = 1) :
    Calls Try.prog 36 #[.pointer (some ⟨c, 0, none⟩), .int .i64 how] w fun e w' => e = .returned (.bool false) ∧ Kp (fun _ => False) w w' := by
  have hr := (run_zero h.ok).2 h1
  have H := Lib.hid h; clear h h1
  go_enter Try.func36, Try.ntmps36
  go_wp2_with fail
  refine (rrunning_book c B F _ H.out).mono ?_
  rw [hr]
  rintro e wa ⟨rfl, hka⟩
  go_wp2
  go_returns
  exact ⟨rfl, hka⟩
set_option maxRecDepth 100000 in
set_option maxHeartbeats 1000000 in
theorem rback_yes (c : Nat) (B : Bk) (F : Nat → Prop) (fin : Bool) (w : World) (h : RBook w c B F) (h1 : ¬ B.wait.length = 1) :
    Calls Try.prog 36 #[.pointer (some ⟨c, 0, none⟩), .int .i64 (if fin then 3 else 0)] w fun e w' => e = .returned (.bool true) ∧ RBook w' c { wait := B.wait.dropLast, ended := if fin then B.ended.set B.run true else B.ended } F ∧ Kp F w w' := by
  have hr : ¬ B.run = 0 := fun e => h1 ((run_zero h.ok).1 e)
  have hcb := codes_back h.ok h1 fin
  have hok : BOk { wait := B.wait.dropLast, ended := if fin then B.ended.set B.run true else B.ended } := by
    cases fin with
    | true => have := ok_finish h.ok; unfold Bk.finish at this; rw [if_neg h1] at this; exact this
    | false => have := ok_back h.ok; unfold Bk.back at this; rw [if_neg h1] at this; exact this
  have hlen : (if fin then B.ended.set B.run true else B.ended).length = B.ended.length := by split <;> simp
  have hrl := run_lt h.ok
  have hpl := h.ok.lt _ (mem_dropLast (drop_split h1 h.ok).2)
  have hsm := h.ok.small
  have HH := Lib.hid h
  have q0 : ((B.run : Int) == 0) = false := by simp; exact hr
  have HCB := Lib.hid hcb; have HOK := Lib.hid hok; have HLEN := Lib.hid hlen
  have H1 := Lib.hid h1
  clear h hcb hok hlen hr h1
  have hpr1 : ¬ B.prev = B.run := run_notin HH.out.ok (drop_split H1.out HH.out.ok).2
  have hpr2 : ¬ B.run = B.prev := fun e => hpr1 e.symm
  generalize hhow : (if fin then (3 : Int) else 0) = how at *
  generalize hE2 : (if fin then B.ended.set B.run true else B.ended) = E2 at *
  clear hhow hE2
  go_enter Try.func36, Try.ntmps36
  go_wp2_with fail
  refine (rrunning_book c B F _ HH.out).mono ?_
  rintro e wa ⟨rfl, hka⟩
  obtain ⟨vl, vb, by', g1, g2, g3, g4, g5, g6, g7, g8, g9⟩ := HH.out.kp hka (fun _ _ _ h => h)
  have hbp := by_prev g5 g6 H1.out
  have hap := row_ne g2 g1 (by decide)
  have hbp' := row_ne g3 g1 (by decide)
  obtain ⟨gl, cl, rfl⟩ := row_some g2 g6.lpos
  obtain ⟨gb, cb, rfl⟩ := row_some g3 g6.lpos
  have d0 := g1.cell 0 (.slice (some ⟨gl, 0, none⟩) B.ended.length cl) rfl
  have d1 := g1.cell 1 (.slice (some ⟨gb, 0, none⟩) B.ended.length cb) rfl
  have d2 := row_cell g3 B.run hrl hbp
  have d3 := row_cell g2 B.run hrl (codes_at hrl)
  have d4 := row_cell g2 B.prev hpl (codes_at hpl)
  have f3 := World.ownsRow.frozenAt g2 B.run
  have f4 := World.ownsRow.frozenAt g2 B.prev
  have lb := g1.lt
  have ll := (g2.lt gl rfl).2
  have lg := (g3.lt gb rfl).2
  have G1 := Lib.hid g1; have G2 := Lib.hid g2; have G3 := Lib.hid g3; have G5 := Lib.hid g5; have KA := Lib.hid hka
  clear g1 g2 g3 g5 g6 hka hbp
  have hne : ¬ gl = c := fun e => hap (by rw [e]; rfl)
  go_wp2_with fail
  refine wp_region_still_tail 17 (by kernel_rfl) (by kernel_rfl) ?_
  simp only [List.take_succ_cons, List.take_zero, List.drop_succ_cons, List.drop_zero]
  change wpStill _ _ (World.drew _) _ _ _
  repeat still_step
  refine wpStill_nil ?_
  change wpList _ _ _ _ _ (World.drew _)
  go_wp2
  go_returns
  refine ⟨rfl, ⟨.slice (some ⟨gl, 0, none⟩) B.ended.length cl, .slice (some ⟨gb, 0, none⟩) B.ended.length cb, by', ?_, ?_, ?_, g4, by_drop G5.out _ HLEN.out, HOK.out, g7, g8, g9⟩, ?_⟩
  · exact Blk.kp G1.out (((Kp.refl (· = gl) wa).drew.setCell (p := ⟨gl, B.run, none⟩) (.inl rfl) _).setCell (p := ⟨gl, B.prev, none⟩) (.inl rfl) _) (fun e => hne e.symm)
  · rw [HCB.out]
    show World.ownsRow _ 0 3 1 (.slice (some ⟨gl, 0, none⟩) B.ended.length cl) E2.length _
    rw [HLEN.out, ← ints_set, ← ints_set]
    exact (World.ownsRow.stored (World.ownsRow.stored G2.out.drew B.run _).1 B.prev _).1
  · show World.ownsRow _ 0 3 1 (.slice (some ⟨gb, 0, none⟩) B.ended.length cb) E2.length _
    rw [HLEN.out]
    exact row_kp G3.out (((Kp.refl (· = gl) wa).drew.setCell (p := ⟨gl, B.run, none⟩) (.inl rfl) _).setCell (p := ⟨gl, B.prev, none⟩) (.inl rfl) _) (fun k hk e => g4 gl rfl (by have e' : k = gl := e; rw [← e']; exact hk))
  · exact ((KA.out.mono (fun _ _ h => h.elim)).drew.setCell (p := ⟨gl, B.run, none⟩) (.inl (g8 gl rfl)) _).setCell (p := ⟨gl, B.prev, none⟩) (.inl (g8 gl rfl)) _
end Go.Proofs.Ytbmbfgcdbpanjaa
