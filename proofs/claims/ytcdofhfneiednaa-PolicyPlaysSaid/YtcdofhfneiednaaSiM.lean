/- The document's site: Learn. -/
import Derived.Test.YtcdofhfneiednaaSiL
namespace Go.Proofs.Ytcdofhfneiednaa
set_option linter.unusedSimpArgs false
set_option linter.unusedVariables false
open Go.RowKit

theorem rsited_same {b : Nat} {s : SS} {v : Value} {w w' : World} (h : RAt w b s v) (hl : REt w v s.l) (k : Kp (fun _ => False) w w') : RSited b s v w (.returned (.tuple #[])) w' :=
  ⟨v, rfl, Blk.kp h k (fun h => h), hl.kp k (fun _ _ h => h), k.mono (fun _ _ h => h.elim), .inl rfl⟩

set_option maxRecDepth 100000 in
set_option maxHeartbeats 400000 in
theorem rlearn_neg (b : Nat) (s : SS) (v : Value) (x : Ent) (w : World) (h : RAt w b s v) (hl : REt w v s.l) (hx : x.sh < 0) :
    Calls Try.prog 40 #[.pointer (some ⟨b, 0, none⟩), .int .i64 x.sh, .int .i64 x.sl, .int .u64 x.ep] w (RSited b s v w) := by
  have hb := h.lt
  have c0 := h.cell 0 (.int .i64 s.ways) rfl
  have c1 := h.cell 1 (.int .i64 s.warm) rfl
  have c2 := h.cell 2 (.int .i64 s.count) rfl
  have c3 := h.cell 3 (.int .i64 s.state) rfl
  have c4 := h.cell 4 (v) rfl
  have c5 := h.cell 5 (.int .i64 s.rw) rfl
  have fr := h.free
  have H := Lib.hid h; clear h
  have HL := Lib.hid hl; clear hl
  go_enter Try.func40, Try.ntmps40
  go_wp2
  go_returns
  exact rsited_same H.out HL.out (Kp.refl _ _)
set_option maxRecDepth 100000 in
set_option maxHeartbeats 400000 in
theorem rlearn_ways (b : Nat) (s : SS) (v : Value) (x : Ent) (w : World) (h : RAt w b s v) (hl : REt w v s.l) (hx : ¬ x.sh < 0) (hw : s.ways = 0) :
    Calls Try.prog 40 #[.pointer (some ⟨b, 0, none⟩), .int .i64 x.sh, .int .i64 x.sl, .int .u64 x.ep] w (RSited b s v w) := by
  have hb := h.lt
  have c0 := h.cell 0 (.int .i64 s.ways) rfl
  have c1 := h.cell 1 (.int .i64 s.warm) rfl
  have c2 := h.cell 2 (.int .i64 s.count) rfl
  have c3 := h.cell 3 (.int .i64 s.state) rfl
  have c4 := h.cell 4 (v) rfl
  have c5 := h.cell 5 (.int .i64 s.rw) rfl
  have fr := h.free
  have H := Lib.hid h; clear h
  have HL := Lib.hid hl; clear hl
  rw [hw] at c0
  clear hw
  go_enter Try.func40, Try.ntmps40
  go_wp2
  go_returns
  exact rsited_same H.out HL.out (Kp.refl _ _)
set_option maxRecDepth 100000 in
set_option maxHeartbeats 400000 in
theorem rlearn_two (b : Nat) (s : SS) (v : Value) (x : Ent) (w : World) (h : RAt w b s v) (hl : REt w v s.l) (hx : ¬ x.sh < 0) (hw : ¬ s.ways = 0) (hs : s.state = 2) :
    Calls Try.prog 40 #[.pointer (some ⟨b, 0, none⟩), .int .i64 x.sh, .int .i64 x.sl, .int .u64 x.ep] w (RSited b s v w) := by
  have hb := h.lt
  have c0 := h.cell 0 (.int .i64 s.ways) rfl
  have c1 := h.cell 1 (.int .i64 s.warm) rfl
  have c2 := h.cell 2 (.int .i64 s.count) rfl
  have c3 := h.cell 3 (.int .i64 s.state) rfl
  have c4 := h.cell 4 (v) rfl
  have c5 := h.cell 5 (.int .i64 s.rw) rfl
  have fr := h.free
  have H := Lib.hid h; clear h
  have HL := Lib.hid hl; clear hl
  have hw2 : (s.ways == 0) = false := by simpa using hw
  rw [hs] at c3
  clear hw hs
  go_enter Try.func40, Try.ntmps40
  go_wp2
  go_returns
  exact rsited_same H.out HL.out (Kp.refl _ _)

set_option maxRecDepth 100000 in
set_option maxHeartbeats 400000 in
theorem rlearn_cold (b : Nat) (s : SS) (v : Value) (x : Ent) (w : World) (h : RAt w b s v) (hl : REt w v s.l) (ok : SOk s) (hx : ¬ x.sh < 0) (hw : ¬ s.ways = 0) (hs : s.state = 0) (hc : s.count + 1 ≤ s.warm) :
    Calls Try.prog 40 #[.pointer (some ⟨b, 0, none⟩), .int .i64 x.sh, .int .i64 x.sl, .int .u64 x.ep] w (RSited b { s with count := s.count + 1 } v w) := by
  have hne := hl.ne h (by decide)
  have hb := h.lt
  have c0 := h.cell 0 (.int .i64 s.ways) rfl
  have c1 := h.cell 1 (.int .i64 s.warm) rfl
  have c2 := h.cell 2 (.int .i64 s.count) rfl
  have c3 := h.cell 3 (.int .i64 s.state) rfl
  have c4 := h.cell 4 (v) rfl
  have c5 := h.cell 5 (.int .i64 s.rw) rfl
  have fr := h.free
  have H := Lib.hid h; clear h
  have HL := Lib.hid hl; clear hl
  have hw2 : (s.ways == 0) = false := by simpa using hw
  obtain ⟨q0, q1⟩ := ok.count
  obtain ⟨q2, q3⟩ := ok.warm
  rw [hs] at c3
  clear hw hs ok
  go_enter Try.func40, Try.ntmps40
  go_wp2
  go_quiet (fail)
  go_wp2
  go_returns
  have k : Kp (· = b) w (((w.setCell ⟨b, 2, none⟩ (.int .i64 (s.count + 1))).alloc (.cells #[.int .i64 x.sh, .int .i64 x.sl, .int .u64 x.ep] 103)).drewN nq) := by (repeat (first | (with_reducible exact Kp.refl _ _) | (with_reducible assumption) | (with_reducible refine Kp.drew ?_) | (with_reducible refine Kp.drewN ?_ _) | (with_reducible refine Kp.alloc ?_ _) | (with_reducible refine Kp.setCell ?_ ?_ _) | (left; rfl) | (left; left; rfl) | (right; simp; done) | (right; simp; omega) | go_size))
  exact ⟨v, rfl, RAt.of (((Blk.set H.out 2 _).alloc _).drewN _) rfl, HL.out.kp k (fun g hg e => hne (e ▸ hg)), k.mono (fun _ _ h => .inl h), .inl rfl⟩

set_option maxRecDepth 100000 in
set_option maxHeartbeats 400000 in
theorem rlearn_first (b : Nat) (s : SS) (v : Value) (x : Ent) (w : World) (h : RAt w b s v) (hl : REt w v s.l) (ok : SOk s) (hx : ¬ x.sh < 0) (hw : ¬ s.ways = 0) (hs : s.state = 0) (hc : ¬ s.count + 1 ≤ s.warm) (hrw : s.rw < 1000000000000) :
    Calls Try.prog 40 #[.pointer (some ⟨b, 0, none⟩), .int .i64 x.sh, .int .i64 x.sl, .int .u64 x.ep] w (RSited b { s with count := s.count + 1, state := 1, l := [x], rw := s.rw + 1 } v w) := by
  have hne := hl.ne h (by decide)
  have hb := h.lt
  have c0 := h.cell 0 (.int .i64 s.ways) rfl
  have c1 := h.cell 1 (.int .i64 s.warm) rfl
  have c2 := h.cell 2 (.int .i64 s.count) rfl
  have c3 := h.cell 3 (.int .i64 s.state) rfl
  have c4 := h.cell 4 (v) rfl
  have c5 := h.cell 5 (.int .i64 s.rw) rfl
  have fr := h.free
  have H := Lib.hid h; clear h
  have HL := Lib.hid hl; clear hl
  have hw2 : (s.ways == 0) = false := by simpa using hw
  obtain ⟨q0, q1⟩ := ok.count
  obtain ⟨q2, q3⟩ := ok.warm
  have hrw0 := ok.rw.1
  rw [hs] at c3
  clear hw hs ok
  go_enter Try.func40, Try.ntmps40
  go_wp2
  go_quiet (fail)
  generalize nq = n1
  go_wp2
  have HX : Blk ((((w.setCell ⟨b, 2, none⟩ (.int .i64 (s.count + 1))).alloc (.cells #[.int .i64 x.sh, .int .i64 x.sl, .int .u64 x.ep] 103)).drewN n1).drew) w.heap.size 103 #[.int .i64 x.sh, .int .i64 x.sl, .int .u64 x.ep] := ((Blk.new (by simp)).drewN _).drew
  have HXX := Lib.hid HX; clear HX
  have nX : w.heap.size ≠ b := by omega
  refine wp_region_K (S := fun w' => Blk w' w.heap.size 103 #[.int .i64 x.sh, .int .i64 x.sl, .int .u64 x.ep]) (K := 11) (by kernel_rfl) ?_
  have hHeld : (fun w' => Blk w' w.heap.size 103 #[.int .i64 x.sh, .int .i64 x.sl, .int .u64 x.ep]) (World.drew _) := HXX.out
  refine wpK_take (i := 0) (v := ?_) rfl (by kernel_rfl) (fun _ _ _ h => h) (Or.inl ⟨by kernel_rfl, ?_⟩) hHeld ?_
  rotate_left
  · intro w hSw; (try dsimp only at hSw); have y0 := Blk.cell hSw 0 (.int .i64 x.sh) rfl; have y1 := Blk.cell hSw 1 (.int .i64 x.sl) rfl; have y2 := Blk.cell hSw 2 (.int .u64 x.ep) rfl; clear hSw; go_simp; (try with_reducible rfl)
  simp only [Act.put, List.setIfInBounds_toArray, List.set_cons_zero, List.set_cons_succ]
  refine wpK_take (i := 1) (v := ?_) rfl (by kernel_rfl) (fun _ _ _ h => h) (Or.inl ⟨by kernel_rfl, ?_⟩) hHeld ?_
  rotate_left
  · intro w hSw; (try dsimp only at hSw); have y0 := Blk.cell hSw 0 (.int .i64 x.sh) rfl; have y1 := Blk.cell hSw 1 (.int .i64 x.sl) rfl; have y2 := Blk.cell hSw 2 (.int .u64 x.ep) rfl; clear hSw; go_simp; (try with_reducible rfl)
  simp only [Act.put, List.setIfInBounds_toArray, List.set_cons_zero, List.set_cons_succ]
  refine wpK_take (i := 2) (v := ?_) rfl (by kernel_rfl) (fun _ _ _ h => h) (Or.inl ⟨by kernel_rfl, ?_⟩) hHeld ?_
  rotate_left
  · intro w hSw; (try dsimp only at hSw); have y0 := Blk.cell hSw 0 (.int .i64 x.sh) rfl; have y1 := Blk.cell hSw 1 (.int .i64 x.sl) rfl; have y2 := Blk.cell hSw 2 (.int .u64 x.ep) rfl; clear hSw; go_simp; (try with_reducible rfl)
  simp only [Act.put, List.setIfInBounds_toArray, List.set_cons_zero, List.set_cons_succ]
  refine wpK_take (i := 4) (v := ?_) rfl (by kernel_rfl) (fun _ _ _ h => h) (Or.inl ⟨by kernel_rfl, ?_⟩) hHeld ?_
  rotate_left
  · intro w hSw; (try dsimp only at hSw); have y0 := Blk.cell hSw 0 (.int .i64 x.sh) rfl; have y1 := Blk.cell hSw 1 (.int .i64 x.sl) rfl; have y2 := Blk.cell hSw 2 (.int .u64 x.ep) rfl; clear hSw; go_simp; (try with_reducible rfl)
  simp only [Act.put, List.setIfInBounds_toArray, List.set_cons_zero, List.set_cons_succ]
  refine wpK_take (i := 5) (v := ?_) rfl (by kernel_rfl) (fun _ _ _ h => h) (Or.inl ⟨by kernel_rfl, ?_⟩) hHeld ?_
  rotate_left
  · intro w hSw; (try dsimp only at hSw); have y0 := Blk.cell hSw 0 (.int .i64 x.sh) rfl; have y1 := Blk.cell hSw 1 (.int .i64 x.sl) rfl; have y2 := Blk.cell hSw 2 (.int .u64 x.ep) rfl; clear hSw; go_simp; (try with_reducible rfl)
  simp only [Act.put, List.setIfInBounds_toArray, List.set_cons_zero, List.set_cons_succ]
  refine wpK_two (i := 3) (j := 6) (by kernel_rfl) rfl rfl (fun K' hK => ?_) (fun K' hK => ?_)
  focus
    go_simp
    refine hK.out _ _ (fun _ => by first | exact Blk.alloc HXX.out _ | exact Blk.alloc (Blk.other HXX.out (by exact nX) _) _) (fun hHeld' => ?_)
    have hHeld := hHeld' (by decide)
    clear hHeld' hK K'
    refine wpK_one (i := 6) (by kernel_rfl) rfl (fun K' hK => ?_)
    go_simp
    refine hK.out _ _ (fun _ => by first | exact Blk.other HXX.out (by exact nX) _ | exact Blk.alloc (Blk.other HXX.out (by exact nX) _) _) (fun hHeld' => ?_)
    have hHeld := hHeld' (by decide)
    clear hHeld' hK K'
    refine wpK_take (i := 7) (v := ?_) rfl (by kernel_rfl) (fun _ _ _ h => h) (Or.inl ⟨by kernel_rfl, ?_⟩) hHeld ?_
    rotate_left
    · intro w hSw; (try dsimp only at hSw); have y0 := Blk.cell hSw 0 (.int .i64 x.sh) rfl; have y1 := Blk.cell hSw 1 (.int .i64 x.sl) rfl; have y2 := Blk.cell hSw 2 (.int .u64 x.ep) rfl; clear hSw; go_simp; (try with_reducible rfl)
    simp only [Act.put, List.setIfInBounds_toArray, List.set_cons_zero, List.set_cons_succ]
    refine wpK_take (i := 8) (v := ?_) rfl (by kernel_rfl) (fun _ _ _ h => h) (Or.inl ⟨by kernel_rfl, ?_⟩) hHeld ?_
    rotate_left
    · intro w hSw; (try dsimp only at hSw); have y0 := Blk.cell hSw 0 (.int .i64 x.sh) rfl; have y1 := Blk.cell hSw 1 (.int .i64 x.sl) rfl; have y2 := Blk.cell hSw 2 (.int .u64 x.ep) rfl; clear hSw; go_simp; (try with_reducible rfl)
    simp only [Act.put, List.setIfInBounds_toArray, List.set_cons_zero, List.set_cons_succ]
    refine wpK_one (i := 9) (by kernel_rfl) rfl (fun K' hK => ?_)
    go_simp
    refine hK.out _ _ (fun _ => by exact Blk.alloc (Blk.other (Blk.other HXX.out (by exact nX) _) (by exact nX) _) _) (fun hHeld' => ?_)
    have hHeld := hHeld' (by decide)
    clear hHeld' hK K'
    refine wpK_done (by kernel_rfl) ?_ _
  rotate_left
  focus
    go_simp
    refine hK.out _ _ (fun _ => by first | exact Blk.other HXX.out (by exact nX) _ | exact Blk.alloc (Blk.other HXX.out (by exact nX) _) _) (fun hHeld' => ?_)
    have hHeld := hHeld' (by decide)
    clear hHeld' hK K'
    refine wpK_one (i := 3) (by kernel_rfl) rfl (fun K' hK => ?_)
    go_simp
    refine hK.out _ _ (fun _ => by first | exact Blk.alloc HXX.out _ | exact Blk.alloc (Blk.other HXX.out (by exact nX) _) _) (fun hHeld' => ?_)
    have hHeld := hHeld' (by decide)
    clear hHeld' hK K'
    refine wpK_take (i := 7) (v := ?_) rfl (by kernel_rfl) (fun _ _ _ h => h) (Or.inl ⟨by kernel_rfl, ?_⟩) hHeld ?_
    rotate_left
    · intro w hSw; (try dsimp only at hSw); have y0 := Blk.cell hSw 0 (.int .i64 x.sh) rfl; have y1 := Blk.cell hSw 1 (.int .i64 x.sl) rfl; have y2 := Blk.cell hSw 2 (.int .u64 x.ep) rfl; clear hSw; go_simp; (try with_reducible rfl)
    simp only [Act.put, List.setIfInBounds_toArray, List.set_cons_zero, List.set_cons_succ]
    refine wpK_take (i := 8) (v := ?_) rfl (by kernel_rfl) (fun _ _ _ h => h) (Or.inl ⟨by kernel_rfl, ?_⟩) hHeld ?_
    rotate_left
    · intro w hSw; (try dsimp only at hSw); have y0 := Blk.cell hSw 0 (.int .i64 x.sh) rfl; have y1 := Blk.cell hSw 1 (.int .i64 x.sl) rfl; have y2 := Blk.cell hSw 2 (.int .u64 x.ep) rfl; clear hSw; go_simp; (try with_reducible rfl)
    simp only [Act.put, List.setIfInBounds_toArray, List.set_cons_zero, List.set_cons_succ]
    refine wpK_one (i := 9) (by kernel_rfl) rfl (fun K' hK => ?_)
    go_simp
    refine hK.out _ _ (fun _ => by exact Blk.alloc (Blk.other (Blk.other HXX.out (by exact nX) _) (by exact nX) _) _) (fun hHeld' => ?_)
    have hHeld := hHeld' (by decide)
    clear hHeld' hK K'
    refine wpK_done (by kernel_rfl) ?_ _
  rotate_left
  all_goals clear hHeld
  all_goals go_wp2
  all_goals go_returns
  all_goals refine ⟨.slice (some ⟨w.heap.size + 1, 0, none⟩) 1 1, rfl, RAt.of (((((((Blk.set H.out 2 _).alloc _).drewN _).set 3 _).set 4 _).set 5 _).alloc _) rfl, ?_, ?_, .inr fun g hg => ?_⟩
  all_goals first
    | exact ⟨rfl, .inr ⟨w.heap.size + 1, 1, #[.int .i64 x.sh, .int .i64 x.sl, .int .u64 x.ep], rfl, Nat.zero_le _, Blk.new (by simp), Nat.le_refl _, by decide, rfl, rfl⟩⟩
    | ((repeat (first | (with_reducible exact Kp.refl _ _) | (with_reducible assumption) | (with_reducible refine Kp.drew ?_) | (with_reducible refine Kp.drewN ?_ _) | (with_reducible refine Kp.alloc ?_ _) | (with_reducible refine Kp.setCell ?_ ?_ _) | (left; rfl) | (left; left; rfl) | (right; simp; done) | (right; simp; omega) | go_size)); done)
    | (simp [Value.ownBlock] at hg; omega)
end Go.Proofs.Ytcdofhfneiednaa
