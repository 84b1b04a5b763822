/- The walk of (*site.Site).Learn. -/
import Derived.Test.YtcdofhfneiednaaSiB
import Derived.Deep.DeepCutAuto
import Derived.Deep.RegionHeld3
namespace Go.Proofs.Ytcdofhfneiednaa
set_option linter.unusedSimpArgs false
set_option linter.unusedVariables false
open Go.RowKit

def SS.put (s : SS) (x : Ent) : SS :=
  let i := s.l.findIdx (fun e => e.sh == x.sh)
  if i < s.l.length then (if s.l[i]? = some x then s else { s with l := s.l.set i x, rw := s.rw + 1 })
  else if (s.l.length : Int) < s.ways then { s with l := s.l ++ [x], rw := s.rw + 1 } else s.deopt
def SS.learn (s : SS) (x : Ent) : SS :=
  if x.sh < 0 ∨ s.ways = 0 then s
  else if s.state = 0 then (if s.count + 1 ≤ s.warm then { s with count := s.count + 1 } else SS.put { s with count := s.count + 1, state := 1 } x)
  else if s.state = 1 then s.put x else s

theorem Try.info92 : (Try.prog.info? 92).map (fun i => (i.zero, i.size, i.bytes)) = some (some (.agg #[.int .i64 0, .int .i64 0, .int .u64 0]), 3, 24) := by kernel_rfl


set_option maxRecDepth 100000 in
set_option maxHeartbeats 400000 in
theorem learn_neg (b : Nat) (s : SS) (v : Value) (x : Ent) (w : World) (h : SAt w b s v) (hl : EAt w v s.l) (hx : x.sh < 0) :
    Calls Try.prog 16 #[.pointer (some ⟨b, 0, none⟩), .int .i64 x.sh, .int .i64 x.sl, .int .u64 x.ep] w (Sited b s v w) := by
  have hb := h.lt
  have c0 := h.cell 0 (.int .i64 s.ways) rfl
  have c1 := h.cell 1 (.int .i64 s.warm) rfl
  have c2 := h.cell 2 (.int .i64 s.count) rfl
  have c3 := h.cell 3 (.int .i64 s.state) rfl
  have c4 := h.cell 4 (v) rfl
  have c5 := h.cell 5 (.int .i64 s.rw) rfl
  have fr := h.free
  have H := Lib.hid h; clear h
  have HL := Lib.hid hl; clear hl
  go_enter Try.func16, Try.ntmps16
  go_wp2
  go_returns
  exact sited_same H.out HL.out (by (repeat (first | (with_reducible exact Kp.refl _ _) | (with_reducible assumption) | (with_reducible refine Kp.drew ?_) | (with_reducible refine Kp.drewN ?_ _) | (with_reducible refine Kp.alloc ?_ _) | (with_reducible refine Kp.setCell ?_ ?_ _) | (left; rfl) | (left; left; rfl) | (right; simp; done) | (right; simp; omega) | go_size)))

set_option maxRecDepth 100000 in
set_option maxHeartbeats 400000 in
theorem learn_ways (b : Nat) (s : SS) (v : Value) (x : Ent) (w : World) (h : SAt w b s v) (hl : EAt w v s.l) (hx : ¬ x.sh < 0) (hw : s.ways = 0) :
    Calls Try.prog 16 #[.pointer (some ⟨b, 0, none⟩), .int .i64 x.sh, .int .i64 x.sl, .int .u64 x.ep] w (Sited b s v w) := by
  have hb := h.lt
  have c0 := h.cell 0 (.int .i64 s.ways) rfl
  have c1 := h.cell 1 (.int .i64 s.warm) rfl
  have c2 := h.cell 2 (.int .i64 s.count) rfl
  have c3 := h.cell 3 (.int .i64 s.state) rfl
  have c4 := h.cell 4 (v) rfl
  have c5 := h.cell 5 (.int .i64 s.rw) rfl
  have fr := h.free
  have H := Lib.hid h; clear h
  have HL := Lib.hid hl; clear hl
  rw [hw] at c0
  clear hw
  go_enter Try.func16, Try.ntmps16
  go_wp2
  go_returns
  exact sited_same H.out HL.out (by (repeat (first | (with_reducible exact Kp.refl _ _) | (with_reducible assumption) | (with_reducible refine Kp.drew ?_) | (with_reducible refine Kp.drewN ?_ _) | (with_reducible refine Kp.alloc ?_ _) | (with_reducible refine Kp.setCell ?_ ?_ _) | (left; rfl) | (left; left; rfl) | (right; simp; done) | (right; simp; omega) | go_size)))

set_option maxRecDepth 100000 in
set_option maxHeartbeats 400000 in
theorem learn_two (b : Nat) (s : SS) (v : Value) (x : Ent) (w : World) (h : SAt w b s v) (hl : EAt w v s.l) (hx : ¬ x.sh < 0) (hw : ¬ s.ways = 0) (hs : s.state = 2) :
    Calls Try.prog 16 #[.pointer (some ⟨b, 0, none⟩), .int .i64 x.sh, .int .i64 x.sl, .int .u64 x.ep] w (Sited b s v w) := by
  have hb := h.lt
  have c0 := h.cell 0 (.int .i64 s.ways) rfl
  have c1 := h.cell 1 (.int .i64 s.warm) rfl
  have c2 := h.cell 2 (.int .i64 s.count) rfl
  have c3 := h.cell 3 (.int .i64 s.state) rfl
  have c4 := h.cell 4 (v) rfl
  have c5 := h.cell 5 (.int .i64 s.rw) rfl
  have fr := h.free
  have H := Lib.hid h; clear h
  have HL := Lib.hid hl; clear hl
  have hw2 : (s.ways == 0) = false := by simpa using hw
  rw [hs] at c3
  clear hw hs
  go_enter Try.func16, Try.ntmps16
  go_wp2
  go_returns
  exact sited_same H.out HL.out (by (repeat (first | (with_reducible exact Kp.refl _ _) | (with_reducible assumption) | (with_reducible refine Kp.drew ?_) | (with_reducible refine Kp.drewN ?_ _) | (with_reducible refine Kp.alloc ?_ _) | (with_reducible refine Kp.setCell ?_ ?_ _) | (left; rfl) | (left; left; rfl) | (right; simp; done) | (right; simp; omega) | go_size)))

set_option maxRecDepth 100000 in
set_option maxHeartbeats 400000 in
theorem learn_cold (b : Nat) (s : SS) (v : Value) (x : Ent) (w : World) (h : SAt w b s v) (hl : EAt w v s.l) (ok : SOk s) (hx : ¬ x.sh < 0) (hw : ¬ s.ways = 0) (hs : s.state = 0) (hc : s.count + 1 ≤ s.warm) :
    Calls Try.prog 16 #[.pointer (some ⟨b, 0, none⟩), .int .i64 x.sh, .int .i64 x.sl, .int .u64 x.ep] w (Sited b { s with count := s.count + 1 } v w) := by
  have hne := hl.ne h (by decide)
  have hb := h.lt
  have c0 := h.cell 0 (.int .i64 s.ways) rfl
  have c1 := h.cell 1 (.int .i64 s.warm) rfl
  have c2 := h.cell 2 (.int .i64 s.count) rfl
  have c3 := h.cell 3 (.int .i64 s.state) rfl
  have c4 := h.cell 4 (v) rfl
  have c5 := h.cell 5 (.int .i64 s.rw) rfl
  have fr := h.free
  have H := Lib.hid h; clear h
  have HL := Lib.hid hl; clear hl
  have hw2 : (s.ways == 0) = false := by simpa using hw
  obtain ⟨q0, q1⟩ := ok.count
  obtain ⟨q2, q3⟩ := ok.warm
  rw [hs] at c3
  clear hw hs ok
  go_enter Try.func16, Try.ntmps16
  go_wp2
  go_quiet (fail)
  go_wp2
  go_returns
  have k : Kp (· = b) w (((w.setCell ⟨b, 2, none⟩ (.int .i64 (s.count + 1))).alloc (.cells #[.int .i64 x.sh, .int .i64 x.sl, .int .u64 x.ep] 92)).drewN nq) := by (repeat (first | (with_reducible exact Kp.refl _ _) | (with_reducible assumption) | (with_reducible refine Kp.drew ?_) | (with_reducible refine Kp.drewN ?_ _) | (with_reducible refine Kp.alloc ?_ _) | (with_reducible refine Kp.setCell ?_ ?_ _) | (left; rfl) | (left; left; rfl) | (right; simp; done) | (right; simp; omega) | go_size))
  exact ⟨v, rfl, SAt.of (((Blk.set H.out 2 _).alloc _).drewN _) rfl, HL.out.kp k (fun g hg e => hne (e ▸ hg)), k.mono (fun _ _ h => .inl h), .inl rfl⟩

set_option maxRecDepth 100000 in
set_option maxHeartbeats 1000000 in
theorem learn_same (b : Nat) (s : SS) (v : Value) (x : Ent) (w : World) (h : SAt w b s v) (hl : EAt w v s.l) (ok : SOk s) (hx : ¬ x.sh < 0) (hw : ¬ s.ways = 0) (hs : s.state = 1) (i : Nat) (hi : i < s.l.length) (hf : fidx s.l x.sh = i) (he : s.l[i] = x) :
    Calls Try.prog 16 #[.pointer (some ⟨b, 0, none⟩), .int .i64 x.sh, .int .i64 x.sl, .int .u64 x.ep] w (Sited b s v w) := by
  have hlen : s.l.length ≤ 8 := by have := ok.len; have := ok.ways; omega
  have hne := hl.ne h (by decide)
  obtain ⟨g, cap, hv⟩ : ∃ g cap, v = .slice (some ⟨g, 0, none⟩) s.l.length cap := ownsRow_some hl (by omega)
  subst hv
  have hb := h.lt
  have c0 := h.cell 0 (.int .i64 s.ways) rfl
  have c1 := h.cell 1 (.int .i64 s.warm) rfl
  have c2 := h.cell 2 (.int .i64 s.count) rfl
  have c3 := h.cell 3 (.int .i64 s.state) rfl
  have c4 := h.cell 4 (.slice (some ⟨g, 0, none⟩) s.l.length cap) rfl
  have c5 := h.cell 5 (.int .i64 s.rw) rfl
  have fr := h.free
  have H := Lib.hid h; clear h
  have HL := Lib.hid hl; clear hl
  have hw2 : (s.ways == 0) = false := by simpa using hw
  rw [hs] at c3
  clear hw hs ok
  go_enter Try.func16, Try.ntmps16
  go_wp2_with fail
  refine (find_any b s _ x.sh _ (Blk.alloc H.out _) (HL.out.kp ((Kp.refl (fun _ => False) _).alloc _) (fun _ _ h => h)) hlen).mono ?_
  rw [hf]
  rintro e w1 ⟨rfl, hk⟩
  have k1 : Kp (fun _ => False) w w1 := ((Kp.refl _ _).alloc _).trans (Kp.of_below hk)
  have h1 : SAt w1 b s _ := Blk.kp H.out k1 (fun h => h)
  have l1 := HL.out.kp k1 (fun _ _ h => h)
  have x1 : Blk w1 w.heap.size 92 #[.int .i64 x.sh, .int .i64 x.sl, .int .u64 x.ep] := (Blk.new rfl).below hk (by simp)
  have d4 := h1.cell 4 (.slice (some ⟨g, 0, none⟩) s.l.length cap) rfl
  obtain ⟨e0, e1, e2⟩ := l1.cell i hi
  rw [he] at e0 e1 e2
  have y0 := x1.cell 0 (.int .i64 x.sh) rfl
  have y1 := x1.cell 1 (.int .i64 x.sl) rfl
  have y2 := x1.cell 2 (.int .u64 x.ep) rfl
  have hi2 : (i : Int) < (s.l.length : Int) := by omega
  have hi3 : (0 : Int) ≤ (i : Int) := by omega
  have hd : decide ((0 : Int) ≤ (i : Int)) = true := by simp
  have H1 := Lib.hid h1; clear h1
  have L1 := Lib.hid l1; clear l1
  clear c0 c1 c2 c3 c4 c5 fr H HL x1 he hk
  go_wp2
  go_quiet (fail)
  go_wp2
  go_returns
  exact ⟨_, rfl, Blk.drewN H1.out _, L1.out.kp ((Kp.refl (fun _ => False) _).drewN _) (fun _ _ h => h), (k1.drewN _).mono (fun _ _ h => h.elim), .inl rfl⟩

theorem flat_set (l : List Ent) (i : Nat) (x : Ent) (hi : i < l.length) : (((l.flatMap Ent.cells).set (i * 3) (.int .i64 x.sh)).set (i * 3 + 1) (.int .i64 x.sl)).set (i * 3 + 2) (.int .u64 x.ep) = (l.set i x).flatMap Ent.cells := by
  induction l generalizing i with
  | nil => simp at hi
  | cons a r ih =>
    cases i with
    | zero => simp [List.flatMap_cons, Ent.cells]
    | succ i =>
      have := ih i (by simpa using hi)
      simp only [List.flatMap_cons, List.set_cons_succ]
      rw [← this]
      have hl : (Ent.cells a).length = 3 := rfl
      rw [List.set_append_right _ _ (by omega), List.set_append_right _ _ (by omega), List.set_append_right _ _ (by omega), hl, show (i + 1) * 3 - 3 = i * 3 by omega, show (i + 1) * 3 + 1 - 3 = i * 3 + 1 by omega, show (i + 1) * 3 + 2 - 3 = i * 3 + 2 by omega]

/-- Draws on top change nothing. -/
theorem sited_kq {b : Nat} {s : SS} {v : Value} {w w1 w2 : World} (h : Sited b s v w (.returned (.tuple #[])) w1) (k : Kp (fun _ => False) w1 w2) : Sited b s v w (.returned (.tuple #[])) w2 := by
  obtain ⟨v', _, h1, h2, h3, h4⟩ := h
  exact ⟨v', rfl, Blk.kp h1 k (fun h => h), h2.kp k (fun _ _ h => h), h3.trans' k (fun _ _ h => h.elim), h4⟩
theorem set_chain {b g cap i : Nat} {s : SS} {x : Ent} {w w1 : World} (h : SAt w1 b s (.slice (some ⟨g, 0, none⟩) s.l.length cap)) (hl : EAt w1 (.slice (some ⟨g, 0, none⟩) s.l.length cap) s.l) (hi : i < s.l.length) (hgb : ¬ g = b) (k : Kp (fun _ => False) w w1) :
    Sited b { s with l := s.l.set i x, rw := s.rw + 1 } (.slice (some ⟨g, 0, none⟩) s.l.length cap) w (.returned (.tuple #[])) ((((w1.setCell ⟨g, i * 3, none⟩ (.int .i64 x.sh)).setCell ⟨g, i * 3 + 1, none⟩ (.int .i64 x.sl)).setCell ⟨g, i * 3 + 2, none⟩ (.int .u64 x.ep)).setCell ⟨b, 5, none⟩ (.int .i64 (s.rw + 1))) := by
  refine ⟨_, rfl, SAt.of ((((Blk.other h (by exact fun e => hgb e.symm) _).other (by exact fun e => hgb e.symm) _).other (by exact fun e => hgb e.symm) _).set 5 _) rfl, ?_, ?_, .inl rfl⟩
  · have h1 := (World.ownsRow.stored hl (i * 3) (.int .i64 x.sh)).1
    have h2 := (h1.stored (i * 3 + 1) (.int .i64 x.sl)).1
    have h3 := (h2.stored (i * 3 + 2) (.int .u64 x.ep)).1
    rw [flat_set _ _ _ hi] at h3
    have h4 : EAt (((w1.setCell ⟨g, i * 3, none⟩ (.int .i64 x.sh)).setCell ⟨g, i * 3 + 1, none⟩ (.int .i64 x.sl)).setCell ⟨g, i * 3 + 2, none⟩ (.int .u64 x.ep)) (.slice (some ⟨g, 0, none⟩) s.l.length cap) (s.l.set i x) := by
      unfold EAt; rw [List.length_set]; exact h3
    exact h4.kp (Kp.setCell (S := (· = b)) (p := ⟨b, 5, none⟩) (Kp.refl _ _) (.inl rfl) _) (fun g' hg' e => hgb (by simp [Value.ownBlock] at hg'; rw [hg', e]))
  · have k0 : Kp (fun k => k = b ∨ (Value.slice (some ⟨g, 0, none⟩) s.l.length cap).ownBlock = some k) w w1 := k.mono (fun _ _ h => h.elim)
    have k1 := k0.setCell (p := ⟨g, i * 3, none⟩) (.inl (.inr rfl)) (.int .i64 x.sh)
    have k2 := k1.setCell (p := ⟨g, i * 3 + 1, none⟩) (.inl (.inr rfl)) (.int .i64 x.sl)
    have k3 := k2.setCell (p := ⟨g, i * 3 + 2, none⟩) (.inl (.inr rfl)) (.int .u64 x.ep)
    exact k3.setCell (p := ⟨b, 5, none⟩) (.inl (.inl rfl)) (.int .i64 (s.rw + 1))

set_option maxRecDepth 100000 in
set_option maxHeartbeats 1000000 in
theorem learn_diff (b : Nat) (s : SS) (v : Value) (x : Ent) (w : World) (h : SAt w b s v) (hl : EAt w v s.l) (ok : SOk s) (hx : ¬ x.sh < 0) (hw : ¬ s.ways = 0) (hs : s.state = 1) (i : Nat) (hi : i < s.l.length) (hf : fidx s.l x.sh = i) (hsh : s.l[i].sh = x.sh) (he : ¬ s.l[i] = x) (hrw : s.rw < 1000000000000) :
    Calls Try.prog 16 #[.pointer (some ⟨b, 0, none⟩), .int .i64 x.sh, .int .i64 x.sl, .int .u64 x.ep] w (Sited b { s with l := s.l.set i x, rw := s.rw + 1 } v w) := by
  have hlen : s.l.length ≤ 8 := by have := ok.len; have := ok.ways; omega
  have hne := hl.ne h (by decide)
  have hrw0 := ok.rw.1
  obtain ⟨g, cap, hv⟩ : ∃ g cap, v = .slice (some ⟨g, 0, none⟩) s.l.length cap := ownsRow_some hl (by omega)
  subst hv
  have hgb : ¬ g = b := fun e => hne (by rw [e]; rfl)
  have hgx : ¬ g = w.heap.size := by have := (hl.lt g rfl).2; omega
  have hb := h.lt
  have c0 := h.cell 0 (.int .i64 s.ways) rfl
  have c1 := h.cell 1 (.int .i64 s.warm) rfl
  have c2 := h.cell 2 (.int .i64 s.count) rfl
  have c3 := h.cell 3 (.int .i64 s.state) rfl
  have c4 := h.cell 4 (.slice (some ⟨g, 0, none⟩) s.l.length cap) rfl
  have c5 := h.cell 5 (.int .i64 s.rw) rfl
  have fr := h.free
  have H := Lib.hid h; clear h
  have HL := Lib.hid hl; clear hl
  have hw2 : (s.ways == 0) = false := by simpa using hw
  rw [hs] at c3
  clear hw hs ok
  go_enter Try.func16, Try.ntmps16
  go_wp2_with fail
  refine (find_any b s _ x.sh _ (Blk.alloc H.out _) (HL.out.kp ((Kp.refl (fun _ => False) _).alloc _) (fun _ _ h => h)) hlen).mono ?_
  rw [hf]
  rintro e w1 ⟨rfl, hk⟩
  have k1 : Kp (fun _ => False) w w1 := ((Kp.refl _ _).alloc _).trans (Kp.of_below hk)
  have h1 : SAt w1 b s _ := Blk.kp H.out k1 (fun h => h)
  have l1 := HL.out.kp k1 (fun _ _ h => h)
  have x1 : Blk w1 w.heap.size 92 #[.int .i64 x.sh, .int .i64 x.sl, .int .u64 x.ep] := (Blk.new rfl).below hk (by simp)
  have d4 := h1.cell 4 (.slice (some ⟨g, 0, none⟩) s.l.length cap) rfl
  have d5 := h1.cell 5 (.int .i64 s.rw) rfl
  have fr1 := h1.free
  obtain ⟨e0, e1, e2⟩ := l1.cell i hi
  have gf := fun j => World.ownsRow.frozenAt l1 j
  rw [hsh] at e0
  have y0 := x1.cell 0 (.int .i64 x.sh) rfl
  have y1 := x1.cell 1 (.int .i64 x.sl) rfl
  have y2 := x1.cell 2 (.int .u64 x.ep) rfl
  have hi2 : (i : Int) < (s.l.length : Int) := by omega
  have hi3 : (0 : Int) ≤ (i : Int) := by omega
  have hd : decide ((0 : Int) ≤ (i : Int)) = true := by simp
  have H1 := Lib.hid h1; clear h1
  have L1 := Lib.hid l1; clear l1
  clear c0 c1 c2 c3 c4 c5 fr H HL x1 hk
  have he' : ¬ (s.l[i].sl = x.sl ∧ s.l[i].ep = x.ep) := fun ⟨h1, h2⟩ => he (by cases hq : s.l[i]; cases x; simp_all)
  clear he hsh
  generalize s.l[i] = y at *
  by_cases hq : y.sl = x.sl
  · have hq2 : ¬ y.ep = x.ep := fun h => he' ⟨hq, h⟩
    have hq3 : (y.ep == x.ep) = false := by simpa using hq2
    clear he' hq2
    rw [hq] at e1
    clear hq
    go_wp2
    go_quiet (fail)
    go_wp2
    refine wp_region_still_tail 7 (by kernel_rfl) (by kernel_rfl) ?_
    simp only [List.take_succ_cons, List.take_zero, List.drop_succ_cons, List.drop_zero]
    change wpStill _ _ (World.drew _) _ _ _
    repeat still_step
    refine wpStill_nil ?_
    change wpList _ _ _ _ _ (World.drew _)
    go_wp2
    go_returns
    exact set_chain (Blk.drewN H1.out _) (L1.out.kp ((Kp.refl (fun _ => False) _).drewN _) (fun _ _ h => h)) hi hgb (k1.drewN _)
  · have hq3 : (y.sl == x.sl) = false := by simpa using hq
    clear he' hq
    go_wp2
    go_quiet (fail)
    go_wp2
    refine wp_region_still_tail 7 (by kernel_rfl) (by kernel_rfl) ?_
    simp only [List.take_succ_cons, List.take_zero, List.drop_succ_cons, List.drop_zero]
    change wpStill _ _ (World.drew _) _ _ _
    repeat still_step
    refine wpStill_nil ?_
    change wpList _ _ _ _ _ (World.drew _)
    go_wp2
    go_returns
    exact set_chain (Blk.drewN H1.out _) (L1.out.kp ((Kp.refl (fun _ => False) _).drewN _) (fun _ _ h => h)) hi hgb (k1.drewN _)

theorem flat_snoc (l : List Ent) (x : Ent) : (l ++ [x]).flatMap Ent.cells = l.flatMap Ent.cells ++ [.int .i64 x.sh, .int .i64 x.sl, .int .u64 x.ep] := by simp [List.flatMap_append, Ent.cells]


set_option maxRecDepth 100000 in
set_option maxHeartbeats 1000000 in
theorem learn_app (b : Nat) (s : SS) (v : Value) (x : Ent) (w : World) (h : SAt w b s v) (hl : EAt w v s.l) (ok : SOk s) (hx : ¬ x.sh < 0) (hw : ¬ s.ways = 0) (hs : s.state = 1) (hf : fidx s.l x.sh = -1) (hlw : (s.l.length : Int) < s.ways) (hrw : s.rw < 1000000000000) :
    Calls Try.prog 16 #[.pointer (some ⟨b, 0, none⟩), .int .i64 x.sh, .int .i64 x.sl, .int .u64 x.ep] w (Sited b { s with l := s.l ++ [x], rw := s.rw + 1 } v w) := by
  obtain ⟨i0, hi, hz0, hz1, hz2⟩ := info_parts Try.info92
  have hlen : s.l.length ≤ 8 := by have := ok.len; have := ok.ways; omega
  have hne := hl.ne h (by decide)
  have nX : v.ownBlock ≠ some w.heap.size := fun e => by have := (hl.lt _ e).2; omega
  have hrw0 := ok.rw.1
  obtain ⟨aa, ac, rfl⟩ := hl.form
  have hb := h.lt
  have c0 := h.cell 0 (.int .i64 s.ways) rfl
  have c1 := h.cell 1 (.int .i64 s.warm) rfl
  have c2 := h.cell 2 (.int .i64 s.count) rfl
  have c3 := h.cell 3 (.int .i64 s.state) rfl
  have c4 := h.cell 4 (.slice aa s.l.length ac) rfl
  have c5 := h.cell 5 (.int .i64 s.rw) rfl
  have fr := h.free
  have H := Lib.hid h; clear h
  have HL := Lib.hid hl; clear hl
  have hw2 : (s.ways == 0) = false := by simpa using hw
  rw [hs] at c3
  clear hw hs ok
  go_enter Try.func16, Try.ntmps16
  go_wp2_with fail
  refine (find_any b s _ x.sh _ (Blk.alloc H.out _) (HL.out.kp ((Kp.refl (fun _ => False) _).alloc _) (fun _ _ h => h)) hlen).mono ?_
  rw [hf]
  rintro e wa ⟨rfl, hk⟩
  have k1 : Kp (fun _ => False) w wa := ((Kp.refl _ _).alloc _).trans (Kp.of_below hk)
  have k2 : Kp (· = b) w wa := k1.mono (fun _ _ h => h.elim)
  have h1 : SAt wa b s (.slice aa s.l.length ac) := Blk.kp H.out k1 (fun h => h)
  have l1 := HL.out.kp k1 (fun _ _ h => h)
  have x1 : Blk wa w.heap.size 92 #[.int .i64 x.sh, .int .i64 x.sl, .int .u64 x.ep] := (Blk.new rfl).below hk (by simp)
  have lX := x1.lt
  have lB := h1.lt
  have d4 := h1.cell 4 (.slice aa s.l.length ac) rfl
  have d0 := h1.cell 0 (.int .i64 s.ways) rfl
  have d5 := h1.cell 5 (.int .i64 s.rw) rfl
  have fr1 := h1.free
  have y0 := x1.cell 0 (.int .i64 x.sh) rfl
  have y1 := x1.cell 1 (.int .i64 x.sl) rfl
  have y2 := x1.cell 2 (.int .u64 x.ep) rfl
  have H2 := Lib.hid h1; clear h1
  have L2 := Lib.hid l1; clear l1
  have X2 := Lib.hid x1
  clear c0 c1 c2 c3 c4 c5 fr H HL x1 hk k1
  go_wp2_with fail
  go_quiet (fail)
  generalize nq = n1
  go_wp2_with fail
  go_quiet (fail)
  go_wp2_with fail
  have k3 := (k2.drewN n1).drewN nq
  have H3 : SAt ((wa.drewN n1).drewN nq) b (s) (.slice aa s.l.length ac) := H2.out
  have L3 : EAt ((wa.drewN n1).drewN nq) (.slice aa s.l.length ac) s.l := L2.out
  have x3 : Blk ((wa.drewN n1).drewN nq) w.heap.size 92 #[.int .i64 x.sh, .int .i64 x.sl, .int .u64 x.ep] := X2.out
  clear H2 L2 X2 k2 d4 d5 d0 fr1 y0 y1 y2 lX lB
  generalize (wa.drewN n1).drewN nq = wa at *
  have k2 := k3
  have lX := x3.lt
  have lB := H3.lt
  have d4 := H3.cell 4 (.slice aa s.l.length ac) rfl
  have d5 := H3.cell 5 (.int .i64 s.rw) rfl
  have fr1 := H3.free
  have y0 := x3.cell 0 (.int .i64 x.sh) rfl
  have y1 := x3.cell 1 (.int .i64 x.sl) rfl
  have y2 := x3.cell 2 (.int .u64 x.ep) rfl
  have H2 := Lib.hid H3; clear H3
  have L2 := Lib.hid L3; clear L3 x3 k3
  refine wp_region_K (S := fun w' => w'.cell? ⟨b, 4, none⟩ = some (Value.slice aa s.l.length ac) ∧ w'.cell? ⟨w.heap.size, 0, none⟩ = some (.int .i64 x.sh) ∧ w'.cell? ⟨w.heap.size, 1, none⟩ = some (.int .i64 x.sl) ∧ w'.cell? ⟨w.heap.size, 2, none⟩ = some (.int .u64 x.ep)) (K := 8) (by kernel_rfl) ?_
  have hHeld : (fun w' => w'.cell? ⟨b, 4, none⟩ = some (Value.slice aa s.l.length ac) ∧ w'.cell? ⟨w.heap.size, 0, none⟩ = some (.int .i64 x.sh) ∧ w'.cell? ⟨w.heap.size, 1, none⟩ = some (.int .i64 x.sl) ∧ w'.cell? ⟨w.heap.size, 2, none⟩ = some (.int .u64 x.ep)) (World.drew _) := ⟨d4, y0, y1, y2⟩
  refine wpK_take (i := 0) (v := ?_) rfl (by kernel_rfl) (fun _ _ _ h => h) (Or.inl ⟨by kernel_rfl, ?_⟩) hHeld ?_
  rotate_left
  · intro w hSw; (try dsimp only at hSw); go_simp; (try with_reducible rfl)
  simp only [Act.put, List.setIfInBounds_toArray, List.set_cons_zero, List.set_cons_succ]
  refine wpK_take (i := 1) (v := ?_) rfl (by kernel_rfl) (fun _ _ _ h => h) (Or.inl ⟨by kernel_rfl, ?_⟩) hHeld ?_
  rotate_left
  · intro w hSw; (try dsimp only at hSw); go_simp; (try with_reducible rfl)
  simp only [Act.put, List.setIfInBounds_toArray, List.set_cons_zero, List.set_cons_succ]
  refine wpK_take (i := 2) (v := ?_) rfl (by kernel_rfl) (fun _ _ _ h => h) (Or.inl ⟨by kernel_rfl, ?_⟩) hHeld ?_
  rotate_left
  · intro w hSw; (try dsimp only at hSw); go_simp; (try with_reducible rfl)
  simp only [Act.put, List.setIfInBounds_toArray, List.set_cons_zero, List.set_cons_succ]
  refine wpK_take (i := 3) (v := ?_) rfl (by kernel_rfl) (fun _ _ _ h => h) (Or.inl ⟨by kernel_rfl, ?_⟩) hHeld ?_
  rotate_left
  · intro w hSw; (try dsimp only at hSw); go_simp; (try with_reducible rfl)
  simp only [Act.put, List.setIfInBounds_toArray, List.set_cons_zero, List.set_cons_succ]
  refine wpK_take (i := 4) (v := ?_) rfl (by kernel_rfl) (fun _ _ _ h => h) (Or.inl ⟨by kernel_rfl, ?_⟩) hHeld ?_
  rotate_left
  · intro w hSw; (try dsimp only at hSw); go_simp; (try with_reducible rfl)
  simp only [Act.put, List.setIfInBounds_toArray, List.set_cons_zero, List.set_cons_succ]
  refine wpK_take (i := 5) (v := ?_) rfl (by kernel_rfl) (fun _ _ _ h => h) (Or.inl ⟨by kernel_rfl, ?_⟩) hHeld ?_
  rotate_left
  · intro w hSw; (try dsimp only at hSw); go_simp; (try with_reducible rfl)
  simp only [Act.put, List.setIfInBounds_toArray, List.set_cons_zero, List.set_cons_succ]
  refine wpK_one (i := 6) (by kernel_rfl) rfl (fun K' hK => ?_)
  go_simp
  refine hK.out _ _ (fun _ => by first | exact hHeld | go_keep) (fun hHeld' => ?_)
  have hHeld := hHeld' (by decide)
  clear hHeld'
  clear hK K'
  refine wpK_one (i := 7) (by kernel_rfl) rfl (fun K' hK => ?_)
  refine step_append_lies _ (by rfl) _ _ _ (by rfl) 0 92 i0 _ 3 24 Try.underlying87 hi hz0 hz1 hz2 rfl (by omega) (Value.slice aa s.l.length ac) s.l.length (s.l.flatMap Ent.cells) (by rfl) ((L2.out.alloc _).drew) ⟨wa.heap.size, 0, none⟩ 1 1 [.int .i64 x.sh, .int .i64 x.sl, .int .u64 x.ep] (by rfl) (by rfl) (World.news_of_block (cs := #[.int .i64 x.sh, .int .i64 x.sl, .int .u64 x.ep]) (t := 92) (fr := (0, 0)) (heap_alloc_new wa _)) (by simp [Value.oneCell']) (by omega) (by unfold maxLen; omega) (by omega) (by omega) (wa.heap.size + 1) (by simp) ?_
  intro g cap w2 hown hgrow hat hlt
  refine hK.out _ _ (fun _ => ⟨(hgrow.cell_far _ (by simp; omega) (Ne.symm hne)).trans hHeld.1, (hgrow.cell_far _ (by simp; omega) (Ne.symm nX)).trans hHeld.2.1, (hgrow.cell_far _ (by simp; omega) (Ne.symm nX)).trans hHeld.2.2.1, (hgrow.cell_far _ (by simp; omega) (Ne.symm nX)).trans hHeld.2.2.2⟩) (fun hHeld' => ?_)
  have hHeld := hHeld' (by decide)
  clear hHeld' hK K'
  have HB2 : Blk w2 b 89 ((s).cells (Value.slice aa s.l.length ac)) := Blk.grown ((H2.out.alloc _).drew) hgrow hne
  have f4 := HB2.cell 4 (Value.slice aa s.l.length ac) rfl
  have f5 := HB2.cell 5 (.int .i64 s.rw) rfl
  have ff := HB2.free
  have hHB2 := Lib.hid HB2; clear HB2 d4 d5 fr1 H2
  refine wpK_one (i := 8) (by kernel_rfl) rfl (fun K' hK => ?_)
  go_simp
  refine hK.out _ _ (fun h => absurd h (by decide)) (fun _ => ?_)
  clear hK K'
  refine wpK_one (i := 9) (by kernel_rfl) rfl (fun K' hK => ?_)
  go_simp
  refine hK.out _ _ (fun h => absurd h (by decide)) (fun _ => ?_)
  clear hK K'
  refine wpK_one (i := 10) (by kernel_rfl) rfl (fun K' hK => ?_)
  go_simp
  refine hK.out _ _ (fun h => absurd h (by decide)) (fun _ => ?_)
  clear hK K'
  refine wpK_done (by kernel_rfl) ?_ _
  go_wp2
  go_returns
  have hsn : SameOrNew w (Value.slice aa s.l.length ac) (.slice (some ⟨g, 0, none⟩) (s.l.length + 1) cap) := by
    rcases hat with h | h
    · exact .inl h.symm
    · exact .inr fun g' hg' => by simp [Value.ownBlock] at hg'; have := k2.size; omega
  have hlt2 : ∀ g', (Value.slice (some ⟨g, 0, none⟩) (s.l.length + 1) cap).ownBlock = some g' → g' ≠ b := by
    intro g' hg' e
    rcases hsn with h | h
    · exact hne (by rw [← h, hg', e])
    · have := h g' hg'; omega
  have hl2 : EAt w2 (.slice (some ⟨g, 0, none⟩) (s.l.length + 1) cap) (s.l ++ [x]) := by
    unfold EAt; rw [flat_snoc, List.length_append]; exact hown
  exact ⟨.slice (some ⟨g, 0, none⟩) (s.l.length + 1) cap, rfl, SAt.of ((Blk.set hHB2.out 4 _).set 5 _) rfl, hl2.kp (Kp.setCell (S := (· = b)) (p := ⟨b, 5, none⟩) (Kp.setCell (S := (· = b)) (p := ⟨b, 4, none⟩) (Kp.refl _ _) (.inl rfl) _) (.inl rfl) _) (fun g' hg' e => hlt2 g' hg' e),
    ((((k2.mono (S' := fun k => k = b ∨ (Value.slice aa s.l.length ac).ownBlock = some k) (fun _ _ h => .inl h)).alloc _).drew.grown hgrow (fun k e => .inl (.inr e))).setCell (p := ⟨b, 4, none⟩) (.inl (.inl rfl)) _).setCell (p := ⟨b, 5, none⟩) (.inl (.inl rfl)) _, hsn⟩

set_option maxRecDepth 100000 in
set_option maxHeartbeats 1000000 in
theorem learn_first (b : Nat) (s : SS) (v : Value) (x : Ent) (w : World) (h : SAt w b s v) (hl : EAt w v s.l) (ok : SOk s) (hx : ¬ x.sh < 0) (hw : ¬ s.ways = 0) (hs : s.state = 0) (hc : ¬ s.count + 1 ≤ s.warm) (hf : fidx s.l x.sh = -1) (hlw : (s.l.length : Int) < s.ways) (hrw : s.rw < 1000000000000) :
    Calls Try.prog 16 #[.pointer (some ⟨b, 0, none⟩), .int .i64 x.sh, .int .i64 x.sl, .int .u64 x.ep] w (Sited b { s with count := s.count + 1, state := 1, l := s.l ++ [x], rw := s.rw + 1 } v w) := by
  obtain ⟨i0, hi, hz0, hz1, hz2⟩ := info_parts Try.info92
  have hlen : s.l.length ≤ 8 := by have := ok.len; have := ok.ways; omega
  have hne := hl.ne h (by decide)
  have nX : v.ownBlock ≠ some w.heap.size := fun e => by have := (hl.lt _ e).2; omega
  have hrw0 := ok.rw.1
  obtain ⟨q0, q1⟩ := ok.count
  obtain ⟨q2, q3⟩ := ok.warm
  obtain ⟨aa, ac, rfl⟩ := hl.form
  have hb := h.lt
  have c0 := h.cell 0 (.int .i64 s.ways) rfl
  have c1 := h.cell 1 (.int .i64 s.warm) rfl
  have c2 := h.cell 2 (.int .i64 s.count) rfl
  have c3 := h.cell 3 (.int .i64 s.state) rfl
  have c4 := h.cell 4 (.slice aa s.l.length ac) rfl
  have c5 := h.cell 5 (.int .i64 s.rw) rfl
  have fr := h.free
  have H := Lib.hid h; clear h
  have HL := Lib.hid hl; clear hl
  have hw2 : (s.ways == 0) = false := by simpa using hw
  rw [hs] at c3
  clear hw hs ok
  go_enter Try.func16, Try.ntmps16
  go_wp2
  go_quiet (fail)
  go_wp2_with fail
  have kA : Kp (· = b) w ((((w.setCell ⟨b, 2, none⟩ (.int .i64 (s.count + 1))).alloc (.cells #[.int .i64 x.sh, .int .i64 x.sl, .int .u64 x.ep] 92)).drewN nq).setCell ⟨b, 3, none⟩ (.int .i64 1)) := by (repeat (first | (with_reducible exact Kp.refl _ _) | (with_reducible assumption) | (with_reducible refine Kp.drew ?_) | (with_reducible refine Kp.drewN ?_ _) | (with_reducible refine Kp.alloc ?_ _) | (with_reducible refine Kp.setCell ?_ ?_ _) | (left; rfl) | (left; left; rfl) | (right; simp; done) | (right; simp; omega) | go_size))
  have hA : SAt ((((w.setCell ⟨b, 2, none⟩ (.int .i64 (s.count + 1))).alloc (.cells #[.int .i64 x.sh, .int .i64 x.sl, .int .u64 x.ep] 92)).drewN nq).setCell ⟨b, 3, none⟩ (.int .i64 1)) b { s with count := s.count + 1, state := 1 } (.slice aa s.l.length ac) := SAt.of ((((Blk.set H.out 2 _).alloc _).drewN _).set 3 _) rfl
  have lA := HL.out.kp kA (fun g hg e => hne (e ▸ hg))
  have xA : Blk ((((w.setCell ⟨b, 2, none⟩ (.int .i64 (s.count + 1))).alloc (.cells #[.int .i64 x.sh, .int .i64 x.sl, .int .u64 x.ep] 92)).drewN nq).setCell ⟨b, 3, none⟩ (.int .i64 1)) w.heap.size 92 #[.int .i64 x.sh, .int .i64 x.sl, .int .u64 x.ep] := ((Blk.new (by simp)).drewN _).other (by simp; omega) _
  refine (find_any b _ _ x.sh _ hA lA hlen).mono ?_
  rw [hf]
  rintro e wa ⟨rfl, hk⟩
  have k2 : Kp (· = b) w wa := kA.trans (Kp.of_below hk)
  have h1 : SAt wa b { s with count := s.count + 1, state := 1 } (.slice aa s.l.length ac) := Blk.below hA hk hA.lt
  have l1 := lA.kp (Kp.of_below hk (S := fun _ => False)) (fun _ _ h => h)
  have x1 : Blk wa w.heap.size 92 #[.int .i64 x.sh, .int .i64 x.sl, .int .u64 x.ep] := xA.below hk xA.lt
  have lX := x1.lt
  have lB := h1.lt
  have d4 := h1.cell 4 (.slice aa s.l.length ac) rfl
  have d0 := h1.cell 0 (.int .i64 s.ways) rfl
  have d5 := h1.cell 5 (.int .i64 s.rw) rfl
  have fr1 := h1.free
  have y0 := x1.cell 0 (.int .i64 x.sh) rfl
  have y1 := x1.cell 1 (.int .i64 x.sl) rfl
  have y2 := x1.cell 2 (.int .u64 x.ep) rfl
  have H2 := Lib.hid h1; clear h1
  have L2 := Lib.hid l1; clear l1
  have X2 := Lib.hid x1
  clear c0 c1 c2 c3 c4 c5 fr H HL x1 hk kA hA lA xA
  go_wp2_with fail
  go_quiet (fail)
  generalize nq = n1
  go_wp2_with fail
  go_quiet (fail)
  go_wp2_with fail
  have k3 := (k2.drewN n1).drewN nq
  have H3 : SAt ((wa.drewN n1).drewN nq) b ({ s with count := s.count + 1, state := 1 }) (.slice aa s.l.length ac) := H2.out
  have L3 : EAt ((wa.drewN n1).drewN nq) (.slice aa s.l.length ac) s.l := L2.out
  have x3 : Blk ((wa.drewN n1).drewN nq) w.heap.size 92 #[.int .i64 x.sh, .int .i64 x.sl, .int .u64 x.ep] := X2.out
  clear H2 L2 X2 k2 d4 d5 d0 fr1 y0 y1 y2 lX lB
  generalize (wa.drewN n1).drewN nq = wa at *
  have k2 := k3
  have lX := x3.lt
  have lB := H3.lt
  have d4 := H3.cell 4 (.slice aa s.l.length ac) rfl
  have d5 := H3.cell 5 (.int .i64 s.rw) rfl
  have fr1 := H3.free
  have y0 := x3.cell 0 (.int .i64 x.sh) rfl
  have y1 := x3.cell 1 (.int .i64 x.sl) rfl
  have y2 := x3.cell 2 (.int .u64 x.ep) rfl
  have H2 := Lib.hid H3; clear H3
  have L2 := Lib.hid L3; clear L3 x3 k3
  refine wp_region_K (S := fun w' => w'.cell? ⟨b, 4, none⟩ = some (Value.slice aa s.l.length ac) ∧ w'.cell? ⟨w.heap.size, 0, none⟩ = some (.int .i64 x.sh) ∧ w'.cell? ⟨w.heap.size, 1, none⟩ = some (.int .i64 x.sl) ∧ w'.cell? ⟨w.heap.size, 2, none⟩ = some (.int .u64 x.ep)) (K := 8) (by kernel_rfl) ?_
  have hHeld : (fun w' => w'.cell? ⟨b, 4, none⟩ = some (Value.slice aa s.l.length ac) ∧ w'.cell? ⟨w.heap.size, 0, none⟩ = some (.int .i64 x.sh) ∧ w'.cell? ⟨w.heap.size, 1, none⟩ = some (.int .i64 x.sl) ∧ w'.cell? ⟨w.heap.size, 2, none⟩ = some (.int .u64 x.ep)) (World.drew _) := ⟨d4, y0, y1, y2⟩
  refine wpK_take (i := 0) (v := ?_) rfl (by kernel_rfl) (fun _ _ _ h => h) (Or.inl ⟨by kernel_rfl, ?_⟩) hHeld ?_
  rotate_left
  · intro w hSw; (try dsimp only at hSw); go_simp; (try with_reducible rfl)
  simp only [Act.put, List.setIfInBounds_toArray, List.set_cons_zero, List.set_cons_succ]
  refine wpK_take (i := 1) (v := ?_) rfl (by kernel_rfl) (fun _ _ _ h => h) (Or.inl ⟨by kernel_rfl, ?_⟩) hHeld ?_
  rotate_left
  · intro w hSw; (try dsimp only at hSw); go_simp; (try with_reducible rfl)
  simp only [Act.put, List.setIfInBounds_toArray, List.set_cons_zero, List.set_cons_succ]
  refine wpK_take (i := 2) (v := ?_) rfl (by kernel_rfl) (fun _ _ _ h => h) (Or.inl ⟨by kernel_rfl, ?_⟩) hHeld ?_
  rotate_left
  · intro w hSw; (try dsimp only at hSw); go_simp; (try with_reducible rfl)
  simp only [Act.put, List.setIfInBounds_toArray, List.set_cons_zero, List.set_cons_succ]
  refine wpK_take (i := 3) (v := ?_) rfl (by kernel_rfl) (fun _ _ _ h => h) (Or.inl ⟨by kernel_rfl, ?_⟩) hHeld ?_
  rotate_left
  · intro w hSw; (try dsimp only at hSw); go_simp; (try with_reducible rfl)
  simp only [Act.put, List.setIfInBounds_toArray, List.set_cons_zero, List.set_cons_succ]
  refine wpK_take (i := 4) (v := ?_) rfl (by kernel_rfl) (fun _ _ _ h => h) (Or.inl ⟨by kernel_rfl, ?_⟩) hHeld ?_
  rotate_left
  · intro w hSw; (try dsimp only at hSw); go_simp; (try with_reducible rfl)
  simp only [Act.put, List.setIfInBounds_toArray, List.set_cons_zero, List.set_cons_succ]
  refine wpK_take (i := 5) (v := ?_) rfl (by kernel_rfl) (fun _ _ _ h => h) (Or.inl ⟨by kernel_rfl, ?_⟩) hHeld ?_
  rotate_left
  · intro w hSw; (try dsimp only at hSw); go_simp; (try with_reducible rfl)
  simp only [Act.put, List.setIfInBounds_toArray, List.set_cons_zero, List.set_cons_succ]
  refine wpK_one (i := 6) (by kernel_rfl) rfl (fun K' hK => ?_)
  go_simp
  refine hK.out _ _ (fun _ => by first | exact hHeld | go_keep) (fun hHeld' => ?_)
  have hHeld := hHeld' (by decide)
  clear hHeld'
  clear hK K'
  refine wpK_one (i := 7) (by kernel_rfl) rfl (fun K' hK => ?_)
  refine step_append_lies _ (by rfl) _ _ _ (by rfl) 0 92 i0 _ 3 24 Try.underlying87 hi hz0 hz1 hz2 rfl (by omega) (Value.slice aa s.l.length ac) s.l.length (s.l.flatMap Ent.cells) (by rfl) ((L2.out.alloc _).drew) ⟨wa.heap.size, 0, none⟩ 1 1 [.int .i64 x.sh, .int .i64 x.sl, .int .u64 x.ep] (by rfl) (by rfl) (World.news_of_block (cs := #[.int .i64 x.sh, .int .i64 x.sl, .int .u64 x.ep]) (t := 92) (fr := (0, 0)) (heap_alloc_new wa _)) (by simp [Value.oneCell']) (by omega) (by unfold maxLen; omega) (by omega) (by omega) (wa.heap.size + 1) (by simp) ?_
  intro g cap w2 hown hgrow hat hlt
  refine hK.out _ _ (fun _ => ⟨(hgrow.cell_far _ (by simp; omega) (Ne.symm hne)).trans hHeld.1, (hgrow.cell_far _ (by simp; omega) (Ne.symm nX)).trans hHeld.2.1, (hgrow.cell_far _ (by simp; omega) (Ne.symm nX)).trans hHeld.2.2.1, (hgrow.cell_far _ (by simp; omega) (Ne.symm nX)).trans hHeld.2.2.2⟩) (fun hHeld' => ?_)
  have hHeld := hHeld' (by decide)
  clear hHeld' hK K'
  have HB2 : Blk w2 b 89 (({ s with count := s.count + 1, state := 1 }).cells (Value.slice aa s.l.length ac)) := Blk.grown ((H2.out.alloc _).drew) hgrow hne
  have f4 := HB2.cell 4 (Value.slice aa s.l.length ac) rfl
  have f5 := HB2.cell 5 (.int .i64 s.rw) rfl
  have ff := HB2.free
  have hHB2 := Lib.hid HB2; clear HB2 d4 d5 fr1 H2
  refine wpK_one (i := 8) (by kernel_rfl) rfl (fun K' hK => ?_)
  go_simp
  refine hK.out _ _ (fun h => absurd h (by decide)) (fun _ => ?_)
  clear hK K'
  refine wpK_one (i := 9) (by kernel_rfl) rfl (fun K' hK => ?_)
  go_simp
  refine hK.out _ _ (fun h => absurd h (by decide)) (fun _ => ?_)
  clear hK K'
  refine wpK_one (i := 10) (by kernel_rfl) rfl (fun K' hK => ?_)
  go_simp
  refine hK.out _ _ (fun h => absurd h (by decide)) (fun _ => ?_)
  clear hK K'
  refine wpK_done (by kernel_rfl) ?_ _
  go_wp2
  go_returns
  have hsn : SameOrNew w (Value.slice aa s.l.length ac) (.slice (some ⟨g, 0, none⟩) (s.l.length + 1) cap) := by
    rcases hat with h | h
    · exact .inl h.symm
    · exact .inr fun g' hg' => by simp [Value.ownBlock] at hg'; have := k2.size; omega
  have hlt2 : ∀ g', (Value.slice (some ⟨g, 0, none⟩) (s.l.length + 1) cap).ownBlock = some g' → g' ≠ b := by
    intro g' hg' e
    rcases hsn with h | h
    · exact hne (by rw [← h, hg', e])
    · have := h g' hg'; omega
  have hl2 : EAt w2 (.slice (some ⟨g, 0, none⟩) (s.l.length + 1) cap) (s.l ++ [x]) := by
    unfold EAt; rw [flat_snoc, List.length_append]; exact hown
  exact ⟨.slice (some ⟨g, 0, none⟩) (s.l.length + 1) cap, rfl, SAt.of ((Blk.set hHB2.out 4 _).set 5 _) rfl, hl2.kp (Kp.setCell (S := (· = b)) (p := ⟨b, 5, none⟩) (Kp.setCell (S := (· = b)) (p := ⟨b, 4, none⟩) (Kp.refl _ _) (.inl rfl) _) (.inl rfl) _) (fun g' hg' e => hlt2 g' hg' e),
    ((((k2.mono (S' := fun k => k = b ∨ (Value.slice aa s.l.length ac).ownBlock = some k) (fun _ _ h => .inl h)).alloc _).drew.grown hgrow (fun k e => .inl (.inr e))).setCell (p := ⟨b, 4, none⟩) (.inl (.inl rfl)) _).setCell (p := ⟨b, 5, none⟩) (.inl (.inl rfl)) _, hsn⟩

set_option maxRecDepth 100000 in
set_option maxHeartbeats 1000000 in
theorem learn_full (b : Nat) (s : SS) (v : Value) (x : Ent) (w : World) (h : SAt w b s v) (hl : EAt w v s.l) (ok : SOk s) (hx : ¬ x.sh < 0) (hw : ¬ s.ways = 0) (hs : s.state = 1) (hf : fidx s.l x.sh = -1) (hlw : ¬ (s.l.length : Int) < s.ways) :
    Calls Try.prog 16 #[.pointer (some ⟨b, 0, none⟩), .int .i64 x.sh, .int .i64 x.sl, .int .u64 x.ep] w (Sited b s.deopt v w) := by
  have hlen : s.l.length ≤ 8 := by have := ok.len; have := ok.ways; omega
  have hd4 := ok.deopts
  obtain ⟨aa, ac, rfl⟩ := hl.form
  have hb := h.lt
  have c0 := h.cell 0 (.int .i64 s.ways) rfl
  have c1 := h.cell 1 (.int .i64 s.warm) rfl
  have c2 := h.cell 2 (.int .i64 s.count) rfl
  have c3 := h.cell 3 (.int .i64 s.state) rfl
  have c4 := h.cell 4 (.slice aa s.l.length ac) rfl
  have c5 := h.cell 5 (.int .i64 s.rw) rfl
  have fr := h.free
  have H := Lib.hid h; clear h
  have HL := Lib.hid hl; clear hl
  have hw2 : (s.ways == 0) = false := by simpa using hw
  rw [hs] at c3
  clear hw hs ok
  go_enter Try.func16, Try.ntmps16
  go_wp2_with fail
  refine (find_any b s _ x.sh _ (Blk.alloc H.out _) (HL.out.kp ((Kp.refl (fun _ => False) _).alloc _) (fun _ _ h => h)) hlen).mono ?_
  rw [hf]
  rintro e wa ⟨rfl, hk⟩
  have k1 : Kp (fun _ => False) w wa := ((Kp.refl _ _).alloc _).trans (Kp.of_below hk)
  have h1 : SAt wa b s (.slice aa s.l.length ac) := Blk.kp H.out k1 (fun h => h)
  have d4 := h1.cell 4 (.slice aa s.l.length ac) rfl
  have d0 := h1.cell 0 (.int .i64 s.ways) rfl
  have H2 := Lib.hid h1; clear h1
  clear c0 c1 c2 c3 c4 c5 fr H HL hk
  go_wp2_with fail
  go_quiet (fail)
  generalize nq = n1
  go_wp2_with fail
  go_quiet (fail)
  go_wp2_with fail
  refine (deopt_any b s _ _ (Blk.drewN H2.out _) hd4).mono ?_
  rintro e w3 ⟨v', rfl, g1, g2, g3, g4⟩
  have HD : Sited b s.deopt (.slice aa s.l.length ac) w (.returned (.tuple #[])) w3 := ⟨v', rfl, g1, g2, ((k1.drewN _).mono (fun _ _ h => h.elim)).trans' g3 (fun _ _ h => h), by
    rcases g4 with h | h
    · exact .inl h
    · exact .inr fun g hg => Nat.le_trans k1.size (h g hg)⟩
  have HD' := Lib.hid HD; clear HD g1 g2 g3 g4
  go_wp2
  go_returns
  exact HD'.out

set_option maxRecDepth 100000 in
theorem learn_nil (x : Ent) (w : World) : Calls Try.prog 16 #[.pointer none, .int .i64 x.sh, .int .i64 x.sl, .int .u64 x.ep] w fun e w' => e = .returned (.tuple #[]) ∧ w = w' := by
  go_enter Try.func16, Try.ntmps16
  go_wp2
  go_returns
  exact ⟨rfl, rfl⟩

theorem fidx_findIdx {l : List Ent} {k : Int} : (fidx l k = -1 ∧ ¬ l.findIdx (fun e => e.sh == k) < l.length) ∨ (l.findIdx (fun e => e.sh == k) < l.length ∧ fidx l k = (l.findIdx (fun e => e.sh == k) : Nat)) := by
  unfold fidx
  by_cases h : l.findIdx (fun e => e.sh == k) < l.length
  · right; exact ⟨h, by rw [if_pos h]⟩
  · left; exact ⟨by rw [if_neg h], h⟩

/-- Learn, whatever the site. -/
theorem learn_any (b : Nat) (s : SS) (v : Value) (x : Ent) (w : World) (h : SAt w b s v) (hl : EAt w v s.l) (ok : SOk s) (hrw : s.rw < 1000000000000) :
    Calls Try.prog 16 #[.pointer (some ⟨b, 0, none⟩), .int .i64 x.sh, .int .i64 x.sl, .int .u64 x.ep] w (Sited b (s.learn x) v w) := by
  unfold SS.learn
  by_cases hx : x.sh < 0
  · rw [if_pos (.inl hx)]; exact learn_neg b s v x w h hl hx
  by_cases hw : s.ways = 0
  · rw [if_pos (.inr hw)]; exact learn_ways b s v x w h hl hx hw
  rw [if_neg (by rintro (h | h); exact hx h; exact hw h)]
  have hlw0 := ok.ways.1
  by_cases h0 : s.state = 0
  · rw [if_pos h0]
    by_cases hc : s.count + 1 ≤ s.warm
    · rw [if_pos hc]; exact learn_cold b s v x w h hl ok hx hw h0 hc
    · rw [if_neg hc]
      have he : s.l = [] := by
        by_cases hn : s.l = []
        · exact hn
        · have := ok.one.2 hn; omega
      have hf : fidx s.l x.sh = -1 := by rw [he]; rfl
      have hp : SS.put { s with count := s.count + 1, state := 1 } x = { s with count := s.count + 1, state := 1, l := s.l ++ [x], rw := s.rw + 1 } := by
        unfold SS.put
        simp [he, show 0 < s.ways by omega]
      rw [hp]
      exact learn_first b s v x w h hl ok hx hw h0 hc hf (by rw [he]; simp; omega) hrw
  · rw [if_neg h0]
    by_cases h1 : s.state = 1
    · rw [if_pos h1]
      unfold SS.put
      rcases fidx_findIdx (l := s.l) (k := x.sh) with ⟨hf, hn⟩ | ⟨hi, hf⟩
      · simp only [if_neg hn]
        by_cases hlw : (s.l.length : Int) < s.ways
        · rw [if_pos hlw]; exact learn_app b s v x w h hl ok hx hw h1 hf hlw hrw
        · rw [if_neg hlw]; exact learn_full b s v x w h hl ok hx hw h1 hf hlw
      · simp only [if_pos hi]
        have hsh : (s.l[s.l.findIdx (fun e => e.sh == x.sh)]'hi).sh = x.sh := by
          have := List.findIdx_getElem (p := fun e : Ent => e.sh == x.sh) (w := hi)
          simpa using this
        rw [List.getElem?_eq_getElem hi]
        by_cases he : s.l[s.l.findIdx (fun e => e.sh == x.sh)]'hi = x
        · rw [if_pos (by rw [he])]; exact learn_same b s v x w h hl ok hx hw h1 _ hi hf he
        · rw [if_neg (by simpa using he)]; exact learn_diff b s v x w h hl ok hx hw h1 _ hi hf hsh he hrw
    · rw [if_neg h1]
      exact learn_two b s v x w h hl hx hw (by rcases ok.st with h | h | h; exact absurd h h0; exact absurd h h1; exact h)
end Go.Proofs.Ytcdofhfneiednaa
