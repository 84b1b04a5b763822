/- selkielaw19.MeterWider answers true: two meters, one with wider limits. -/
import Derived.Test.YtmngeljbcnifgaaMtJ
namespace Go.Proofs.Ytmngeljbcnifgaa
set_option linter.unusedSimpArgs false
set_option linter.unusedVariables false
open Go.RowKit

def mx2 (a b : Int) : Int := if a < b then b else a
def Lims.wide (l m : Lims) : Lims := ⟨mx2 l.f m.f, mx2 l.d m.d, mx2 l.c m.c, mx2 l.s m.s, mx2 l.o m.o⟩
/-- Two meters that counted the same, nothing stopped them, the second has more. -/
structure Wid (m n : MS) : Prop where
  okm : MOk m
  okn : MOk n
  sm : m.st = 0
  sn : n.st = 0
  f : m.lf - m.f = n.lf - n.f
  d : m.ld - m.d = n.ld - n.d
  o : m.lo - m.o = n.lo - n.o
  lf : m.lf ≤ n.lf
  ld : m.ld ≤ n.ld
  lc : m.lc ≤ n.lc
  ls : m.ls ≤ n.ls
  lo : m.lo ≤ n.lo

theorem wid_act {m n : MS} (h : Wid m n) (o : Ste) (v v' : Value) (hok : MOk (m.act o v)) (hok' : MOk (n.act o v')) (hs : (m.act o v).st = 0) :
    Wid (m.act o v) (n.act o v') ∧ m.ans o = 0 ∧ n.ans o = 0 ∧ ∀ ls, m.said o ls = n.said o ls := by
  have h1 := h.f; have h2 := h.d; have h3 := h.o; have h4 := h.lf; have h5 := h.ld; have h6 := h.lc; have h7 := h.ls; have h8 := h.lo; have sm := h.sm; have sn := h.sn
  have om := h.okm; have on := h.okn
  have o1 := om.l1; have o2 := om.d0; have o3 := om.d1; have o4 := om.d2; have o5 := on.d0; have o6 := on.d1; have o7 := on.d2
  unfold MS.ans MS.said
  unfold MS.act at hok hok' hs ⊢
  by_cases e1 : o.k = 1
  · simp only [e1, if_true] at hok hok' hs ⊢
    unfold MS.step at hok hok' hs ⊢
    simp only [sm, sn, if_true] at hok hok' hs ⊢
    by_cases c : m.f < 1
    · simp [c] at hs
    · have c' : ¬ n.f < 1 := by omega
      simp only [c, c', if_false] at hok hok' hs ⊢
      exact ⟨⟨hok, hok', by trivial, by trivial, by simp; omega, h2, h3, h4, h5, h6, h7, h8⟩, by trivial, by trivial, by simp⟩
  simp only [e1, if_false] at hok hok' hs ⊢
  by_cases e2 : o.k = 2
  · simp only [e2, if_true] at hok hok' hs ⊢
    unfold MS.enter at hok hok' hs ⊢
    simp only [sm, sn, if_true] at hok hok' hs ⊢
    by_cases c : m.d < 1
    · simp [c] at hs
    · have c' : ¬ n.d < 1 := by omega
      simp only [c, c', if_false] at hok hok' hs ⊢
      exact ⟨⟨hok, hok', by trivial, by trivial, h1, by simp; omega, h3, h4, h5, h6, h7, h8⟩, by trivial, by trivial, by simp⟩
  simp only [e2, if_false] at hok hok' hs ⊢
  by_cases e3 : o.k = 3
  · simp only [e3, if_true] at hok hok' hs ⊢
    unfold MS.leave at hok hok' hs ⊢
    by_cases c : 0 < o.n
    · simp only [c, if_true] at hok hok' hs ⊢
      exact ⟨⟨hok, hok', sm, sn, h1, by simp; omega, h3, h4, h5, h6, h7, h8⟩, by trivial, by trivial, by simp⟩
    · simp only [c, if_false] at hok hok' hs ⊢
      exact ⟨⟨hok, hok', sm, sn, h1, h2, h3, h4, h5, h6, h7, h8⟩, by trivial, by trivial, by simp⟩
  simp only [e3, if_false] at hok hok' hs ⊢
  by_cases e4 : o.k = 4
  · simp only [e4, if_true] at hok hok' hs ⊢
    unfold MS.used at hok hok' hs ⊢
    simp only [sm, sn, if_true] at hok hok' hs ⊢
    by_cases c : m.lc < o.n
    · simp [c] at hs
    · have c' : ¬ n.lc < o.n := by omega
      simp only [c, c', if_false] at hok hok' hs ⊢
      exact ⟨h, sm, sn, by simp⟩
  simp only [e4, if_false] at hok hok' hs ⊢
  by_cases e5 : o.k = 5
  · simp only [e5, if_true] at hok hok' hs ⊢
    unfold MS.text at hok hok' hs ⊢
    simp only [sm, sn, if_true] at hok hok' hs ⊢
    by_cases c : m.ls < o.n
    · simp [c] at hs
    · have c' : ¬ n.ls < o.n := by omega
      simp only [c, c', if_false] at hok hok' hs ⊢
      exact ⟨h, sm, sn, by simp⟩
  simp only [e5, if_false] at hok hok' hs ⊢
  by_cases e6 : o.k = 6
  · simp only [e6, if_true] at hok hok' hs ⊢
    unfold MS.line at hok hok' hs ⊢
    simp only [sm, sn, if_true] at hok hok' hs ⊢
    by_cases c : m.o < o.s.size + 1
    · simp [c] at hs
    · have c' : ¬ n.o < o.s.size + 1 := by omega
      simp only [c, c', if_false] at hok hok' hs ⊢
      refine ⟨⟨hok, hok', by trivial, by trivial, h1, h2, by simp; omega, h4, h5, h6, h7, h8⟩, by trivial, by trivial, fun ls => ?_⟩
      simp [MS.says, sm, sn, show (o.s.size : Int) + 1 ≤ m.o by omega, show (o.s.size : Int) + 1 ≤ n.o by omega]
  simp only [e6, if_false] at hok hok' hs ⊢
  exact ⟨h, by trivial, by trivial, by simp⟩

theorem wid_new {l m : Lims} (h1 : l.right = true) (h2 : (l.wide m).right = true) : Wid l.new (l.wide m).new := by
  refine ⟨ok_new h1, ok_new h2, rfl, rfl, by simp [Lims.new, MS.new], by simp [Lims.new, MS.new], by simp [Lims.new, MS.new], ?_, ?_, ?_, ?_, ?_⟩ <;> simp only [Lims.new, MS.new, Lims.wide, mx2] <;> split <;> omega

/-- The state ahead of a round. -/
structure InWider (w : World) (b b' : Nat) (wr : World) (m n : MS) (ls : List ByteArray) : Prop where
  hm : Mtr wr b m ls
  hn : Mtr wr b' n ls
  wid : Wid m n
  gm : ∀ g, m.ln.ownBlock = some g → w.heap.size ≤ g
  gn : ∀ g, n.ln.ownBlock = some g → w.heap.size ≤ g
  ap : ∀ g, m.ln.ownBlock = some g → n.ln.ownBlock ≠ some g
  k : Kp (fun i => w.heap.size ≤ i) w wr

theorem steps_kp (b : Nat) (m : MS) (w : World) (h : MAt w b m) (ok : MOk m) : Calls Try.prog 15 #[.pointer (some ⟨b, 0, none⟩)] w fun e w' => e = .returned (.int .i64 (m.lf - m.f)) ∧ Kp (fun _ => False) w w' :=
  (steps_any b m w h ok).mono fun _ _ ⟨he, n, hw⟩ => ⟨he, hw ▸ (Kp.refl _ _).drewN n⟩
theorem deep_kp (b : Nat) (m : MS) (w : World) (h : MAt w b m) (ok : MOk m) : Calls Try.prog 12 #[.pointer (some ⟨b, 0, none⟩)] w fun e w' => e = .returned (.int .i64 (m.ld - m.d)) ∧ Kp (fun _ => False) w w' :=
  (deep_any b m w h ok).mono fun _ _ ⟨he, n, hw⟩ => ⟨he, hw ▸ (Kp.refl _ _).drewN n⟩

set_option maxRecDepth 100000 in
set_option maxHeartbeats 4000000 in
theorem wider_any (l m : Lims) (ob off len cap : Nat) (os : Nat → Ste) (w : World) (ho : Stes w ob off len os) (hlen : len * 32 ≤ 140737488351232) :
    Calls Try.prog 6 #[l.val, m.val, .slice (some ⟨ob, off, none⟩) len cap] w fun e w' => e = .returned (.bool true) ∧ Below w.heap.size w w' := by
  have HO := Lib.hid ho
  have hob := ho.lt
  clear ho
  unfold Lims.val
  go_enter Try.func6, Try.ntmps6
  go_wp2_with fail
  refine (alive_any _).mono ?_
  rintro e w1 ⟨rfl, hk⟩
  have hl1 : Blk w1 w.heap.size 34 l.cells := Blk.below ((Blk.new rfl).alloc _) hk (by simp; omega)
  have hm1 : Blk w1 (w.heap.size + 1) 34 m.cells := Blk.below (Blk.new (by simp)) hk (by simp)
  have k1 : Kp (fun i => w.heap.size ≤ i) w w1 := (((Kp.refl _ w).alloc _).alloc _).trans (Kp.of_below hk)
  clear hk
  have c0 := hl1.cell 0 (.int .i64 l.f) rfl
  have c1 := hl1.cell 1 (.int .i64 l.d) rfl
  have c2 := hl1.cell 2 (.int .i64 l.c) rfl
  have c3 := hl1.cell 3 (.int .i64 l.s) rfl
  have c4 := hl1.cell 4 (.int .i64 l.o) rfl
  have d0 := hm1.cell 0 (.int .i64 m.f) rfl
  have d1 := hm1.cell 1 (.int .i64 m.d) rfl
  have d2 := hm1.cell 2 (.int .i64 m.c) rfl
  have d3 := hm1.cell 3 (.int .i64 m.s) rfl
  have d4 := hm1.cell 4 (.int .i64 m.o) rfl
  have hlt := hl1.lt
  go_upto_region 3 with fail
  go_cut [7] (fun s7 wc => s7 = .pointer (some ⟨w1.heap.size, 0, none⟩) ∧ wc = w1.alloc (.cells (l.wide m).cells 34))
  case first =>
    go_wp2_with fail
    all_goals go_meet
    all_goals (refine ⟨rfl, ?_⟩; simp (disch := omega) only [Lims.cells, Lims.wide, mx2, if_pos, if_neg])
  case rest =>
    obtain ⟨rfl, rfl⟩ := hcut
    have hw2 : Blk (w1.alloc (.cells (l.wide m).cells 34)) w1.heap.size 34 (l.wide m).cells := Blk.new rfl
    have hl2 : Blk (w1.alloc (.cells (l.wide m).cells 34)) w.heap.size 34 l.cells := hl1.alloc _
    have k2 : Kp (fun i => w.heap.size ≤ i) w (w1.alloc (.cells (l.wide m).cells 34)) := k1.alloc _
    have hbw : w.heap.size ≤ w1.heap.size := k1.size
    clear c0 c1 c2 c3 c4 d0 d1 d2 d3 d4 hl1 hm1 k1 hlt
    generalize w1.alloc (.cells (l.wide m).cells 34) = w2 at *
    generalize w1.heap.size = bw at *
    have c0 := hl2.cell 0 (.int .i64 l.f) rfl
    have c1 := hl2.cell 1 (.int .i64 l.d) rfl
    have c2 := hl2.cell 2 (.int .i64 l.c) rfl
    have c3 := hl2.cell 3 (.int .i64 l.s) rfl
    have c4 := hl2.cell 4 (.int .i64 l.o) rfl
    cases hr1 : l.right with
    | false =>
      go_wp2_with fail
      refine (new_no l.f l.d l.c l.s l.o _ hr1).mono ?_
      rintro e w3 ⟨rfl, hk⟩
      have k3 := k2.trans (Kp.of_below hk)
      have hw3 := hw2.below hk hw2.lt
      clear hk k2 hw2
      have g0 := hw3.cell 0 (.int .i64 (l.wide m).f) rfl
      have g1 := hw3.cell 1 (.int .i64 (l.wide m).d) rfl
      have g2 := hw3.cell 2 (.int .i64 (l.wide m).c) rfl
      have g3 := hw3.cell 3 (.int .i64 (l.wide m).s) rfl
      have g4 := hw3.cell 4 (.int .i64 (l.wide m).o) rfl
      cases hr2 : (l.wide m).right with
      | false =>
        go_wp2_with fail
        refine (new_no (l.wide m).f (l.wide m).d (l.wide m).c (l.wide m).s (l.wide m).o _ hr2).mono ?_
        rintro e w4 ⟨rfl, hk⟩
        have k4 := k3.trans (Kp.of_below hk)
        clear hk k3
        go_wp2_with fail
        refine (great_any ob off len cap os _ (HO.out.kp k4 (by simp; omega)) hlen).mono ?_
        rintro e w5 ⟨g, rfl, hk⟩
        have k5 := k4.trans (Kp.of_below hk)
        clear hk k4
        cases g
        all_goals (go_wp2; go_returns; exact ⟨rfl, k5.below (Nat.le_refl _) (fun _ _ => by omega)⟩)
      | true =>
        go_wp2_with fail
        refine (new_ok (l.wide m).f (l.wide m).d (l.wide m).c (l.wide m).s (l.wide m).o _ hr2).mono ?_
        rintro e w4 ⟨b', rfl, hb', hm', hk⟩
        have k4 := k3.trans (Kp.of_below hk)
        clear hk k3
        go_wp2_with fail
        refine (great_any ob off len cap os _ (HO.out.kp k4 (by simp; omega)) hlen).mono ?_
        rintro e w5 ⟨g, rfl, hk⟩
        have k5 := k4.trans (Kp.of_below hk)
        clear hk k4
        cases g
        all_goals (go_wp2; go_returns; exact ⟨rfl, k5.below (Nat.le_refl _) (fun _ _ => by omega)⟩)
    | true =>
      go_wp2_with fail
      refine (new_ok l.f l.d l.c l.s l.o _ hr1).mono ?_
      rintro e w3 ⟨b, rfl, hb, hmm, hk⟩
      have hbw2 : w.heap.size ≤ b := by have := k2.size; omega
      have k3 := k2.trans (Kp.of_below hk)
      have hw3 := hw2.below hk hw2.lt
      clear hk k2 hw2
      have g0 := hw3.cell 0 (.int .i64 (l.wide m).f) rfl
      have g1 := hw3.cell 1 (.int .i64 (l.wide m).d) rfl
      have g2 := hw3.cell 2 (.int .i64 (l.wide m).c) rfl
      have g3 := hw3.cell 3 (.int .i64 (l.wide m).s) rfl
      have g4 := hw3.cell 4 (.int .i64 (l.wide m).o) rfl
      cases hr2 : (l.wide m).right with
      | false =>
        go_wp2_with fail
        refine (new_no (l.wide m).f (l.wide m).d (l.wide m).c (l.wide m).s (l.wide m).o _ hr2).mono ?_
        rintro e w4 ⟨rfl, hk⟩
        have k4 := k3.trans (Kp.of_below hk)
        clear hk k3
        go_wp2_with fail
        refine (great_any ob off len cap os _ (HO.out.kp k4 (by simp; omega)) hlen).mono ?_
        rintro e w5 ⟨g, rfl, hk⟩
        have k5 := k4.trans (Kp.of_below hk)
        clear hk k4
        cases g
        all_goals (go_wp2; go_returns; exact ⟨rfl, k5.below (Nat.le_refl _) (fun _ _ => by omega)⟩)
      | true =>
        go_wp2_with fail
        refine (new_ok (l.wide m).f (l.wide m).d (l.wide m).c (l.wide m).s (l.wide m).o _ hr2).mono ?_
        rintro e w4 ⟨b', rfl, hb', hn, hk⟩
        have k4 := k3.trans (Kp.of_below hk)
        have hm4 : Mtr w4 b l.new [] := mtr_new (Blk.below hmm hk (Blk.lt hmm)) hr1
        have hn4 : Mtr w4 b' (l.wide m).new [] := mtr_new hn hr2
        have nbb : ¬ b = b' := by have := Blk.lt hmm; omega
        have hI : InWider w b b' w4 l.new (l.wide m).new [] := ⟨hm4, hn4, wid_new hr1 hr2, (fun g hg => by cases hg), (fun g hg => by cases hg), (fun g hg => by cases hg), k4⟩
        have hbw3 : w.heap.size ≤ b' := by have := k3.size; omega
        clear hk k3 hb hb' hmm hn hm4 hn4 c0 c1 c2 c3 c4 g0 g1 g2 g3 g4 hw3 hl2
        go_wp2_with fail
        refine (great_any ob off len cap os _ (HO.out.kp k4 (by simp; omega)) hlen).mono ?_
        rintro e w5 ⟨g, rfl, hk⟩
        have hI : InWider w b b' w5 l.new (l.wide m).new [] := ⟨hI.hm.kp (Kp.of_below hk (S := fun _ => False)) (fun h => h) (fun _ _ h => h), hI.hn.kp (Kp.of_below hk (S := fun _ => False)) (fun h => h) (fun _ _ h => h), hI.wid, hI.gm, hI.gn, hI.ap, hI.k.trans (Kp.of_below hk)⟩
        clear hk k4
        cases g with
        | true =>
          go_wp2
          go_returns
          exact ⟨rfl, hI.k.below (Nat.le_refl _) (fun _ _ => by omega)⟩
        | false =>
          go_wp2_with fail
          have hI0 := hI
          go_loopg [66] len (fun gk iv wr => ∃ (j : Nat) (m n : MS) (ls : List ByteArray), j + gk = len ∧ iv = .int .i64 j ∧ InWider w b b' wr m n ls)
          case atStart => exact ⟨0, _, _, _, by omega, rfl, hI⟩
          case round =>
            clear hI hI0
            obtain ⟨j, m, n, ls, hj, rfl, hI⟩ := hrel
            by_cases hlt : j < len
            · have hk := hI.k
              have h1 := (hk.cell (p := ⟨ob, off + j * 3, none⟩) hob (by simp; omega)).trans (HO.out.k j hlt)
              have h2 := (hk.cell (p := ⟨ob, off + j * 3 + 1, none⟩) hob (by simp; omega)).trans (HO.out.n j hlt)
              have h3 := (hk.cell (p := ⟨ob, off + j * 3 + 2, none⟩) hob (by simp; omega)).trans (HO.out.s j hlt)
              have hrr := HO.out.r j hlt
              have hws := hk.size
              generalize os j = o at *
              go_wp2_with fail
              have k4 : Kp (fun _ => False) wr (wr.alloc (.cells #[.int .i64 o.k, .int .i64 o.n, .string o.s] 44)) := (Kp.refl _ _).alloc _
              have hm4 := hI.hm.kp k4 (fun h => h) (fun _ _ h => h)
              have hn4 := hI.hn.kp k4 (fun h => h) (fun _ _ h => h)
              have hk4 := hk.trans' k4 (fun _ _ h => h.elim)
              have hO4 : Blk (wr.alloc (.cells #[.int .i64 o.k, .int .i64 o.n, .string o.s] 44)) wr.heap.size 44 #[.int .i64 o.k, .int .i64 o.n, .string o.s] := Blk.new rfl
              obtain ⟨_, _, hwid, hgm, hgn, hap, _⟩ := hI
              generalize wr.alloc (.cells #[.int .i64 o.k, .int .i64 o.n, .string o.s] 44) = w4 at *
              generalize wr.heap.size = bo at *
              clear k4 hk h1 h2 h3
              have nOm := hm4.ne
              have nO1 : ¬ bo = b := fun e => by subst e; have h1 := hm4.at'; unfold MAt Blk at h1; unfold Blk at hO4; rw [hO4] at h1; simp at h1
              have nO2 : ¬ bo = b' := fun e => by subst e; have h1 := hn4.at'; unfold MAt Blk at h1; unfold Blk at hO4; rw [hO4] at h1; simp at h1
              have nO3 : m.ln.ownBlock ≠ some bo := hm4.lines.ne hO4 (by decide)
              have nO4 : n.ln.ownBlock ≠ some bo := hn4.lines.ne hO4 (by decide)
              have nB1 : n.ln.ownBlock ≠ some b := hn4.lines.ne hm4.at' (by decide)
              have nB2 : m.ln.ownBlock ≠ some b' := hm4.lines.ne hn4.at' (by decide)
              have o0 := hO4.cell 0 (.int .i64 o.k) rfl
              have o1 := hO4.cell 1 (.int .i64 o.n) rfl
              have o2 := hO4.cell 2 (.string o.s) rfl
              have hm5 := hm4.kp ((Kp.refl (fun _ => False) _).drewN 1) (fun h => h) (fun _ _ h => h)
              have Hm5 := Lib.hid hm5; clear hm5
              have bo4 := hO4.lt
              refine wp_region_K (S := fun w' => w'.cell? ⟨bo, 0, none⟩ = some (.int .i64 o.k) ∧ w'.cell? ⟨bo, 1, none⟩ = some (.int .i64 o.n) ∧ w'.cell? ⟨bo, 2, none⟩ = some (.string o.s)) (K := 8) (by kernel_rfl) ?_
              have hHeld : (fun w' => w'.cell? ⟨bo, 0, none⟩ = some (.int .i64 o.k) ∧ w'.cell? ⟨bo, 1, none⟩ = some (.int .i64 o.n) ∧ w'.cell? ⟨bo, 2, none⟩ = some (.string o.s)) (World.drew _) := ⟨o0, o1, o2⟩
              refine wpK_take (i := 0) (v := ?_) rfl (by kernel_rfl) (fun _ _ _ h => h) (Or.inl ⟨by rfl, ?_⟩) hHeld ?_
              rotate_left
              · intro w hSw; (try dsimp only at hSw); go_simp; (try with_reducible rfl)
              simp only [Act.put, List.setIfInBounds_toArray, List.set_cons_zero, List.set_cons_succ]
              refine wpK_take (i := 1) (v := ?_) rfl (by kernel_rfl) (fun _ _ _ h => h) (Or.inl ⟨by rfl, ?_⟩) hHeld ?_
              rotate_left
              · intro w hSw; (try dsimp only at hSw); go_simp; (try with_reducible rfl)
              simp only [Act.put, List.setIfInBounds_toArray, List.set_cons_zero, List.set_cons_succ]
              refine wpK_take (i := 3) (v := ?_) rfl (by kernel_rfl) (fun _ _ _ h => h) (Or.inl ⟨by rfl, ?_⟩) hHeld ?_
              rotate_left
              · intro w hSw; (try dsimp only at hSw); go_simp; (try with_reducible rfl)
              simp only [Act.put, List.setIfInBounds_toArray, List.set_cons_zero, List.set_cons_succ]
              refine wpK_take (i := 4) (v := ?_) rfl (by kernel_rfl) (fun _ _ _ h => h) (Or.inl ⟨by rfl, ?_⟩) hHeld ?_
              rotate_left
              · intro w hSw; (try dsimp only at hSw); go_simp; (try with_reducible rfl)
              simp only [Act.put, List.setIfInBounds_toArray, List.set_cons_zero, List.set_cons_succ]
              refine wpK_one (i := 2) (by kernel_rfl) rfl (fun K' hK => ?_)
              go_simp
              go_wp2_with (go_at_call 21; refine (do_any b m ls o _ Hm5.out hrr).mono ?_; rintro e w5 ⟨v, rfl, hm6, k6, hs6⟩)
              refine hK.out _ _ (fun _ => ⟨(k6.cell (p := ⟨bo, 0, none⟩) bo4 (fun h => h.elim nO1 nO3)).trans hHeld.1, (k6.cell (p := ⟨bo, 1, none⟩) bo4 (fun h => h.elim nO1 nO3)).trans hHeld.2.1, (k6.cell (p := ⟨bo, 2, none⟩) bo4 (fun h => h.elim nO1 nO3)).trans hHeld.2.2⟩) (fun hHeld' => ?_)
              have hHeld := hHeld' (by decide)
              clear hHeld' hK K'
              have hn6 := (hn4.kp ((Kp.refl (fun _ => False) _).drewN 1) (fun h => h) (fun _ _ h => h)).kp k6 (fun h => h.elim (fun e => nbb e.symm) nB2) (fun g hg h => h.elim (fun e => nB1 (e ▸ hg)) (fun e => hap g e hg))
              have hk6 := hk4.drew.trans' k6 (by rintro i _ (h | h); subst h; exact hbw2; exact hgm i h)
              have bo6 := Nat.lt_of_lt_of_le bo4 k6.size
              have Hn6 := Lib.hid hn6; clear hn6
              refine wpK_one (i := 5) (by kernel_rfl) rfl (fun K' hK => ?_)
              go_simp
              go_wp2_with (go_at_call 21; refine (do_any b' n ls o _ Hn6.out hrr).mono ?_; rintro e w7 ⟨v', rfl, hn8, k8, hs8⟩)
              refine hK.out _ _ (fun _ => ⟨(k8.cell (p := ⟨bo, 0, none⟩) bo6 (fun h => h.elim nO2 nO4)).trans hHeld.1, (k8.cell (p := ⟨bo, 1, none⟩) bo6 (fun h => h.elim nO2 nO4)).trans hHeld.2.1, (k8.cell (p := ⟨bo, 2, none⟩) bo6 (fun h => h.elim nO2 nO4)).trans hHeld.2.2⟩) (fun hHeld' => ?_)
              have hHeld := hHeld' (by decide)
              clear hHeld' hK K'
              refine wpK_take (i := 6) (v := ?_) rfl (by kernel_rfl) (fun _ _ _ h => h) (Or.inl ⟨by rfl, ?_⟩) hHeld ?_
              rotate_left
              · intro w hSw; (try dsimp only at hSw); go_simp; (try with_reducible rfl)
              simp only [Act.put, List.setIfInBounds_toArray, List.set_cons_zero, List.set_cons_succ]
              refine wpK_take (i := 7) (v := ?_) rfl (by kernel_rfl) (fun _ _ _ h => h) (Or.inl ⟨by rfl, ?_⟩) hHeld ?_
              rotate_left
              · intro w hSw; (try dsimp only at hSw); go_simp; (try with_reducible rfl)
              simp only [Act.put, List.setIfInBounds_toArray, List.set_cons_zero, List.set_cons_succ]
              refine wpK_done (by kernel_rfl) ?_ _
              have nE1 : (m.act o v).ln.ownBlock ≠ some b' := hm6.lines.ne Hn6.out.at' (by decide)
              have hap6 : ∀ g, (m.act o v).ln.ownBlock = some g → n.ln.ownBlock ≠ some g := by
                intro g hg e
                rcases hs6 with h | h
                · rw [h] at hg; exact hap g hg e
                · have h1 := h g hg
                  have h2 := (hn4.lines.lt g e).2
                  have h3 : (w4.drewN 1).heap.size = w4.heap.size := rfl
                  omega
              have hm8 := hm6.kp k8 (fun h => h.elim nbb (hn4.lines.ne hm4.at' (by decide))) (fun g hg h => h.elim (fun e => nE1 (e ▸ hg)) (fun e => hap6 g hg e))
              have hk8 := hk6.trans' k8 (by rintro i _ (h | h); subst h; exact hbw3; exact hgn i h)
              have hgm8 : ∀ g, (m.act o v).ln.ownBlock = some g → w.heap.size ≤ g := by
                intro g hg
                rcases hs6 with h | h
                · rw [h] at hg; exact hgm g hg
                · have := h g hg; have := hk4.size; have : (w4.drewN 1).heap.size = w4.heap.size := rfl; omega
              have hgn8 : ∀ g, (n.act o v').ln.ownBlock = some g → w.heap.size ≤ g := by
                intro g hg
                rcases hs8 with h | h
                · rw [h] at hg; exact hgn g hg
                · have := h g hg; have := hk6.size; omega
              have hap8 : ∀ g, (m.act o v).ln.ownBlock = some g → (n.act o v').ln.ownBlock ≠ some g := by
                intro g hg e
                rcases hs8 with h | h
                · rw [h] at e; exact hap6 g hg e
                · have h1 := h g e; have h2 := (hm6.lines.lt g hg).2; omega
              have hwa := wid_act hwid o v v' hm8.ok hn8.ok
              clear hm6 k6 hs6 k8 hs8 hk6 hap6 nE1 hn4 hm4 hk4 hO4 hgm hgn hap Hm5 Hn6 bo4 bo6 hHeld nO1 nO2 nO3 nO4 nB1 nB2 nOm hwid o0 o1 o2 hws
              generalize hm' : m.act o v = m' at *
              generalize hn' : n.act o v' = n' at *
              generalize hr1' : m.ans o = r1 at *
              generalize hr2' : n.ans o = r2 at *
              clear hm' hn' hr1' hr2'
              go_wp2_with fail
              refine (stop_any b m' _ hm8.at').mono ?_
              rintro e w8 ⟨rfl, rfl⟩
              by_cases s0 : m'.st = 0
              · obtain ⟨hwid, rfl, rfl, hls⟩ := hwa s0
                rw [s0]
                rw [← hls] at hn8
                clear hwa hls s0
                generalize m.said o ls = ls' at *
                go_wp2_with fail
                refine (stop_any b' n' _ hn8.at').mono ?_
                rintro e w8 ⟨he, rfl⟩
                obtain rfl : e = .returned (.int .i64 0) := by rw [he]; exact ret_int hwid.sn
                clear he
                go_wp2_with fail
                refine (steps_kp b m' _ hm8.at' hm8.ok).mono ?_
                rintro e w9 ⟨rfl, q1⟩
                have hm9 := hm8.kp q1 (fun h => h) (fun _ _ h => h)
                have hn9 := hn8.kp q1 (fun h => h) (fun _ _ h => h)
                have hk9 := hk8.trans' q1 (fun _ _ h => h.elim)
                clear hm8 hn8 hk8 q1
                go_wp2_with fail
                refine (steps_kp b' n' _ hn9.at' hn9.ok).mono ?_
                rintro e w8 ⟨he, q1⟩
                obtain rfl : e = .returned (.int .i64 (m'.lf - m'.f)) := by rw [he]; exact ret_int hwid.f.symm
                have hm8 := hm9.kp q1 (fun h => h) (fun _ _ h => h)
                have hn8 := hn9.kp q1 (fun h => h) (fun _ _ h => h)
                have hk8 := hk9.trans' q1 (fun _ _ h => h.elim)
                clear he hm9 hn9 hk9 q1
                go_wp2_with fail
                refine (deep_kp b m' _ hm8.at' hm8.ok).mono ?_
                rintro e w9 ⟨rfl, q1⟩
                have hm9 := hm8.kp q1 (fun h => h) (fun _ _ h => h)
                have hn9 := hn8.kp q1 (fun h => h) (fun _ _ h => h)
                have hk9 := hk8.trans' q1 (fun _ _ h => h.elim)
                clear hm8 hn8 hk8 q1
                go_wp2_with fail
                refine (deep_kp b' n' _ hn9.at' hn9.ok).mono ?_
                rintro e w8 ⟨he, q1⟩
                obtain rfl : e = .returned (.int .i64 (m'.ld - m'.d)) := by rw [he]; exact ret_int hwid.d.symm
                have hm8 := hm9.kp q1 (fun h => h) (fun _ _ h => h)
                have hn8 := hn9.kp q1 (fun h => h) (fun _ _ h => h)
                have hk8 := hk9.trans' q1 (fun _ _ h => h.elim)
                clear he hm9 hn9 hk9 q1
                have hm9 := hm8
                have hn9 := hn8
                have hk9 := hk8
                clear hm8 hn8 hk8
                go_wp2_with fail
                refine (lines_any b m' ls' _ hm9.at' hm9.lines hm9.len).mono ?_
                rintro e wA ⟨va, rfl, hLa, hkA, hna⟩
                have hmA := hm9.kp (Kp.of_below hkA (S := fun _ => False)) (fun h => h) (fun _ _ h => h)
                have hnA := hn9.kp (Kp.of_below hkA (S := fun _ => False)) (fun h => h) (fun _ _ h => h)
                have hkk := hk9.trans (Kp.of_below hkA)
                clear hm9 hn9 hk9 hkA hna
                go_wp2_with fail
                refine (lines_any b' n' ls' _ hnA.at' hnA.lines hnA.len).mono ?_
                rintro e wB ⟨vb, rfl, hLb, hkB, hnb⟩
                have hmB := hmA.kp (Kp.of_below hkB (S := fun _ => False)) (fun h => h) (fun _ _ h => h)
                have hnB := hnA.kp (Kp.of_below hkB (S := fun _ => False)) (fun h => h) (fun _ _ h => h)
                have hkB' := hkk.trans (Kp.of_below hkB)
                have hLa' := hLa.kp (Kp.of_below hkB (S := fun _ => False)) (fun _ _ h => h)
                clear hmA hnA hkk hkB hnb hLa
                go_wp2_with fail
                refine (linesEq_any va vb ls' ls' _ hLa'.strs hLb.strs hmB.len hmB.len).mono ?_
                rintro e wC ⟨he, q5, rfl⟩
                obtain rfl : e = .returned (.bool true) := by rw [he]; simp
                have HI : InWider w b b' (wB.drewN q5) m' n' ls' := ⟨hmB.kp ((Kp.refl (fun _ => False) _).drewN _) (fun h => h) (fun _ _ h => h), hnB.kp ((Kp.refl (fun _ => False) _).drewN _) (fun h => h) (fun _ _ h => h), hwid, hgm8, hgn8, hap8, hkB'.drewN _⟩
                clear hmB hnB hkB' hLa' hLb he hgm8 hgn8 hap8 hwid
                have HI' := Lib.hid HI; clear HI
                go_wp2
                go_roundg (gk - 1)
                case measure => omega
                case rel => exact ⟨j + 1, m', n', ls', by omega, by go_num, HI'.out⟩
              · have s1 : (m'.st != 0) = true := by simpa using s0
                clear hwa s0
                go_wp2
                go_returns
                exact ⟨rfl, hk8.below (Nat.le_refl _) (fun _ _ => by omega)⟩
            · go_wp2
              go_returns
              exact ⟨rfl, hI.k.below (Nat.le_refl _) (fun _ _ => by omega)⟩

set_option maxRecDepth 100000 in
set_option maxHeartbeats 4000000 in
theorem wider_none (l m : Lims) (sa : Option Addr) (len cap : Nat) (w : World) (hlen : len ≤ 0) :
    Calls Try.prog 6 #[l.val, m.val, .slice sa len cap] w fun e w' => e = .returned (.bool true) ∧ Below w.heap.size w w' := by
  obtain rfl : len = 0 := by omega
  unfold Lims.val
  go_enter Try.func6, Try.ntmps6
  go_wp2_with fail
  refine (alive_any _).mono ?_
  rintro e w1 ⟨rfl, hk⟩
  have hl1 : Blk w1 w.heap.size 34 l.cells := Blk.below ((Blk.new rfl).alloc _) hk (by simp; omega)
  have hm1 : Blk w1 (w.heap.size + 1) 34 m.cells := Blk.below (Blk.new (by simp)) hk (by simp)
  have k1 : Kp (fun i => w.heap.size ≤ i) w w1 := (((Kp.refl _ w).alloc _).alloc _).trans (Kp.of_below hk)
  clear hk
  have c0 := hl1.cell 0 (.int .i64 l.f) rfl
  have c1 := hl1.cell 1 (.int .i64 l.d) rfl
  have c2 := hl1.cell 2 (.int .i64 l.c) rfl
  have c3 := hl1.cell 3 (.int .i64 l.s) rfl
  have c4 := hl1.cell 4 (.int .i64 l.o) rfl
  have d0 := hm1.cell 0 (.int .i64 m.f) rfl
  have d1 := hm1.cell 1 (.int .i64 m.d) rfl
  have d2 := hm1.cell 2 (.int .i64 m.c) rfl
  have d3 := hm1.cell 3 (.int .i64 m.s) rfl
  have d4 := hm1.cell 4 (.int .i64 m.o) rfl
  have hlt := hl1.lt
  go_upto_region 3 with fail
  go_cut [7] (fun s7 wc => s7 = .pointer (some ⟨w1.heap.size, 0, none⟩) ∧ wc = w1.alloc (.cells (l.wide m).cells 34))
  case first =>
    go_wp2_with fail
    all_goals go_meet
    all_goals (refine ⟨rfl, ?_⟩; simp (disch := omega) only [Lims.cells, Lims.wide, mx2, if_pos, if_neg])
  case rest =>
    obtain ⟨rfl, rfl⟩ := hcut
    have hw2 : Blk (w1.alloc (.cells (l.wide m).cells 34)) w1.heap.size 34 (l.wide m).cells := Blk.new rfl
    have hl2 : Blk (w1.alloc (.cells (l.wide m).cells 34)) w.heap.size 34 l.cells := hl1.alloc _
    have k2 : Kp (fun i => w.heap.size ≤ i) w (w1.alloc (.cells (l.wide m).cells 34)) := k1.alloc _
    have hbw : w.heap.size ≤ w1.heap.size := k1.size
    clear c0 c1 c2 c3 c4 d0 d1 d2 d3 d4 hl1 hm1 k1 hlt
    generalize w1.alloc (.cells (l.wide m).cells 34) = w2 at *
    generalize w1.heap.size = bw at *
    have c0 := hl2.cell 0 (.int .i64 l.f) rfl
    have c1 := hl2.cell 1 (.int .i64 l.d) rfl
    have c2 := hl2.cell 2 (.int .i64 l.c) rfl
    have c3 := hl2.cell 3 (.int .i64 l.s) rfl
    have c4 := hl2.cell 4 (.int .i64 l.o) rfl
    cases hr1 : l.right with
    | false =>
      go_wp2_with fail
      refine (new_no l.f l.d l.c l.s l.o _ hr1).mono ?_
      rintro e w3 ⟨rfl, hk⟩
      have k3 := k2.trans (Kp.of_below hk)
      have hw3 := hw2.below hk hw2.lt
      clear hk k2 hw2
      have g0 := hw3.cell 0 (.int .i64 (l.wide m).f) rfl
      have g1 := hw3.cell 1 (.int .i64 (l.wide m).d) rfl
      have g2 := hw3.cell 2 (.int .i64 (l.wide m).c) rfl
      have g3 := hw3.cell 3 (.int .i64 (l.wide m).s) rfl
      have g4 := hw3.cell 4 (.int .i64 (l.wide m).o) rfl
      cases hr2 : (l.wide m).right with
      | false =>
        go_wp2_with fail
        refine (new_no (l.wide m).f (l.wide m).d (l.wide m).c (l.wide m).s (l.wide m).o _ hr2).mono ?_
        rintro e w4 ⟨rfl, hk⟩
        have k4 := k3.trans (Kp.of_below hk)
        clear hk k3
        go_wp2_with fail
        refine (great_nil sa 0 cap _ (Nat.le_refl _)).mono ?_
        rintro e w5 ⟨g, rfl, hk⟩
        have k5 := k4.trans (Kp.of_below hk)
        clear hk k4
        cases g
        all_goals (go_wp2; go_returns; exact ⟨rfl, k5.below (Nat.le_refl _) (fun _ _ => by omega)⟩)
      | true =>
        go_wp2_with fail
        refine (new_ok (l.wide m).f (l.wide m).d (l.wide m).c (l.wide m).s (l.wide m).o _ hr2).mono ?_
        rintro e w4 ⟨b', rfl, hb', hm', hk⟩
        have k4 := k3.trans (Kp.of_below hk)
        clear hk k3
        go_wp2_with fail
        refine (great_nil sa 0 cap _ (Nat.le_refl _)).mono ?_
        rintro e w5 ⟨g, rfl, hk⟩
        have k5 := k4.trans (Kp.of_below hk)
        clear hk k4
        cases g
        all_goals (go_wp2; go_returns; exact ⟨rfl, k5.below (Nat.le_refl _) (fun _ _ => by omega)⟩)
    | true =>
      go_wp2_with fail
      refine (new_ok l.f l.d l.c l.s l.o _ hr1).mono ?_
      rintro e w3 ⟨b, rfl, hb, hmm, hk⟩
      have hbw2 : w.heap.size ≤ b := by have := k2.size; omega
      have k3 := k2.trans (Kp.of_below hk)
      have hw3 := hw2.below hk hw2.lt
      clear hk k2 hw2
      have g0 := hw3.cell 0 (.int .i64 (l.wide m).f) rfl
      have g1 := hw3.cell 1 (.int .i64 (l.wide m).d) rfl
      have g2 := hw3.cell 2 (.int .i64 (l.wide m).c) rfl
      have g3 := hw3.cell 3 (.int .i64 (l.wide m).s) rfl
      have g4 := hw3.cell 4 (.int .i64 (l.wide m).o) rfl
      cases hr2 : (l.wide m).right with
      | false =>
        go_wp2_with fail
        refine (new_no (l.wide m).f (l.wide m).d (l.wide m).c (l.wide m).s (l.wide m).o _ hr2).mono ?_
        rintro e w4 ⟨rfl, hk⟩
        have k4 := k3.trans (Kp.of_below hk)
        clear hk k3
        go_wp2_with fail
        refine (great_nil sa 0 cap _ (Nat.le_refl _)).mono ?_
        rintro e w5 ⟨g, rfl, hk⟩
        have k5 := k4.trans (Kp.of_below hk)
        clear hk k4
        cases g
        all_goals (go_wp2; go_returns; exact ⟨rfl, k5.below (Nat.le_refl _) (fun _ _ => by omega)⟩)
      | true =>
        go_wp2_with fail
        refine (new_ok (l.wide m).f (l.wide m).d (l.wide m).c (l.wide m).s (l.wide m).o _ hr2).mono ?_
        rintro e w4 ⟨b', rfl, hb', hn, hk⟩
        have k4 := k3.trans (Kp.of_below hk)
        have hm4 : Mtr w4 b l.new [] := mtr_new (Blk.below hmm hk (Blk.lt hmm)) hr1
        have hn4 : Mtr w4 b' (l.wide m).new [] := mtr_new hn hr2
        have nbb : ¬ b = b' := by have := Blk.lt hmm; omega
        have hI : InWider w b b' w4 l.new (l.wide m).new [] := ⟨hm4, hn4, wid_new hr1 hr2, (fun g hg => by cases hg), (fun g hg => by cases hg), (fun g hg => by cases hg), k4⟩
        have hbw3 : w.heap.size ≤ b' := by have := k3.size; omega
        clear hk k3 hb hb' hmm hn hm4 hn4 c0 c1 c2 c3 c4 g0 g1 g2 g3 g4 hw3 hl2
        go_wp2_with fail
        refine (great_nil sa 0 cap _ (Nat.le_refl _)).mono ?_
        rintro e w5 ⟨g, rfl, hk⟩
        have hI : InWider w b b' w5 l.new (l.wide m).new [] := ⟨hI.hm.kp (Kp.of_below hk (S := fun _ => False)) (fun h => h) (fun _ _ h => h), hI.hn.kp (Kp.of_below hk (S := fun _ => False)) (fun h => h) (fun _ _ h => h), hI.wid, hI.gm, hI.gn, hI.ap, hI.k.trans (Kp.of_below hk)⟩
        clear hk k4
        cases g with
        | true =>
          go_wp2
          go_returns
          exact ⟨rfl, hI.k.below (Nat.le_refl _) (fun _ _ => by omega)⟩
        | false =>
          go_wp2_with fail
          go_rounds 1
          go_returns
          exact ⟨rfl, hI.k.below (Nat.le_refl _) (fun _ _ => by omega)⟩
end Go.Proofs.Ytmngeljbcnifgaa
