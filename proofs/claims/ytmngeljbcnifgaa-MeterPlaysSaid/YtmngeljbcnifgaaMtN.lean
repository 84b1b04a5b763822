/- selkielaw19.MeterPlays answers true: the walk. -/
import Derived.Test.YtmngeljbcnifgaaMtM
namespace Go.Proofs.Ytmngeljbcnifgaa
set_option linter.unusedSimpArgs false
set_option linter.unusedVariables false
open Go.RowKit

theorem steps_kq (b : Nat) (m : MS) (w : World) (h : MAt w b m) (ok : MOk m) : Calls Try.prog 15 #[.pointer (some ⟨b, 0, none⟩)] w fun e w' => e = .returned (.int .i64 (m.lf - m.f)) ∧ Kp (fun _ => False) w w' :=
  (steps_any b m w h ok).mono fun _ _ ⟨he, n, hw⟩ => ⟨he, hw ▸ (Kp.refl _ _).drewN n⟩
theorem deep_kq (b : Nat) (m : MS) (w : World) (h : MAt w b m) (ok : MOk m) : Calls Try.prog 12 #[.pointer (some ⟨b, 0, none⟩)] w fun e w' => e = .returned (.int .i64 (m.ld - m.d)) ∧ Kp (fun _ => False) w w' :=
  (deep_any b m w h ok).mono fun _ _ ⟨he, n, hw⟩ => ⟨he, hw ▸ (Kp.refl _ _).drewN n⟩

/-- The state ahead of a round. -/
structure InPlays (w : World) (b bx : Nat) (wr : World) (m : MS) (v : Value) (ls : List ByteArray) : Prop where
  hm : Mtr wr b m ls
  hx : XAt wr bx m v
  hl : LAt wr v ls
  gm : ∀ g, m.ln.ownBlock = some g → w.heap.size ≤ g
  gv : ∀ g, v.ownBlock = some g → w.heap.size ≤ g
  ap : ∀ g, m.ln.ownBlock = some g → v.ownBlock ≠ some g
  k : Kp (fun i => w.heap.size ≤ i) w wr

theorem sz_mem {s : ByteArray} : ∀ {ls : List ByteArray}, s ∈ ls → s.size + 1 ≤ sz ls
  | a :: r, h => by
    simp only [sz, List.map_cons, List.sum_cons]
    rcases List.mem_cons.1 h with rfl | h
    · omega
    · have := sz_mem h
      simp only [sz] at this
      omega
/-- The steps' numbers fit their kind. -/
def NBound (len : Nat) (os : Nat → Ste) : Prop := ∀ j, j < len → (os j).n ≤ 9223372036854775807

set_option maxRecDepth 100000 in
set_option maxHeartbeats 4000000 in
theorem plays_any (l : Lims) (ob off len cap : Nat) (os : Nat → Ste) (w : World) (ho : Stes w ob off len os) (hnb : NBound len os) (hlen : len * 32 ≤ 140737488351232) (hr : l.right = true) :
    Calls Try.prog 4 #[l.val, .slice (some ⟨ob, off, none⟩) len cap] w fun e w' => e = .returned (.bool true) ∧ Below w.heap.size w w' := by
  unfold Lims.val
  have HO := Lib.hid ho
  have HNB := Lib.hid hnb; clear hnb
  have hob := ho.lt
  clear ho
  go_enter Try.func4, Try.ntmps4
  go_wp2_with fail
  refine (alive_any _).mono ?_
  rintro e w1 ⟨rfl, hk⟩
  have hl1 : Blk w1 w.heap.size 34 l.cells := (Blk.new rfl).below hk (by simp)
  have k1 : Kp (fun i => w.heap.size ≤ i) w w1 := ((Kp.refl _ w).alloc _).trans (Kp.of_below hk)
  clear hk
  go_wp2_with fail
  refine (great_any ob off len cap os _ (HO.out.kp k1 (by simp; omega)) hlen).mono ?_
  rintro e w2 ⟨g, rfl, hk⟩
  have hl2 := hl1.below hk hl1.lt
  have k2 := k1.trans (Kp.of_below hk)
  clear hk hl1 k1
  have hs2 := k2.size
  cases g with
  | true =>
    go_wp2
    go_returns
    exact ⟨rfl, k2.below (Nat.le_refl _) (fun _ _ => by omega)⟩
  | false =>
    have c0 := hl2.cell 0 (.int .i64 l.f) rfl
    have c1 := hl2.cell 1 (.int .i64 l.d) rfl
    have c2 := hl2.cell 2 (.int .i64 l.c) rfl
    have c3 := hl2.cell 3 (.int .i64 l.s) rfl
    have c4 := hl2.cell 4 (.int .i64 l.o) rfl
    go_wp2_with fail
    refine (new_ok l.f l.d l.c l.s l.o _ hr).mono ?_
    rintro e w3 ⟨b, rfl, hb, hm, hk⟩
    have hl3 := hl2.below hk hl2.lt
    have k3 := k2.trans (Kp.of_below hk)
    have hbw : w.heap.size ≤ b := by omega
    clear c0 c1 c2 c3 c4 hk hl2 k2 hb hs2
    have c0 := hl3.cell 0 (.int .i64 l.f) rfl
    have c1 := hl3.cell 1 (.int .i64 l.d) rfl
    have c2 := hl3.cell 2 (.int .i64 l.c) rfl
    have c3 := hl3.cell 3 (.int .i64 l.s) rfl
    have c4 := hl3.cell 4 (.int .i64 l.o) rfl
    go_wp2_with fail
    refine (rnew_ok l.f l.d l.c l.s l.o _ hr).mono ?_
    rintro e w4 ⟨bx, rfl, hbx, hx, hk⟩
    have hl4 := hl3.below hk hl3.lt
    have hm4 : Mtr w4 b l.new [] := mtr_new (Blk.below hm hk (Blk.lt hm)) hr
    have nbx : ¬ b = bx := by have := Blk.lt hm; omega
    have hbw2 : w.heap.size ≤ bx := by have := k3.size; omega
    have k4 := k3.trans (Kp.of_below hk)
    have hI : InPlays w b bx w4 l.new (.slice none 0 0) [] := ⟨hm4, hx, World.ownsRow_nil _ _ _ _, (fun g hg => by cases hg), (fun g hg => by cases hg), (fun g hg => by cases hg), k4⟩
    clear c0 c1 c2 c3 c4 hk hl3 k3 hbx hx hm4 hm k4
    have hlw := hl4.lt
    go_wp2_with fail
    refine wp_region_K (S := fun w' => Blk w' w.heap.size 34 l.cells) (K := 10) (by kernel_rfl) ?_
    have hHeld : (fun w' => Blk w' w.heap.size 34 l.cells) (World.drew _) := hl4
    refine wpK_take (i := 0) (v := ?_) rfl (by kernel_rfl) (fun _ _ _ h => h) (Or.inl ⟨by kernel_rfl, ?_⟩) hHeld ?_
    rotate_left
    · intro w hSw; (try dsimp only at hSw); have q0 := hSw.cell 0 (.int .i64 l.f) rfl; have q1 := hSw.cell 1 (.int .i64 l.d) rfl; have q2 := hSw.cell 2 (.int .i64 l.c) rfl; have q3 := hSw.cell 3 (.int .i64 l.s) rfl; have q4 := hSw.cell 4 (.int .i64 l.o) rfl; go_simp; (try with_reducible rfl)
    simp only [Act.put, List.setIfInBounds_toArray, List.set_cons_zero, List.set_cons_succ]
    refine wpK_take (i := 1) (v := ?_) rfl (by kernel_rfl) (fun _ _ _ h => h) (Or.inl ⟨by kernel_rfl, ?_⟩) hHeld ?_
    rotate_left
    · intro w hSw; (try dsimp only at hSw); have q0 := hSw.cell 0 (.int .i64 l.f) rfl; have q1 := hSw.cell 1 (.int .i64 l.d) rfl; have q2 := hSw.cell 2 (.int .i64 l.c) rfl; have q3 := hSw.cell 3 (.int .i64 l.s) rfl; have q4 := hSw.cell 4 (.int .i64 l.o) rfl; go_simp; (try with_reducible rfl)
    simp only [Act.put, List.setIfInBounds_toArray, List.set_cons_zero, List.set_cons_succ]
    refine wpK_take (i := 2) (v := ?_) rfl (by kernel_rfl) (fun _ _ _ h => h) (Or.inl ⟨by kernel_rfl, ?_⟩) hHeld ?_
    rotate_left
    · intro w hSw; (try dsimp only at hSw); have q0 := hSw.cell 0 (.int .i64 l.f) rfl; have q1 := hSw.cell 1 (.int .i64 l.d) rfl; have q2 := hSw.cell 2 (.int .i64 l.c) rfl; have q3 := hSw.cell 3 (.int .i64 l.s) rfl; have q4 := hSw.cell 4 (.int .i64 l.o) rfl; go_simp; (try with_reducible rfl)
    simp only [Act.put, List.setIfInBounds_toArray, List.set_cons_zero, List.set_cons_succ]
    refine wpK_take (i := 3) (v := ?_) rfl (by kernel_rfl) (fun _ _ _ h => h) (Or.inl ⟨by kernel_rfl, ?_⟩) hHeld ?_
    rotate_left
    · intro w hSw; (try dsimp only at hSw); have q0 := hSw.cell 0 (.int .i64 l.f) rfl; have q1 := hSw.cell 1 (.int .i64 l.d) rfl; have q2 := hSw.cell 2 (.int .i64 l.c) rfl; have q3 := hSw.cell 3 (.int .i64 l.s) rfl; have q4 := hSw.cell 4 (.int .i64 l.o) rfl; go_simp; (try with_reducible rfl)
    simp only [Act.put, List.setIfInBounds_toArray, List.set_cons_zero, List.set_cons_succ]
    refine wpK_take (i := 4) (v := ?_) rfl (by kernel_rfl) (fun _ _ _ h => h) (Or.inl ⟨by kernel_rfl, ?_⟩) hHeld ?_
    rotate_left
    · intro w hSw; (try dsimp only at hSw); have q0 := hSw.cell 0 (.int .i64 l.f) rfl; have q1 := hSw.cell 1 (.int .i64 l.d) rfl; have q2 := hSw.cell 2 (.int .i64 l.c) rfl; have q3 := hSw.cell 3 (.int .i64 l.s) rfl; have q4 := hSw.cell 4 (.int .i64 l.o) rfl; go_simp; (try with_reducible rfl)
    simp only [Act.put, List.setIfInBounds_toArray, List.set_cons_zero, List.set_cons_succ]
    refine wpK_take (i := 6) (v := ?_) rfl (by kernel_rfl) (fun _ _ _ h => h) (Or.inl ⟨by kernel_rfl, ?_⟩) hHeld ?_
    rotate_left
    · intro w hSw; (try dsimp only at hSw); have q0 := hSw.cell 0 (.int .i64 l.f) rfl; have q1 := hSw.cell 1 (.int .i64 l.d) rfl; have q2 := hSw.cell 2 (.int .i64 l.c) rfl; have q3 := hSw.cell 3 (.int .i64 l.s) rfl; have q4 := hSw.cell 4 (.int .i64 l.o) rfl; go_simp; (try with_reducible rfl)
    simp only [Act.put, List.setIfInBounds_toArray, List.set_cons_zero, List.set_cons_succ]
    refine wpK_one (i := 5) (by kernel_rfl) rfl (fun K' hK => ?_)
    go_simp
    go_wp2_with (go_at_call 18; refine (right_any _ _ _ _ _ _).mono ?_; rintro e w5 ⟨rfl, hk5⟩)
    refine hK.out _ _ (fun _ => Blk.below hHeld hk5 (Blk.lt hHeld)) (fun hHeld' => ?_)
    have hHeld := hHeld' (by decide)
    clear hHeld' hK K'
    refine wpK_one (i := 7) (by kernel_rfl) rfl (fun K' hK => ?_)
    go_simp
    go_wp2_with (go_at_call 19; refine (rright_any _ _ _ _ _ _).mono ?_; rintro e w6 ⟨rfl, rfl⟩)
    refine hK.out _ _ (fun _ => Blk.alloc hHeld _) (fun hHeld' => ?_)
    have hHeld := hHeld' (by decide)
    clear hHeld' hK K'
    refine wpK_take (i := 8) (v := ?_) rfl (by kernel_rfl) (fun _ _ _ h => h) (Or.inl ⟨by kernel_rfl, ?_⟩) hHeld ?_
    rotate_left
    · intro w hSw; (try dsimp only at hSw); have q0 := hSw.cell 0 (.int .i64 l.f) rfl; have q1 := hSw.cell 1 (.int .i64 l.d) rfl; have q2 := hSw.cell 2 (.int .i64 l.c) rfl; have q3 := hSw.cell 3 (.int .i64 l.s) rfl; have q4 := hSw.cell 4 (.int .i64 l.o) rfl; go_simp; (try with_reducible rfl)
    simp only [Act.put, List.setIfInBounds_toArray, List.set_cons_zero, List.set_cons_succ]
    refine wpK_take (i := 9) (v := ?_) rfl (by kernel_rfl) (fun _ _ _ h => h) (Or.inl ⟨by kernel_rfl, ?_⟩) hHeld ?_
    rotate_left
    · intro w hSw; (try dsimp only at hSw); have q0 := hSw.cell 0 (.int .i64 l.f) rfl; have q1 := hSw.cell 1 (.int .i64 l.d) rfl; have q2 := hSw.cell 2 (.int .i64 l.c) rfl; have q3 := hSw.cell 3 (.int .i64 l.s) rfl; have q4 := hSw.cell 4 (.int .i64 l.o) rfl; go_simp; (try with_reducible rfl)
    simp only [Act.put, List.setIfInBounds_toArray, List.set_cons_zero, List.set_cons_succ]
    refine wpK_done (by kernel_rfl) ?_ _
    have kq : Kp (fun _ => False) w4 (w5.alloc (.cells #[.int .i64 l.f, .int .i64 l.d, .int .i64 l.c, .int .i64 l.s, .int .i64 l.o] 40)) := ((Kp.refl _ _).drew.trans (Kp.of_below hk5)).alloc _
    have hI : InPlays w b bx (w5.alloc (.cells #[.int .i64 l.f, .int .i64 l.d, .int .i64 l.c, .int .i64 l.s, .int .i64 l.o] 40)) l.new (.slice none 0 0) [] := ⟨hI.hm.kp kq (fun h => h) (fun _ _ h => h), Blk.kp hI.hx kq (fun h => h), hI.hl.kp kq (fun _ _ h => h), hI.gm, hI.gv, hI.ap, hI.k.trans' kq (fun _ _ h => h.elim)⟩
    clear kq hk5 hHeld hl4 hlw
    generalize w5.alloc (.cells #[.int .i64 l.f, .int .i64 l.d, .int .i64 l.c, .int .i64 l.s, .int .i64 l.o] 40) = w6 at *
    go_wp2_with fail
    have hI0 := hI
    go_loopg [43] len (fun gk iv wr => ∃ (j : Nat) (m : MS) (v : Value) (ls : List ByteArray), j + gk = len ∧ iv = .int .i64 j ∧ InPlays w b bx wr m v ls)
    case atStart => exact ⟨0, _, _, _, by omega, rfl, hI⟩
    case round =>
      clear hI hI0
      obtain ⟨j, m, v, ls, hj, rfl, hI⟩ := hrel
      by_cases hlt : j < len
      · have hk := hI.k
        have h1 := (hk.cell (p := ⟨ob, off + j * 3, none⟩) hob (by simp; omega)).trans (HO.out.k j hlt)
        have h2 := (hk.cell (p := ⟨ob, off + j * 3 + 1, none⟩) hob (by simp; omega)).trans (HO.out.n j hlt)
        have h3 := (hk.cell (p := ⟨ob, off + j * 3 + 2, none⟩) hob (by simp; omega)).trans (HO.out.s j hlt)
        have hrr := HO.out.r j hlt
        have hnn := HNB.out j hlt
        have HNN := Lib.hid hnn; clear hnn
        have hws := hk.size
        generalize os j = o at *
        go_wp2_with fail
        have k4 : Kp (fun _ => False) wr (wr.alloc (.cells #[.int .i64 o.k, .int .i64 o.n, .string o.s] 44)) := (Kp.refl _ _).alloc _
        have hO4 : Blk (wr.alloc (.cells #[.int .i64 o.k, .int .i64 o.n, .string o.s] 44)) wr.heap.size 44 #[.int .i64 o.k, .int .i64 o.n, .string o.s] := Blk.new rfl
        have hI4 : InPlays w b bx (wr.alloc (.cells #[.int .i64 o.k, .int .i64 o.n, .string o.s] 44)) m v ls := ⟨hI.hm.kp k4 (fun h => h) (fun _ _ h => h), Blk.kp hI.hx k4 (fun h => h), hI.hl.kp k4 (fun _ _ h => h), hI.gm, hI.gv, hI.ap, hI.k.trans' k4 (fun _ _ h => h.elim)⟩
        have nO1 : ¬ b = wr.heap.size := by have := hI.hm.at'.lt; omega
        have nO2 : ¬ bx = wr.heap.size := by have := Blk.lt hI.hx; omega
        generalize wr.alloc (.cells #[.int .i64 o.k, .int .i64 o.n, .string o.s] 44) = w4 at *
        generalize wr.heap.size = bo at *
        clear k4 hk h1 h2 h3 hI
        refine (lines_any b m ls _ hI4.hm.at' hI4.hm.lines hI4.hm.len).mono ?_
        rintro e w5 ⟨va, rfl, hLa, hk5, hna⟩
        have kq : Kp (fun _ => False) w4 w5 := Kp.of_below hk5
        have hO5 := hO4.kp kq (fun h => h)
        have hI5 : InPlays w b bx w5 m v ls := ⟨hI4.hm.kp kq (fun h => h) (fun _ _ h => h), Blk.kp hI4.hx kq (fun h => h), hI4.hl.kp kq (fun _ _ h => h), hI4.gm, hI4.gv, hI4.ap, hI4.k.trans' kq (fun _ _ h => h.elim)⟩
        have na1 : ∀ g, va.ownBlock = some g → g ≠ bo ∧ g ≠ b ∧ g ≠ bx ∧ m.ln.ownBlock ≠ some g ∧ v.ownBlock ≠ some g ∧ w.heap.size ≤ g := by
          intro g hg
          have h1 := hna g hg
          refine ⟨?_, ?_, ?_, ?_, ?_, ?_⟩
          · have := hO4.lt; omega
          · have := hI4.hm.at'.lt; omega
          · have := Blk.lt hI4.hx; omega
          · intro e; have := (hI4.hm.lines.lt g e).2; omega
          · intro e; have := (hI4.hl.lt g e).2; omega
          · have := hI4.k.size; omega
        clear hk5 kq hO4 hI4 hna
        have hlen5 := hI5.hm.len
        have hsz5 : ∀ s ∈ ls, s.size ≤ 1000000 := by
          intro s hs
          have h1 := hI5.hm.size; have h2 := hI5.hm.ok.o0; have h3 := hI5.hm.ok.o1; have h4 := hI5.hm.ok.o2
          have := sz_mem hs
          omega
        rcases hLa.2 with ⟨rfl, h0⟩ | ⟨g, cap', cur, rfl, _, _, _⟩
        · have HL0 := Lib.hid h0
          simp only [h0] at *
          go_wp2_with fail
          refine wp_loop_rounds 1 ?_
          rw [rounds_succ]
          have hI6 := hI5
          have hO6 := hO5
          clear hI5 hO5 hsz5 na1 hLa h0 hlen5
          go_wp2_with fail
          have hm6 := hI6.hm
          have hx6 := hI6.hx
          have hl6 := hI6.hl
          have gm := hI6.gm
          have gv := hI6.gv
          have ap := hI6.ap
          have hk6 := hI6.k
          clear hI6
          have nO3 : m.ln.ownBlock ≠ some bo := hm6.lines.ne hO6 (by decide)
          have nO4 : v.ownBlock ≠ some bo := hl6.ne hO6 (by decide)
          have nB1 : v.ownBlock ≠ some b := hl6.ne hm6.at' (by decide)
          have nB2 : m.ln.ownBlock ≠ some bx := hm6.lines.ne hx6 (by decide)
          have Hm6 := Lib.hid (hm6.kp ((Kp.refl (fun _ => False) _).drewN 1) (fun h => h) (fun _ _ h => h))
          have Hx6 := Lib.hid (Blk.kp hx6 ((Kp.refl (fun _ => False) _).drewN 1) (fun h => h))
          have Hl6 := Lib.hid (hl6.kp ((Kp.refl (fun _ => False) _).drewN 1) (fun _ _ h => h))
          have Hk6 := Lib.hid (hk6.drewN 1)
          have hm6ok := hm6.ok
          have hm6len := hm6.len
          clear hm6 hx6 hl6 hk6
          refine wp_region_K (S := fun w' => Blk w' bo 44 #[.int .i64 o.k, .int .i64 o.n, .string o.s]) (K := 44) (by kernel_rfl) ?_
          have hHeld : (fun w' => Blk w' bo 44 #[.int .i64 o.k, .int .i64 o.n, .string o.s]) (World.drew _) := hO6
          refine wpK_take (i := 0) (v := ?_) rfl (by kernel_rfl) (fun _ _ _ h => h) (Or.inl ⟨by kernel_rfl, ?_⟩) hHeld ?_
          rotate_left
          · intro w hSw; (try dsimp only at hSw); have q0 := hSw.cell 0 (.int .i64 o.k) rfl; have q1 := hSw.cell 1 (.int .i64 o.n) rfl; have q2 := hSw.cell 2 (.string o.s) rfl; go_simp; (try with_reducible rfl)
          simp only [Act.put, List.setIfInBounds_toArray, List.set_cons_zero, List.set_cons_succ]
          refine wpK_take (i := 1) (v := ?_) rfl (by kernel_rfl) (fun _ _ _ h => h) (Or.inl ⟨by kernel_rfl, ?_⟩) hHeld ?_
          rotate_left
          · intro w hSw; (try dsimp only at hSw); have q0 := hSw.cell 0 (.int .i64 o.k) rfl; have q1 := hSw.cell 1 (.int .i64 o.n) rfl; have q2 := hSw.cell 2 (.string o.s) rfl; go_simp; (try with_reducible rfl)
          simp only [Act.put, List.setIfInBounds_toArray, List.set_cons_zero, List.set_cons_succ]
          refine wpK_take (i := 3) (v := ?_) rfl (by kernel_rfl) (fun _ _ _ h => h) (Or.inl ⟨by kernel_rfl, ?_⟩) hHeld ?_
          rotate_left
          · intro w hSw; (try dsimp only at hSw); have q0 := hSw.cell 0 (.int .i64 o.k) rfl; have q1 := hSw.cell 1 (.int .i64 o.n) rfl; have q2 := hSw.cell 2 (.string o.s) rfl; go_simp; (try with_reducible rfl)
          simp only [Act.put, List.setIfInBounds_toArray, List.set_cons_zero, List.set_cons_succ]
          refine wpK_take (i := 4) (v := ?_) rfl (by kernel_rfl) (fun _ _ _ h => h) (Or.inl ⟨by kernel_rfl, ?_⟩) hHeld ?_
          rotate_left
          · intro w hSw; (try dsimp only at hSw); have q0 := hSw.cell 0 (.int .i64 o.k) rfl; have q1 := hSw.cell 1 (.int .i64 o.n) rfl; have q2 := hSw.cell 2 (.string o.s) rfl; go_simp; (try with_reducible rfl)
          simp only [Act.put, List.setIfInBounds_toArray, List.set_cons_zero, List.set_cons_succ]
          refine wpK_one (i := 2) (by kernel_rfl) rfl (fun K' hK => ?_)
          go_simp
          go_wp2_with (go_at_call 21; refine (do_any b m ls o _ Hm6.out hrr).mono ?_; rintro e w7 ⟨v1, rfl, hm7, k7, hs7⟩)
          refine hK.out _ _ (fun _ => Blk.kp hHeld k7 (fun h => h.elim (fun e => nO1 e.symm) nO3)) (fun hHeld' => ?_)
          have hHeld := hHeld' (by decide)
          clear hHeld' hK K'
          have hx7 := Blk.kp Hx6.out k7 (fun h => h.elim (fun e => nbx e.symm) nB2)
          have hl7 := Hl6.out.kp k7 (fun g' hg' h => h.elim (fun e => nB1 (e ▸ hg')) (fun e => ap g' e hg'))
          have hk7 := Hk6.out.trans' k7 (by rintro i _ (h | h); subst h; exact hbw; exact gm i h)
          have gm7 : ∀ g, (m.act o v1).ln.ownBlock = some g → w.heap.size ≤ g := by intro g' hg'; rcases hs7 with h | h; exact gm g' (h ▸ hg'); have := h g' hg'; have := Hk6.out.size; omega
          have ap7 : ∀ g, (m.act o v1).ln.ownBlock = some g → v.ownBlock ≠ some g := by intro g' hg' e; rcases hs7 with h | h; exact ap g' (h ▸ hg') e; have := h g' hg'; have := (Hl6.out.lt g' e).2; omega
          have nC2 : (m.act o v1).ln.ownBlock ≠ some bx := hm7.lines.ne hx7 (by decide)
          have HX7 := Lib.hid hx7; clear hx7
          refine wpK_one (i := 5) (by kernel_rfl) rfl (fun K' hK => ?_)
          go_simp
          go_wp2_with (go_at_call 22; refine (rdo_any bx m v ls o _ HX7.out hm6ok hl7 hm6len hrr HNN.out).mono ?_; rintro e w8 ⟨v2, rfl, hx8, hl8, k8, hs8⟩)
          refine hK.out _ _ (fun _ => Blk.kp hHeld k8 (fun h => h.elim (fun e => nO2 e.symm) nO4)) (fun hHeld' => ?_)
          have hHeld := hHeld' (by decide)
          clear hHeld' hK K'
          have hm8 := hm7.kp k8 (fun h => h.elim nbx nB1) (fun g' hg' h => h.elim (fun e => nC2 (e ▸ hg')) (fun e => ap7 g' hg' e))
          have hx8' : XAt w8 bx (m.act o v1) v2 := XAt.of hx8 (xCells_act _ _ _ _ _)
          have hk8 := hk7.trans' k8 (by rintro i _ (h | h); subst h; exact hbw2; exact gv i h)
          have gv8 : ∀ g, v2.ownBlock = some g → w.heap.size ≤ g := by intro g' hg'; rcases hs8 with h | h; exact gv g' (h ▸ hg'); have := h g' hg'; have := hk7.size; omega
          have ap8 : ∀ g, (m.act o v1).ln.ownBlock = some g → v2.ownBlock ≠ some g := by intro g' hg' e; rcases hs8 with h | h; exact ap7 g' hg' (h ▸ e); have := h g' e; have := (hm7.lines.lt g' hg').2; omega
          clear hm7 k7 hs7 hl7 hk7 HX7 hx8 k8 hs8 ap7 nC2
          generalize m.act o v1 = m' at *
          generalize m.said o ls = ls' at *
          refine wpK_swap (S' := fun w' => Blk w' bo 44 #[.int .i64 o.k, .int .i64 o.n, .string o.s] ∧ Blk w' bx 51 (xCells m' v2)) (K' := 44) ?_ (by decide) _ _ _ _ ?_
          · intro w h; exact h.1
          have hHeld : (fun w' => Blk w' bo 44 #[.int .i64 o.k, .int .i64 o.n, .string o.s] ∧ Blk w' bx 51 (xCells m' v2)) _ := ⟨hHeld, hx8'⟩
          refine wpK_take (i := 6) (v := ?_) rfl (by kernel_rfl) (fun _ _ _ h => h) (Or.inl ⟨by kernel_rfl, ?_⟩) hHeld ?_
          rotate_left
          · intro w hSw; (try dsimp only at hSw); have q0 := hSw.2.cell 8 (.int .i64 m'.st) rfl; have q1 := hSw.2.cell 5 (.int .i64 (m'.lf - m'.f)) rfl; have q2 := hSw.2.cell 6 (.int .i64 (m'.ld - m'.d)) rfl; have q3 := hSw.2.cell 9 v2 rfl; go_simp; (try with_reducible rfl)
          simp only [Act.put, List.setIfInBounds_toArray, List.set_cons_zero, List.set_cons_succ]
          refine wpK_take (i := 7) (v := ?_) rfl (by kernel_rfl) (fun _ _ _ h => h) (Or.inl ⟨by kernel_rfl, ?_⟩) hHeld ?_
          rotate_left
          · intro w hSw; (try dsimp only at hSw); have q0 := hSw.2.cell 8 (.int .i64 m'.st) rfl; have q1 := hSw.2.cell 5 (.int .i64 (m'.lf - m'.f)) rfl; have q2 := hSw.2.cell 6 (.int .i64 (m'.ld - m'.d)) rfl; have q3 := hSw.2.cell 9 v2 rfl; go_simp; (try with_reducible rfl)
          simp only [Act.put, List.setIfInBounds_toArray, List.set_cons_zero, List.set_cons_succ]
          refine wpK_take (i := 8) (v := ?_) rfl (by kernel_rfl) (fun _ _ _ h => h) (Or.inl ⟨by kernel_rfl, ?_⟩) hHeld ?_
          rotate_left
          · intro w hSw; (try dsimp only at hSw); have q0 := hSw.2.cell 8 (.int .i64 m'.st) rfl; have q1 := hSw.2.cell 5 (.int .i64 (m'.lf - m'.f)) rfl; have q2 := hSw.2.cell 6 (.int .i64 (m'.ld - m'.d)) rfl; have q3 := hSw.2.cell 9 v2 rfl; go_simp; (try with_reducible rfl)
          simp only [Act.put, List.setIfInBounds_toArray, List.set_cons_zero, List.set_cons_succ]
          refine wpK_take (i := 10) (v := ?_) rfl (by kernel_rfl) (fun _ _ _ h => h) (Or.inl ⟨by kernel_rfl, ?_⟩) hHeld ?_
          rotate_left
          · intro w hSw; (try dsimp only at hSw); have q0 := hSw.2.cell 8 (.int .i64 m'.st) rfl; have q1 := hSw.2.cell 5 (.int .i64 (m'.lf - m'.f)) rfl; have q2 := hSw.2.cell 6 (.int .i64 (m'.ld - m'.d)) rfl; have q3 := hSw.2.cell 9 v2 rfl; go_simp; (try with_reducible rfl)
          simp only [Act.put, List.setIfInBounds_toArray, List.set_cons_zero, List.set_cons_succ]
          refine wpK_take (i := 11) (v := ?_) rfl (by kernel_rfl) (fun _ _ _ h => h) (Or.inl ⟨by kernel_rfl, ?_⟩) hHeld ?_
          rotate_left
          · intro w hSw; (try dsimp only at hSw); have q0 := hSw.2.cell 8 (.int .i64 m'.st) rfl; have q1 := hSw.2.cell 5 (.int .i64 (m'.lf - m'.f)) rfl; have q2 := hSw.2.cell 6 (.int .i64 (m'.ld - m'.d)) rfl; have q3 := hSw.2.cell 9 v2 rfl; go_simp; (try with_reducible rfl)
          simp only [Act.put, List.setIfInBounds_toArray, List.set_cons_zero, List.set_cons_succ]
          refine wpK_take (i := 12) (v := ?_) rfl (by kernel_rfl) (fun _ _ _ h => h) (Or.inl ⟨by kernel_rfl, ?_⟩) hHeld ?_
          rotate_left
          · intro w hSw; (try dsimp only at hSw); have q0 := hSw.2.cell 8 (.int .i64 m'.st) rfl; have q1 := hSw.2.cell 5 (.int .i64 (m'.lf - m'.f)) rfl; have q2 := hSw.2.cell 6 (.int .i64 (m'.ld - m'.d)) rfl; have q3 := hSw.2.cell 9 v2 rfl; go_simp; (try with_reducible rfl)
          simp only [Act.put, List.setIfInBounds_toArray, List.set_cons_zero, List.set_cons_succ]
          refine wpK_take (i := 13) (v := ?_) rfl (by kernel_rfl) (fun _ _ _ h => h) (Or.inl ⟨by kernel_rfl, ?_⟩) hHeld ?_
          rotate_left
          · intro w hSw; (try dsimp only at hSw); have q0 := hSw.2.cell 8 (.int .i64 m'.st) rfl; have q1 := hSw.2.cell 5 (.int .i64 (m'.lf - m'.f)) rfl; have q2 := hSw.2.cell 6 (.int .i64 (m'.ld - m'.d)) rfl; have q3 := hSw.2.cell 9 v2 rfl; go_simp; (try with_reducible rfl)
          simp only [Act.put, List.setIfInBounds_toArray, List.set_cons_zero, List.set_cons_succ]
          refine wpK_one (i := 9) (by kernel_rfl) rfl (fun K' hK => ?_)
          go_simp
          go_wp2_with (go_at_call 13; refine (stop_any b m' _ hm8.at').mono ?_; rintro e w9 ⟨rfl, rfl⟩)
          refine hK.out _ _ (fun _ => hHeld) (fun hHeld' => ?_)
          have hHeld := hHeld' (by decide)
          clear hHeld' hK K'
          refine wpK_take (i := 14) (v := ?_) rfl (by kernel_rfl) (fun _ _ _ h => h) (Or.inl ⟨by kernel_rfl, ?_⟩) hHeld ?_
          rotate_left
          · intro w hSw; (try dsimp only at hSw); have q0 := hSw.2.cell 8 (.int .i64 m'.st) rfl; have q1 := hSw.2.cell 5 (.int .i64 (m'.lf - m'.f)) rfl; have q2 := hSw.2.cell 6 (.int .i64 (m'.ld - m'.d)) rfl; have q3 := hSw.2.cell 9 v2 rfl; go_simp; (try with_reducible rfl)
          simp only [Act.put, List.setIfInBounds_toArray, List.set_cons_zero, List.set_cons_succ]
          refine wpK_take (i := 15) (v := ?_) rfl (by kernel_rfl) (fun _ _ _ h => h) (Or.inl ⟨by kernel_rfl, ?_⟩) hHeld ?_
          rotate_left
          · intro w hSw; (try dsimp only at hSw); have q0 := hSw.2.cell 8 (.int .i64 m'.st) rfl; have q1 := hSw.2.cell 5 (.int .i64 (m'.lf - m'.f)) rfl; have q2 := hSw.2.cell 6 (.int .i64 (m'.ld - m'.d)) rfl; have q3 := hSw.2.cell 9 v2 rfl; go_simp; (try with_reducible rfl)
          simp only [Act.put, List.setIfInBounds_toArray, List.set_cons_zero, List.set_cons_succ]
          refine wpK_take (i := 16) (v := ?_) rfl (by kernel_rfl) (fun _ _ _ h => h) (Or.inl ⟨by kernel_rfl, ?_⟩) hHeld ?_
          rotate_left
          · intro w hSw; (try dsimp only at hSw); have q0 := hSw.2.cell 8 (.int .i64 m'.st) rfl; have q1 := hSw.2.cell 5 (.int .i64 (m'.lf - m'.f)) rfl; have q2 := hSw.2.cell 6 (.int .i64 (m'.ld - m'.d)) rfl; have q3 := hSw.2.cell 9 v2 rfl; go_simp; (try with_reducible rfl)
          simp only [Act.put, List.setIfInBounds_toArray, List.set_cons_zero, List.set_cons_succ]
          refine wpK_take (i := 17) (v := ?_) rfl (by kernel_rfl) (fun _ _ _ h => h) (Or.inl ⟨by kernel_rfl, ?_⟩) hHeld ?_
          rotate_left
          · intro w hSw; (try dsimp only at hSw); have q0 := hSw.2.cell 8 (.int .i64 m'.st) rfl; have q1 := hSw.2.cell 5 (.int .i64 (m'.lf - m'.f)) rfl; have q2 := hSw.2.cell 6 (.int .i64 (m'.ld - m'.d)) rfl; have q3 := hSw.2.cell 9 v2 rfl; go_simp; (try with_reducible rfl)
          simp only [Act.put, List.setIfInBounds_toArray, List.set_cons_zero, List.set_cons_succ]
          refine wpK_take (i := 19) (v := ?_) rfl (by kernel_rfl) (fun _ _ _ h => h) (Or.inl ⟨by kernel_rfl, ?_⟩) hHeld ?_
          rotate_left
          · intro w hSw; (try dsimp only at hSw); have q0 := hSw.2.cell 8 (.int .i64 m'.st) rfl; have q1 := hSw.2.cell 5 (.int .i64 (m'.lf - m'.f)) rfl; have q2 := hSw.2.cell 6 (.int .i64 (m'.ld - m'.d)) rfl; have q3 := hSw.2.cell 9 v2 rfl; go_simp; (try with_reducible rfl)
          simp only [Act.put, List.setIfInBounds_toArray, List.set_cons_zero, List.set_cons_succ]
          refine wpK_take (i := 20) (v := ?_) rfl (by kernel_rfl) (fun _ _ _ h => h) (Or.inl ⟨by kernel_rfl, ?_⟩) hHeld ?_
          rotate_left
          · intro w hSw; (try dsimp only at hSw); have q0 := hSw.2.cell 8 (.int .i64 m'.st) rfl; have q1 := hSw.2.cell 5 (.int .i64 (m'.lf - m'.f)) rfl; have q2 := hSw.2.cell 6 (.int .i64 (m'.ld - m'.d)) rfl; have q3 := hSw.2.cell 9 v2 rfl; go_simp; (try with_reducible rfl)
          simp only [Act.put, List.setIfInBounds_toArray, List.set_cons_zero, List.set_cons_succ]
          refine wpK_take (i := 21) (v := ?_) rfl (by kernel_rfl) (fun _ _ _ h => h) (Or.inl ⟨by kernel_rfl, ?_⟩) hHeld ?_
          rotate_left
          · intro w hSw; (try dsimp only at hSw); have q0 := hSw.2.cell 8 (.int .i64 m'.st) rfl; have q1 := hSw.2.cell 5 (.int .i64 (m'.lf - m'.f)) rfl; have q2 := hSw.2.cell 6 (.int .i64 (m'.ld - m'.d)) rfl; have q3 := hSw.2.cell 9 v2 rfl; go_simp; (try with_reducible rfl)
          simp only [Act.put, List.setIfInBounds_toArray, List.set_cons_zero, List.set_cons_succ]
          refine wpK_take (i := 22) (v := ?_) rfl (by kernel_rfl) (fun _ _ _ h => h) (Or.inl ⟨by kernel_rfl, ?_⟩) hHeld ?_
          rotate_left
          · intro w hSw; (try dsimp only at hSw); have q0 := hSw.2.cell 8 (.int .i64 m'.st) rfl; have q1 := hSw.2.cell 5 (.int .i64 (m'.lf - m'.f)) rfl; have q2 := hSw.2.cell 6 (.int .i64 (m'.ld - m'.d)) rfl; have q3 := hSw.2.cell 9 v2 rfl; go_simp; (try with_reducible rfl)
          simp only [Act.put, List.setIfInBounds_toArray, List.set_cons_zero, List.set_cons_succ]
          refine wpK_one (i := 18) (by kernel_rfl) rfl (fun K' hK => ?_)
          go_simp
          go_wp2_with (go_at_call 15; refine (steps_kq b m' _ hm8.at' hm8.ok).mono ?_; rintro e w9 ⟨rfl, k9⟩)
          refine hK.out _ _ (fun _ => ⟨Blk.kp hHeld.1 k9 (fun h => h), Blk.kp hHeld.2 k9 (fun h => h)⟩) (fun hHeld' => ?_)
          have hHeld := hHeld' (by decide)
          clear hHeld' hK K'
          have hm9 := hm8.kp k9 (fun h => h) (fun _ _ h => h)
          have hl9 := hl8.kp k9 (fun _ _ h => h)
          have hk9 := hk8.trans' k9 (fun _ _ h => h.elim)
          clear hm8 hl8 hk8 k9
          refine wpK_take (i := 23) (v := ?_) rfl (by kernel_rfl) (fun _ _ _ h => h) (Or.inl ⟨by kernel_rfl, ?_⟩) hHeld ?_
          rotate_left
          · intro w hSw; (try dsimp only at hSw); have q0 := hSw.2.cell 8 (.int .i64 m'.st) rfl; have q1 := hSw.2.cell 5 (.int .i64 (m'.lf - m'.f)) rfl; have q2 := hSw.2.cell 6 (.int .i64 (m'.ld - m'.d)) rfl; have q3 := hSw.2.cell 9 v2 rfl; go_simp; (try with_reducible rfl)
          simp only [Act.put, List.setIfInBounds_toArray, List.set_cons_zero, List.set_cons_succ]
          refine wpK_take (i := 24) (v := ?_) rfl (by kernel_rfl) (fun _ _ _ h => h) (Or.inl ⟨by kernel_rfl, ?_⟩) hHeld ?_
          rotate_left
          · intro w hSw; (try dsimp only at hSw); have q0 := hSw.2.cell 8 (.int .i64 m'.st) rfl; have q1 := hSw.2.cell 5 (.int .i64 (m'.lf - m'.f)) rfl; have q2 := hSw.2.cell 6 (.int .i64 (m'.ld - m'.d)) rfl; have q3 := hSw.2.cell 9 v2 rfl; go_simp; (try with_reducible rfl)
          simp only [Act.put, List.setIfInBounds_toArray, List.set_cons_zero, List.set_cons_succ]
          refine wpK_take (i := 25) (v := ?_) rfl (by kernel_rfl) (fun _ _ _ h => h) (Or.inl ⟨by kernel_rfl, ?_⟩) hHeld ?_
          rotate_left
          · intro w hSw; (try dsimp only at hSw); have q0 := hSw.2.cell 8 (.int .i64 m'.st) rfl; have q1 := hSw.2.cell 5 (.int .i64 (m'.lf - m'.f)) rfl; have q2 := hSw.2.cell 6 (.int .i64 (m'.ld - m'.d)) rfl; have q3 := hSw.2.cell 9 v2 rfl; go_simp; (try with_reducible rfl)
          simp only [Act.put, List.setIfInBounds_toArray, List.set_cons_zero, List.set_cons_succ]
          refine wpK_take (i := 26) (v := ?_) rfl (by kernel_rfl) (fun _ _ _ h => h) (Or.inl ⟨by kernel_rfl, ?_⟩) hHeld ?_
          rotate_left
          · intro w hSw; (try dsimp only at hSw); have q0 := hSw.2.cell 8 (.int .i64 m'.st) rfl; have q1 := hSw.2.cell 5 (.int .i64 (m'.lf - m'.f)) rfl; have q2 := hSw.2.cell 6 (.int .i64 (m'.ld - m'.d)) rfl; have q3 := hSw.2.cell 9 v2 rfl; go_simp; (try with_reducible rfl)
          simp only [Act.put, List.setIfInBounds_toArray, List.set_cons_zero, List.set_cons_succ]
          refine wpK_take (i := 28) (v := ?_) rfl (by kernel_rfl) (fun _ _ _ h => h) (Or.inl ⟨by kernel_rfl, ?_⟩) hHeld ?_
          rotate_left
          · intro w hSw; (try dsimp only at hSw); have q0 := hSw.2.cell 8 (.int .i64 m'.st) rfl; have q1 := hSw.2.cell 5 (.int .i64 (m'.lf - m'.f)) rfl; have q2 := hSw.2.cell 6 (.int .i64 (m'.ld - m'.d)) rfl; have q3 := hSw.2.cell 9 v2 rfl; go_simp; (try with_reducible rfl)
          simp only [Act.put, List.setIfInBounds_toArray, List.set_cons_zero, List.set_cons_succ]
          refine wpK_take (i := 29) (v := ?_) rfl (by kernel_rfl) (fun _ _ _ h => h) (Or.inl ⟨by kernel_rfl, ?_⟩) hHeld ?_
          rotate_left
          · intro w hSw; (try dsimp only at hSw); have q0 := hSw.2.cell 8 (.int .i64 m'.st) rfl; have q1 := hSw.2.cell 5 (.int .i64 (m'.lf - m'.f)) rfl; have q2 := hSw.2.cell 6 (.int .i64 (m'.ld - m'.d)) rfl; have q3 := hSw.2.cell 9 v2 rfl; go_simp; (try with_reducible rfl)
          simp only [Act.put, List.setIfInBounds_toArray, List.set_cons_zero, List.set_cons_succ]
          refine wpK_take (i := 30) (v := ?_) rfl (by kernel_rfl) (fun _ _ _ h => h) (Or.inl ⟨by kernel_rfl, ?_⟩) hHeld ?_
          rotate_left
          · intro w hSw; (try dsimp only at hSw); have q0 := hSw.2.cell 8 (.int .i64 m'.st) rfl; have q1 := hSw.2.cell 5 (.int .i64 (m'.lf - m'.f)) rfl; have q2 := hSw.2.cell 6 (.int .i64 (m'.ld - m'.d)) rfl; have q3 := hSw.2.cell 9 v2 rfl; go_simp; (try with_reducible rfl)
          simp only [Act.put, List.setIfInBounds_toArray, List.set_cons_zero, List.set_cons_succ]
          refine wpK_take (i := 31) (v := ?_) rfl (by kernel_rfl) (fun _ _ _ h => h) (Or.inl ⟨by kernel_rfl, ?_⟩) hHeld ?_
          rotate_left
          · intro w hSw; (try dsimp only at hSw); have q0 := hSw.2.cell 8 (.int .i64 m'.st) rfl; have q1 := hSw.2.cell 5 (.int .i64 (m'.lf - m'.f)) rfl; have q2 := hSw.2.cell 6 (.int .i64 (m'.ld - m'.d)) rfl; have q3 := hSw.2.cell 9 v2 rfl; go_simp; (try with_reducible rfl)
          simp only [Act.put, List.setIfInBounds_toArray, List.set_cons_zero, List.set_cons_succ]
          refine wpK_one (i := 27) (by kernel_rfl) rfl (fun K' hK => ?_)
          go_simp
          go_wp2_with (go_at_call 12; refine (deep_kq b m' _ hm9.at' hm9.ok).mono ?_; rintro e wA ⟨rfl, kA⟩)
          refine hK.out _ _ (fun _ => ⟨Blk.kp hHeld.1 kA (fun h => h), Blk.kp hHeld.2 kA (fun h => h)⟩) (fun hHeld' => ?_)
          have hHeld := hHeld' (by decide)
          clear hHeld' hK K'
          have hmA := hm9.kp kA (fun h => h) (fun _ _ h => h)
          have hlA := hl9.kp kA (fun _ _ h => h)
          have hkA := hk9.trans' kA (fun _ _ h => h.elim)
          clear hm9 hl9 hk9 kA
          refine wpK_take (i := 32) (v := ?_) rfl (by kernel_rfl) (fun _ _ _ h => h) (Or.inl ⟨by kernel_rfl, ?_⟩) hHeld ?_
          rotate_left
          · intro w hSw; (try dsimp only at hSw); have q0 := hSw.2.cell 8 (.int .i64 m'.st) rfl; have q1 := hSw.2.cell 5 (.int .i64 (m'.lf - m'.f)) rfl; have q2 := hSw.2.cell 6 (.int .i64 (m'.ld - m'.d)) rfl; have q3 := hSw.2.cell 9 v2 rfl; go_simp; (try with_reducible rfl)
          simp only [Act.put, List.setIfInBounds_toArray, List.set_cons_zero, List.set_cons_succ]
          refine wpK_take (i := 33) (v := ?_) rfl (by kernel_rfl) (fun _ _ _ h => h) (Or.inl ⟨by kernel_rfl, ?_⟩) hHeld ?_
          rotate_left
          · intro w hSw; (try dsimp only at hSw); have q0 := hSw.2.cell 8 (.int .i64 m'.st) rfl; have q1 := hSw.2.cell 5 (.int .i64 (m'.lf - m'.f)) rfl; have q2 := hSw.2.cell 6 (.int .i64 (m'.ld - m'.d)) rfl; have q3 := hSw.2.cell 9 v2 rfl; go_simp; (try with_reducible rfl)
          simp only [Act.put, List.setIfInBounds_toArray, List.set_cons_zero, List.set_cons_succ]
          refine wpK_take (i := 34) (v := ?_) rfl (by kernel_rfl) (fun _ _ _ h => h) (Or.inl ⟨by kernel_rfl, ?_⟩) hHeld ?_
          rotate_left
          · intro w hSw; (try dsimp only at hSw); have q0 := hSw.2.cell 8 (.int .i64 m'.st) rfl; have q1 := hSw.2.cell 5 (.int .i64 (m'.lf - m'.f)) rfl; have q2 := hSw.2.cell 6 (.int .i64 (m'.ld - m'.d)) rfl; have q3 := hSw.2.cell 9 v2 rfl; go_simp; (try with_reducible rfl)
          simp only [Act.put, List.setIfInBounds_toArray, List.set_cons_zero, List.set_cons_succ]
          refine wpK_take (i := 35) (v := ?_) rfl (by kernel_rfl) (fun _ _ _ h => h) (Or.inl ⟨by kernel_rfl, ?_⟩) hHeld ?_
          rotate_left
          · intro w hSw; (try dsimp only at hSw); have q0 := hSw.2.cell 8 (.int .i64 m'.st) rfl; have q1 := hSw.2.cell 5 (.int .i64 (m'.lf - m'.f)) rfl; have q2 := hSw.2.cell 6 (.int .i64 (m'.ld - m'.d)) rfl; have q3 := hSw.2.cell 9 v2 rfl; go_simp; (try with_reducible rfl)
          simp only [Act.put, List.setIfInBounds_toArray, List.set_cons_zero, List.set_cons_succ]
          refine wpK_take (i := 37) (v := ?_) rfl (by kernel_rfl) (fun _ _ _ h => h) (Or.inl ⟨by kernel_rfl, ?_⟩) hHeld ?_
          rotate_left
          · intro w hSw; (try dsimp only at hSw); have q0 := hSw.2.cell 8 (.int .i64 m'.st) rfl; have q1 := hSw.2.cell 5 (.int .i64 (m'.lf - m'.f)) rfl; have q2 := hSw.2.cell 6 (.int .i64 (m'.ld - m'.d)) rfl; have q3 := hSw.2.cell 9 v2 rfl; go_simp; (try with_reducible rfl)
          simp only [Act.put, List.setIfInBounds_toArray, List.set_cons_zero, List.set_cons_succ]
          refine wpK_take (i := 38) (v := ?_) rfl (by kernel_rfl) (fun _ _ _ h => h) (Or.inl ⟨by kernel_rfl, ?_⟩) hHeld ?_
          rotate_left
          · intro w hSw; (try dsimp only at hSw); have q0 := hSw.2.cell 8 (.int .i64 m'.st) rfl; have q1 := hSw.2.cell 5 (.int .i64 (m'.lf - m'.f)) rfl; have q2 := hSw.2.cell 6 (.int .i64 (m'.ld - m'.d)) rfl; have q3 := hSw.2.cell 9 v2 rfl; go_simp; (try with_reducible rfl)
          simp only [Act.put, List.setIfInBounds_toArray, List.set_cons_zero, List.set_cons_succ]
          refine wpK_take (i := 39) (v := ?_) rfl (by kernel_rfl) (fun _ _ _ h => h) (Or.inl ⟨by kernel_rfl, ?_⟩) hHeld ?_
          rotate_left
          · intro w hSw; (try dsimp only at hSw); have q0 := hSw.2.cell 8 (.int .i64 m'.st) rfl; have q1 := hSw.2.cell 5 (.int .i64 (m'.lf - m'.f)) rfl; have q2 := hSw.2.cell 6 (.int .i64 (m'.ld - m'.d)) rfl; have q3 := hSw.2.cell 9 v2 rfl; go_simp; (try with_reducible rfl)
          simp only [Act.put, List.setIfInBounds_toArray, List.set_cons_zero, List.set_cons_succ]
          refine wpK_take (i := 40) (v := ?_) rfl (by kernel_rfl) (fun _ _ _ h => h) (Or.inl ⟨by kernel_rfl, ?_⟩) hHeld ?_
          rotate_left
          · intro w hSw; (try dsimp only at hSw); have q0 := hSw.2.cell 8 (.int .i64 m'.st) rfl; have q1 := hSw.2.cell 5 (.int .i64 (m'.lf - m'.f)) rfl; have q2 := hSw.2.cell 6 (.int .i64 (m'.ld - m'.d)) rfl; have q3 := hSw.2.cell 9 v2 rfl; go_simp; (try with_reducible rfl)
          simp only [Act.put, List.setIfInBounds_toArray, List.set_cons_zero, List.set_cons_succ]
          refine wpK_one (i := 36) (by kernel_rfl) rfl (fun K' hK => ?_)
          go_simp
          go_wp2_with (go_at_call 20; refine (lines_any b m' ls' _ hmA.at' hmA.lines hmA.len).mono ?_; rintro e wB ⟨vc, rfl, hLc, hkB, hnc⟩)
          refine hK.out _ _ (fun _ => ⟨Blk.below hHeld.1 hkB (Blk.lt hHeld.1), Blk.below hHeld.2 hkB (Blk.lt hHeld.2)⟩) (fun hHeld' => ?_)
          have hHeld := hHeld' (by decide)
          clear hHeld' hK K'
          have kB : Kp (fun _ => False) wA wB := Kp.of_below hkB
          have hmB := hmA.kp kB (fun h => h) (fun _ _ h => h)
          have hlB := hlA.kp kB (fun _ _ h => h)
          have hkB' := hkA.trans' kB (fun _ _ h => h.elim)
          clear hmA hlA hkA kB hkB hnc
          refine wpK_one (i := 41) (by kernel_rfl) rfl (fun K' hK => ?_)
          go_simp
          go_wp2_with (go_at_call 23; refine (linesEq_any vc v2 ls' ls' _ hLc.strs hlB.strs hmB.len hmB.len).mono ?_; rintro e wC ⟨he, qn, rfl⟩; obtain rfl : e = .returned (.bool true) := by rw [he]; simp)
          refine hK.out _ _ (fun _ => ⟨Blk.drewN hHeld.1 _, Blk.drewN hHeld.2 _⟩) (fun hHeld' => ?_)
          have hHeld := hHeld' (by decide)
          clear hHeld' hK K'
          refine wpK_take (i := 42) (v := ?_) rfl (by kernel_rfl) (fun _ _ _ h => h) (Or.inl ⟨by kernel_rfl, ?_⟩) hHeld ?_
          rotate_left
          · intro w hSw; (try dsimp only at hSw); have q0 := hSw.2.cell 8 (.int .i64 m'.st) rfl; have q1 := hSw.2.cell 5 (.int .i64 (m'.lf - m'.f)) rfl; have q2 := hSw.2.cell 6 (.int .i64 (m'.ld - m'.d)) rfl; have q3 := hSw.2.cell 9 v2 rfl; go_simp; (try with_reducible rfl)
          simp only [Act.put, List.setIfInBounds_toArray, List.set_cons_zero, List.set_cons_succ]
          refine wpK_take (i := 43) (v := ?_) rfl (by kernel_rfl) (fun _ _ _ h => h) (Or.inl ⟨by kernel_rfl, ?_⟩) hHeld ?_
          rotate_left
          · intro w hSw; (try dsimp only at hSw); have q0 := hSw.2.cell 8 (.int .i64 m'.st) rfl; have q1 := hSw.2.cell 5 (.int .i64 (m'.lf - m'.f)) rfl; have q2 := hSw.2.cell 6 (.int .i64 (m'.ld - m'.d)) rfl; have q3 := hSw.2.cell 9 v2 rfl; go_simp; (try with_reducible rfl)
          simp only [Act.put, List.setIfInBounds_toArray, List.set_cons_zero, List.set_cons_succ]
          refine wpK_done (by kernel_rfl) ?_ _
          have HI : InPlays w b bx (wB.drewN qn) m' v2 ls' := ⟨hmB.kp ((Kp.refl (fun _ => False) _).drewN _) (fun h => h) (fun _ _ h => h), hHeld.2, hlB.kp ((Kp.refl (fun _ => False) _).drewN _) (fun _ _ h => h), gm7, gv8, ap8, hkB'.drewN _⟩
          have HI' := Lib.hid HI
          clear HI hmB hlB hkB' hHeld gm7 gv8 ap8 hLc
          go_wp2
          go_roundg (gk - 1)
          case measure => omega
          case rel => exact ⟨j + 1, m', v2, ls', by omega, by go_num, HI'.out⟩
        · obtain ⟨a1, a2, a3, a4, a5, a6⟩ := na1 g rfl
          have HI5 := Lib.hid hI5
          have HO5 := Lib.hid hO5
          have HS5 := Lib.hid hsz5; clear hsz5
          clear hI5 hO5 na1
          go_wp2_with fail
          go_loopw [51] (fun iv wx => ∃ (i : Nat) (ls2 : List ByteArray), iv = .int .i64 i ∧ i ≤ ls.length ∧ LAt wx (.slice (some ⟨g, 0, none⟩) ls.length cap') ls2 ∧ ls2.length = ls.length ∧ (∀ s ∈ ls2, s.size ≤ 1000000 + i) ∧ Kp (fun k => k = g) w5 wx) (fun iv _ => ls.length - (intOf iv).toNat)
          case atStart => exact ⟨0, ls, rfl, Nat.zero_le _, hLa, rfl, (fun s hs => by have := HS5.out s hs; omega), Kp.refl _ _⟩
          case round =>
            clear hLa
            obtain ⟨i, ls2, rfl, hi, hL2, hl2, hs2, hk2⟩ := hrel
            by_cases hil : i < ls.length
            · have hL3 : wr.ownsRow 0 9 1 (.slice (some ⟨g, 0, none⟩) ls.length cap') ls.length (ls2.map Value.string) := by
                have := hL2
                unfold LAt at this
                rwa [hl2] at this
              have hc1 : wr.cell? ⟨g, i, none⟩ = some (.string (ls2.getD i ByteArray.empty)) := by
                rw [hL3.cellAt i (by omega)]
                simp [List.getD, show i < ls2.length by omega]
              have hf1 := hL3.frozenAt i
              have hx1 : (ls2.getD i ByteArray.empty).size ≤ 1000000 + i := by
                have := hs2 (ls2.getD i ByteArray.empty) (by simp [List.getD, show i < ls2.length by omega])
                omega
              have hgs := (hL3.lt g rfl).2
              generalize ls2.getD i ByteArray.empty = x at *
              have HL2 := Lib.hid hL3; clear hL2 hL3
              have HX1 := Lib.hid hx1
              have HS2 := Lib.hid hs2; clear hs2
              have hl3 : ls2.length = ls.length := hl2
              have HL3 := Lib.hid hl3; clear hl3 hl2
              go_wp2
              go_roundw
              case rel =>
                refine ⟨i + 1, ls2.set i (x ++ ⟨#[120]⟩), by go_num, by omega, ?_, by simp [HL3.out], ?_, hk2.setCell (.inl rfl) _⟩
                · have := (HL2.out.stored i (.string (x ++ ⟨#[120]⟩))).1
                  unfold LAt
                  rw [List.length_set, HL3.out, List.map_set]
                  exact this
                · intro s hs
                  rcases List.mem_or_eq_of_mem_set hs with h | h
                  · have := HS2.out s h; omega
                  · subst h
                    have e1 : (x ++ (⟨#[120]⟩ : ByteArray)).size = x.size + 1 := by rw [ByteArray.size_append]; rfl
                    have := HX1.out
                    omega
              case measure => simp [intOf]; omega
            · obtain rfl : i = ls.length := by omega
              have hI6 : InPlays w b bx wr m v ls := ⟨HI5.out.hm.kp hk2 (fun e => a2 e.symm) (fun g' h e => a4 (e ▸ h)), Blk.kp HI5.out.hx hk2 (fun e => a3 e.symm), HI5.out.hl.kp hk2 (fun g' h e => a5 (e ▸ h)), HI5.out.gm, HI5.out.gv, HI5.out.ap, HI5.out.k.trans' hk2 (fun i _ e => by subst e; exact a6)⟩
              have hO6 := HO5.out.kp hk2 (fun e => a1 e.symm)
              clear HI5 HO5 HS5 hk2 hL2 hs2 hl2 hlen5 a1 a2 a3 a4 a5 a6
              go_wp2_with fail
              have hm6 := hI6.hm
              have hx6 := hI6.hx
              have hl6 := hI6.hl
              have gm := hI6.gm
              have gv := hI6.gv
              have ap := hI6.ap
              have hk6 := hI6.k
              clear hI6
              have nO3 : m.ln.ownBlock ≠ some bo := hm6.lines.ne hO6 (by decide)
              have nO4 : v.ownBlock ≠ some bo := hl6.ne hO6 (by decide)
              have nB1 : v.ownBlock ≠ some b := hl6.ne hm6.at' (by decide)
              have nB2 : m.ln.ownBlock ≠ some bx := hm6.lines.ne hx6 (by decide)
              have Hm6 := Lib.hid (hm6.kp ((Kp.refl (fun _ => False) _).drewN 1) (fun h => h) (fun _ _ h => h))
              have Hx6 := Lib.hid (Blk.kp hx6 ((Kp.refl (fun _ => False) _).drewN 1) (fun h => h))
              have Hl6 := Lib.hid (hl6.kp ((Kp.refl (fun _ => False) _).drewN 1) (fun _ _ h => h))
              have Hk6 := Lib.hid (hk6.drewN 1)
              have hm6ok := hm6.ok
              have hm6len := hm6.len
              clear hm6 hx6 hl6 hk6
              refine wp_region_K (S := fun w' => Blk w' bo 44 #[.int .i64 o.k, .int .i64 o.n, .string o.s]) (K := 44) (by kernel_rfl) ?_
              have hHeld : (fun w' => Blk w' bo 44 #[.int .i64 o.k, .int .i64 o.n, .string o.s]) (World.drew _) := hO6
              refine wpK_take (i := 0) (v := ?_) rfl (by kernel_rfl) (fun _ _ _ h => h) (Or.inl ⟨by kernel_rfl, ?_⟩) hHeld ?_
              rotate_left
              · intro w hSw; (try dsimp only at hSw); have q0 := hSw.cell 0 (.int .i64 o.k) rfl; have q1 := hSw.cell 1 (.int .i64 o.n) rfl; have q2 := hSw.cell 2 (.string o.s) rfl; go_simp; (try with_reducible rfl)
              simp only [Act.put, List.setIfInBounds_toArray, List.set_cons_zero, List.set_cons_succ]
              refine wpK_take (i := 1) (v := ?_) rfl (by kernel_rfl) (fun _ _ _ h => h) (Or.inl ⟨by kernel_rfl, ?_⟩) hHeld ?_
              rotate_left
              · intro w hSw; (try dsimp only at hSw); have q0 := hSw.cell 0 (.int .i64 o.k) rfl; have q1 := hSw.cell 1 (.int .i64 o.n) rfl; have q2 := hSw.cell 2 (.string o.s) rfl; go_simp; (try with_reducible rfl)
              simp only [Act.put, List.setIfInBounds_toArray, List.set_cons_zero, List.set_cons_succ]
              refine wpK_take (i := 3) (v := ?_) rfl (by kernel_rfl) (fun _ _ _ h => h) (Or.inl ⟨by kernel_rfl, ?_⟩) hHeld ?_
              rotate_left
              · intro w hSw; (try dsimp only at hSw); have q0 := hSw.cell 0 (.int .i64 o.k) rfl; have q1 := hSw.cell 1 (.int .i64 o.n) rfl; have q2 := hSw.cell 2 (.string o.s) rfl; go_simp; (try with_reducible rfl)
              simp only [Act.put, List.setIfInBounds_toArray, List.set_cons_zero, List.set_cons_succ]
              refine wpK_take (i := 4) (v := ?_) rfl (by kernel_rfl) (fun _ _ _ h => h) (Or.inl ⟨by kernel_rfl, ?_⟩) hHeld ?_
              rotate_left
              · intro w hSw; (try dsimp only at hSw); have q0 := hSw.cell 0 (.int .i64 o.k) rfl; have q1 := hSw.cell 1 (.int .i64 o.n) rfl; have q2 := hSw.cell 2 (.string o.s) rfl; go_simp; (try with_reducible rfl)
              simp only [Act.put, List.setIfInBounds_toArray, List.set_cons_zero, List.set_cons_succ]
              refine wpK_one (i := 2) (by kernel_rfl) rfl (fun K' hK => ?_)
              go_simp
              go_wp2_with (go_at_call 21; refine (do_any b m ls o _ Hm6.out hrr).mono ?_; rintro e w7 ⟨v1, rfl, hm7, k7, hs7⟩)
              refine hK.out _ _ (fun _ => Blk.kp hHeld k7 (fun h => h.elim (fun e => nO1 e.symm) nO3)) (fun hHeld' => ?_)
              have hHeld := hHeld' (by decide)
              clear hHeld' hK K'
              have hx7 := Blk.kp Hx6.out k7 (fun h => h.elim (fun e => nbx e.symm) nB2)
              have hl7 := Hl6.out.kp k7 (fun g' hg' h => h.elim (fun e => nB1 (e ▸ hg')) (fun e => ap g' e hg'))
              have hk7 := Hk6.out.trans' k7 (by rintro i _ (h | h); subst h; exact hbw; exact gm i h)
              have gm7 : ∀ g, (m.act o v1).ln.ownBlock = some g → w.heap.size ≤ g := by intro g' hg'; rcases hs7 with h | h; exact gm g' (h ▸ hg'); have := h g' hg'; have := Hk6.out.size; omega
              have ap7 : ∀ g, (m.act o v1).ln.ownBlock = some g → v.ownBlock ≠ some g := by intro g' hg' e; rcases hs7 with h | h; exact ap g' (h ▸ hg') e; have := h g' hg'; have := (Hl6.out.lt g' e).2; omega
              have nC2 : (m.act o v1).ln.ownBlock ≠ some bx := hm7.lines.ne hx7 (by decide)
              have HX7 := Lib.hid hx7; clear hx7
              refine wpK_one (i := 5) (by kernel_rfl) rfl (fun K' hK => ?_)
              go_simp
              go_wp2_with (go_at_call 22; refine (rdo_any bx m v ls o _ HX7.out hm6ok hl7 hm6len hrr HNN.out).mono ?_; rintro e w8 ⟨v2, rfl, hx8, hl8, k8, hs8⟩)
              refine hK.out _ _ (fun _ => Blk.kp hHeld k8 (fun h => h.elim (fun e => nO2 e.symm) nO4)) (fun hHeld' => ?_)
              have hHeld := hHeld' (by decide)
              clear hHeld' hK K'
              have hm8 := hm7.kp k8 (fun h => h.elim nbx nB1) (fun g' hg' h => h.elim (fun e => nC2 (e ▸ hg')) (fun e => ap7 g' hg' e))
              have hx8' : XAt w8 bx (m.act o v1) v2 := XAt.of hx8 (xCells_act _ _ _ _ _)
              have hk8 := hk7.trans' k8 (by rintro i _ (h | h); subst h; exact hbw2; exact gv i h)
              have gv8 : ∀ g, v2.ownBlock = some g → w.heap.size ≤ g := by intro g' hg'; rcases hs8 with h | h; exact gv g' (h ▸ hg'); have := h g' hg'; have := hk7.size; omega
              have ap8 : ∀ g, (m.act o v1).ln.ownBlock = some g → v2.ownBlock ≠ some g := by intro g' hg' e; rcases hs8 with h | h; exact ap7 g' hg' (h ▸ e); have := h g' e; have := (hm7.lines.lt g' hg').2; omega
              clear hm7 k7 hs7 hl7 hk7 HX7 hx8 k8 hs8 ap7 nC2
              generalize m.act o v1 = m' at *
              generalize m.said o ls = ls' at *
              refine wpK_swap (S' := fun w' => Blk w' bo 44 #[.int .i64 o.k, .int .i64 o.n, .string o.s] ∧ Blk w' bx 51 (xCells m' v2)) (K' := 44) ?_ (by decide) _ _ _ _ ?_
              · intro w h; exact h.1
              have hHeld : (fun w' => Blk w' bo 44 #[.int .i64 o.k, .int .i64 o.n, .string o.s] ∧ Blk w' bx 51 (xCells m' v2)) _ := ⟨hHeld, hx8'⟩
              refine wpK_take (i := 6) (v := ?_) rfl (by kernel_rfl) (fun _ _ _ h => h) (Or.inl ⟨by kernel_rfl, ?_⟩) hHeld ?_
              rotate_left
              · intro w hSw; (try dsimp only at hSw); have q0 := hSw.2.cell 8 (.int .i64 m'.st) rfl; have q1 := hSw.2.cell 5 (.int .i64 (m'.lf - m'.f)) rfl; have q2 := hSw.2.cell 6 (.int .i64 (m'.ld - m'.d)) rfl; have q3 := hSw.2.cell 9 v2 rfl; go_simp; (try with_reducible rfl)
              simp only [Act.put, List.setIfInBounds_toArray, List.set_cons_zero, List.set_cons_succ]
              refine wpK_take (i := 7) (v := ?_) rfl (by kernel_rfl) (fun _ _ _ h => h) (Or.inl ⟨by kernel_rfl, ?_⟩) hHeld ?_
              rotate_left
              · intro w hSw; (try dsimp only at hSw); have q0 := hSw.2.cell 8 (.int .i64 m'.st) rfl; have q1 := hSw.2.cell 5 (.int .i64 (m'.lf - m'.f)) rfl; have q2 := hSw.2.cell 6 (.int .i64 (m'.ld - m'.d)) rfl; have q3 := hSw.2.cell 9 v2 rfl; go_simp; (try with_reducible rfl)
              simp only [Act.put, List.setIfInBounds_toArray, List.set_cons_zero, List.set_cons_succ]
              refine wpK_take (i := 8) (v := ?_) rfl (by kernel_rfl) (fun _ _ _ h => h) (Or.inl ⟨by kernel_rfl, ?_⟩) hHeld ?_
              rotate_left
              · intro w hSw; (try dsimp only at hSw); have q0 := hSw.2.cell 8 (.int .i64 m'.st) rfl; have q1 := hSw.2.cell 5 (.int .i64 (m'.lf - m'.f)) rfl; have q2 := hSw.2.cell 6 (.int .i64 (m'.ld - m'.d)) rfl; have q3 := hSw.2.cell 9 v2 rfl; go_simp; (try with_reducible rfl)
              simp only [Act.put, List.setIfInBounds_toArray, List.set_cons_zero, List.set_cons_succ]
              refine wpK_take (i := 10) (v := ?_) rfl (by kernel_rfl) (fun _ _ _ h => h) (Or.inl ⟨by kernel_rfl, ?_⟩) hHeld ?_
              rotate_left
              · intro w hSw; (try dsimp only at hSw); have q0 := hSw.2.cell 8 (.int .i64 m'.st) rfl; have q1 := hSw.2.cell 5 (.int .i64 (m'.lf - m'.f)) rfl; have q2 := hSw.2.cell 6 (.int .i64 (m'.ld - m'.d)) rfl; have q3 := hSw.2.cell 9 v2 rfl; go_simp; (try with_reducible rfl)
              simp only [Act.put, List.setIfInBounds_toArray, List.set_cons_zero, List.set_cons_succ]
              refine wpK_take (i := 11) (v := ?_) rfl (by kernel_rfl) (fun _ _ _ h => h) (Or.inl ⟨by kernel_rfl, ?_⟩) hHeld ?_
              rotate_left
              · intro w hSw; (try dsimp only at hSw); have q0 := hSw.2.cell 8 (.int .i64 m'.st) rfl; have q1 := hSw.2.cell 5 (.int .i64 (m'.lf - m'.f)) rfl; have q2 := hSw.2.cell 6 (.int .i64 (m'.ld - m'.d)) rfl; have q3 := hSw.2.cell 9 v2 rfl; go_simp; (try with_reducible rfl)
              simp only [Act.put, List.setIfInBounds_toArray, List.set_cons_zero, List.set_cons_succ]
              refine wpK_take (i := 12) (v := ?_) rfl (by kernel_rfl) (fun _ _ _ h => h) (Or.inl ⟨by kernel_rfl, ?_⟩) hHeld ?_
              rotate_left
              · intro w hSw; (try dsimp only at hSw); have q0 := hSw.2.cell 8 (.int .i64 m'.st) rfl; have q1 := hSw.2.cell 5 (.int .i64 (m'.lf - m'.f)) rfl; have q2 := hSw.2.cell 6 (.int .i64 (m'.ld - m'.d)) rfl; have q3 := hSw.2.cell 9 v2 rfl; go_simp; (try with_reducible rfl)
              simp only [Act.put, List.setIfInBounds_toArray, List.set_cons_zero, List.set_cons_succ]
              refine wpK_take (i := 13) (v := ?_) rfl (by kernel_rfl) (fun _ _ _ h => h) (Or.inl ⟨by kernel_rfl, ?_⟩) hHeld ?_
              rotate_left
              · intro w hSw; (try dsimp only at hSw); have q0 := hSw.2.cell 8 (.int .i64 m'.st) rfl; have q1 := hSw.2.cell 5 (.int .i64 (m'.lf - m'.f)) rfl; have q2 := hSw.2.cell 6 (.int .i64 (m'.ld - m'.d)) rfl; have q3 := hSw.2.cell 9 v2 rfl; go_simp; (try with_reducible rfl)
              simp only [Act.put, List.setIfInBounds_toArray, List.set_cons_zero, List.set_cons_succ]
              refine wpK_one (i := 9) (by kernel_rfl) rfl (fun K' hK => ?_)
              go_simp
              go_wp2_with (go_at_call 13; refine (stop_any b m' _ hm8.at').mono ?_; rintro e w9 ⟨rfl, rfl⟩)
              refine hK.out _ _ (fun _ => hHeld) (fun hHeld' => ?_)
              have hHeld := hHeld' (by decide)
              clear hHeld' hK K'
              refine wpK_take (i := 14) (v := ?_) rfl (by kernel_rfl) (fun _ _ _ h => h) (Or.inl ⟨by kernel_rfl, ?_⟩) hHeld ?_
              rotate_left
              · intro w hSw; (try dsimp only at hSw); have q0 := hSw.2.cell 8 (.int .i64 m'.st) rfl; have q1 := hSw.2.cell 5 (.int .i64 (m'.lf - m'.f)) rfl; have q2 := hSw.2.cell 6 (.int .i64 (m'.ld - m'.d)) rfl; have q3 := hSw.2.cell 9 v2 rfl; go_simp; (try with_reducible rfl)
              simp only [Act.put, List.setIfInBounds_toArray, List.set_cons_zero, List.set_cons_succ]
              refine wpK_take (i := 15) (v := ?_) rfl (by kernel_rfl) (fun _ _ _ h => h) (Or.inl ⟨by kernel_rfl, ?_⟩) hHeld ?_
              rotate_left
              · intro w hSw; (try dsimp only at hSw); have q0 := hSw.2.cell 8 (.int .i64 m'.st) rfl; have q1 := hSw.2.cell 5 (.int .i64 (m'.lf - m'.f)) rfl; have q2 := hSw.2.cell 6 (.int .i64 (m'.ld - m'.d)) rfl; have q3 := hSw.2.cell 9 v2 rfl; go_simp; (try with_reducible rfl)
              simp only [Act.put, List.setIfInBounds_toArray, List.set_cons_zero, List.set_cons_succ]
              refine wpK_take (i := 16) (v := ?_) rfl (by kernel_rfl) (fun _ _ _ h => h) (Or.inl ⟨by kernel_rfl, ?_⟩) hHeld ?_
              rotate_left
              · intro w hSw; (try dsimp only at hSw); have q0 := hSw.2.cell 8 (.int .i64 m'.st) rfl; have q1 := hSw.2.cell 5 (.int .i64 (m'.lf - m'.f)) rfl; have q2 := hSw.2.cell 6 (.int .i64 (m'.ld - m'.d)) rfl; have q3 := hSw.2.cell 9 v2 rfl; go_simp; (try with_reducible rfl)
              simp only [Act.put, List.setIfInBounds_toArray, List.set_cons_zero, List.set_cons_succ]
              refine wpK_take (i := 17) (v := ?_) rfl (by kernel_rfl) (fun _ _ _ h => h) (Or.inl ⟨by kernel_rfl, ?_⟩) hHeld ?_
              rotate_left
              · intro w hSw; (try dsimp only at hSw); have q0 := hSw.2.cell 8 (.int .i64 m'.st) rfl; have q1 := hSw.2.cell 5 (.int .i64 (m'.lf - m'.f)) rfl; have q2 := hSw.2.cell 6 (.int .i64 (m'.ld - m'.d)) rfl; have q3 := hSw.2.cell 9 v2 rfl; go_simp; (try with_reducible rfl)
              simp only [Act.put, List.setIfInBounds_toArray, List.set_cons_zero, List.set_cons_succ]
              refine wpK_take (i := 19) (v := ?_) rfl (by kernel_rfl) (fun _ _ _ h => h) (Or.inl ⟨by kernel_rfl, ?_⟩) hHeld ?_
              rotate_left
              · intro w hSw; (try dsimp only at hSw); have q0 := hSw.2.cell 8 (.int .i64 m'.st) rfl; have q1 := hSw.2.cell 5 (.int .i64 (m'.lf - m'.f)) rfl; have q2 := hSw.2.cell 6 (.int .i64 (m'.ld - m'.d)) rfl; have q3 := hSw.2.cell 9 v2 rfl; go_simp; (try with_reducible rfl)
              simp only [Act.put, List.setIfInBounds_toArray, List.set_cons_zero, List.set_cons_succ]
              refine wpK_take (i := 20) (v := ?_) rfl (by kernel_rfl) (fun _ _ _ h => h) (Or.inl ⟨by kernel_rfl, ?_⟩) hHeld ?_
              rotate_left
              · intro w hSw; (try dsimp only at hSw); have q0 := hSw.2.cell 8 (.int .i64 m'.st) rfl; have q1 := hSw.2.cell 5 (.int .i64 (m'.lf - m'.f)) rfl; have q2 := hSw.2.cell 6 (.int .i64 (m'.ld - m'.d)) rfl; have q3 := hSw.2.cell 9 v2 rfl; go_simp; (try with_reducible rfl)
              simp only [Act.put, List.setIfInBounds_toArray, List.set_cons_zero, List.set_cons_succ]
              refine wpK_take (i := 21) (v := ?_) rfl (by kernel_rfl) (fun _ _ _ h => h) (Or.inl ⟨by kernel_rfl, ?_⟩) hHeld ?_
              rotate_left
              · intro w hSw; (try dsimp only at hSw); have q0 := hSw.2.cell 8 (.int .i64 m'.st) rfl; have q1 := hSw.2.cell 5 (.int .i64 (m'.lf - m'.f)) rfl; have q2 := hSw.2.cell 6 (.int .i64 (m'.ld - m'.d)) rfl; have q3 := hSw.2.cell 9 v2 rfl; go_simp; (try with_reducible rfl)
              simp only [Act.put, List.setIfInBounds_toArray, List.set_cons_zero, List.set_cons_succ]
              refine wpK_take (i := 22) (v := ?_) rfl (by kernel_rfl) (fun _ _ _ h => h) (Or.inl ⟨by kernel_rfl, ?_⟩) hHeld ?_
              rotate_left
              · intro w hSw; (try dsimp only at hSw); have q0 := hSw.2.cell 8 (.int .i64 m'.st) rfl; have q1 := hSw.2.cell 5 (.int .i64 (m'.lf - m'.f)) rfl; have q2 := hSw.2.cell 6 (.int .i64 (m'.ld - m'.d)) rfl; have q3 := hSw.2.cell 9 v2 rfl; go_simp; (try with_reducible rfl)
              simp only [Act.put, List.setIfInBounds_toArray, List.set_cons_zero, List.set_cons_succ]
              refine wpK_one (i := 18) (by kernel_rfl) rfl (fun K' hK => ?_)
              go_simp
              go_wp2_with (go_at_call 15; refine (steps_kq b m' _ hm8.at' hm8.ok).mono ?_; rintro e w9 ⟨rfl, k9⟩)
              refine hK.out _ _ (fun _ => ⟨Blk.kp hHeld.1 k9 (fun h => h), Blk.kp hHeld.2 k9 (fun h => h)⟩) (fun hHeld' => ?_)
              have hHeld := hHeld' (by decide)
              clear hHeld' hK K'
              have hm9 := hm8.kp k9 (fun h => h) (fun _ _ h => h)
              have hl9 := hl8.kp k9 (fun _ _ h => h)
              have hk9 := hk8.trans' k9 (fun _ _ h => h.elim)
              clear hm8 hl8 hk8 k9
              refine wpK_take (i := 23) (v := ?_) rfl (by kernel_rfl) (fun _ _ _ h => h) (Or.inl ⟨by kernel_rfl, ?_⟩) hHeld ?_
              rotate_left
              · intro w hSw; (try dsimp only at hSw); have q0 := hSw.2.cell 8 (.int .i64 m'.st) rfl; have q1 := hSw.2.cell 5 (.int .i64 (m'.lf - m'.f)) rfl; have q2 := hSw.2.cell 6 (.int .i64 (m'.ld - m'.d)) rfl; have q3 := hSw.2.cell 9 v2 rfl; go_simp; (try with_reducible rfl)
              simp only [Act.put, List.setIfInBounds_toArray, List.set_cons_zero, List.set_cons_succ]
              refine wpK_take (i := 24) (v := ?_) rfl (by kernel_rfl) (fun _ _ _ h => h) (Or.inl ⟨by kernel_rfl, ?_⟩) hHeld ?_
              rotate_left
              · intro w hSw; (try dsimp only at hSw); have q0 := hSw.2.cell 8 (.int .i64 m'.st) rfl; have q1 := hSw.2.cell 5 (.int .i64 (m'.lf - m'.f)) rfl; have q2 := hSw.2.cell 6 (.int .i64 (m'.ld - m'.d)) rfl; have q3 := hSw.2.cell 9 v2 rfl; go_simp; (try with_reducible rfl)
              simp only [Act.put, List.setIfInBounds_toArray, List.set_cons_zero, List.set_cons_succ]
              refine wpK_take (i := 25) (v := ?_) rfl (by kernel_rfl) (fun _ _ _ h => h) (Or.inl ⟨by kernel_rfl, ?_⟩) hHeld ?_
              rotate_left
              · intro w hSw; (try dsimp only at hSw); have q0 := hSw.2.cell 8 (.int .i64 m'.st) rfl; have q1 := hSw.2.cell 5 (.int .i64 (m'.lf - m'.f)) rfl; have q2 := hSw.2.cell 6 (.int .i64 (m'.ld - m'.d)) rfl; have q3 := hSw.2.cell 9 v2 rfl; go_simp; (try with_reducible rfl)
              simp only [Act.put, List.setIfInBounds_toArray, List.set_cons_zero, List.set_cons_succ]
              refine wpK_take (i := 26) (v := ?_) rfl (by kernel_rfl) (fun _ _ _ h => h) (Or.inl ⟨by kernel_rfl, ?_⟩) hHeld ?_
              rotate_left
              · intro w hSw; (try dsimp only at hSw); have q0 := hSw.2.cell 8 (.int .i64 m'.st) rfl; have q1 := hSw.2.cell 5 (.int .i64 (m'.lf - m'.f)) rfl; have q2 := hSw.2.cell 6 (.int .i64 (m'.ld - m'.d)) rfl; have q3 := hSw.2.cell 9 v2 rfl; go_simp; (try with_reducible rfl)
              simp only [Act.put, List.setIfInBounds_toArray, List.set_cons_zero, List.set_cons_succ]
              refine wpK_take (i := 28) (v := ?_) rfl (by kernel_rfl) (fun _ _ _ h => h) (Or.inl ⟨by kernel_rfl, ?_⟩) hHeld ?_
              rotate_left
              · intro w hSw; (try dsimp only at hSw); have q0 := hSw.2.cell 8 (.int .i64 m'.st) rfl; have q1 := hSw.2.cell 5 (.int .i64 (m'.lf - m'.f)) rfl; have q2 := hSw.2.cell 6 (.int .i64 (m'.ld - m'.d)) rfl; have q3 := hSw.2.cell 9 v2 rfl; go_simp; (try with_reducible rfl)
              simp only [Act.put, List.setIfInBounds_toArray, List.set_cons_zero, List.set_cons_succ]
              refine wpK_take (i := 29) (v := ?_) rfl (by kernel_rfl) (fun _ _ _ h => h) (Or.inl ⟨by kernel_rfl, ?_⟩) hHeld ?_
              rotate_left
              · intro w hSw; (try dsimp only at hSw); have q0 := hSw.2.cell 8 (.int .i64 m'.st) rfl; have q1 := hSw.2.cell 5 (.int .i64 (m'.lf - m'.f)) rfl; have q2 := hSw.2.cell 6 (.int .i64 (m'.ld - m'.d)) rfl; have q3 := hSw.2.cell 9 v2 rfl; go_simp; (try with_reducible rfl)
              simp only [Act.put, List.setIfInBounds_toArray, List.set_cons_zero, List.set_cons_succ]
              refine wpK_take (i := 30) (v := ?_) rfl (by kernel_rfl) (fun _ _ _ h => h) (Or.inl ⟨by kernel_rfl, ?_⟩) hHeld ?_
              rotate_left
              · intro w hSw; (try dsimp only at hSw); have q0 := hSw.2.cell 8 (.int .i64 m'.st) rfl; have q1 := hSw.2.cell 5 (.int .i64 (m'.lf - m'.f)) rfl; have q2 := hSw.2.cell 6 (.int .i64 (m'.ld - m'.d)) rfl; have q3 := hSw.2.cell 9 v2 rfl; go_simp; (try with_reducible rfl)
              simp only [Act.put, List.setIfInBounds_toArray, List.set_cons_zero, List.set_cons_succ]
              refine wpK_take (i := 31) (v := ?_) rfl (by kernel_rfl) (fun _ _ _ h => h) (Or.inl ⟨by kernel_rfl, ?_⟩) hHeld ?_
              rotate_left
              · intro w hSw; (try dsimp only at hSw); have q0 := hSw.2.cell 8 (.int .i64 m'.st) rfl; have q1 := hSw.2.cell 5 (.int .i64 (m'.lf - m'.f)) rfl; have q2 := hSw.2.cell 6 (.int .i64 (m'.ld - m'.d)) rfl; have q3 := hSw.2.cell 9 v2 rfl; go_simp; (try with_reducible rfl)
              simp only [Act.put, List.setIfInBounds_toArray, List.set_cons_zero, List.set_cons_succ]
              refine wpK_one (i := 27) (by kernel_rfl) rfl (fun K' hK => ?_)
              go_simp
              go_wp2_with (go_at_call 12; refine (deep_kq b m' _ hm9.at' hm9.ok).mono ?_; rintro e wA ⟨rfl, kA⟩)
              refine hK.out _ _ (fun _ => ⟨Blk.kp hHeld.1 kA (fun h => h), Blk.kp hHeld.2 kA (fun h => h)⟩) (fun hHeld' => ?_)
              have hHeld := hHeld' (by decide)
              clear hHeld' hK K'
              have hmA := hm9.kp kA (fun h => h) (fun _ _ h => h)
              have hlA := hl9.kp kA (fun _ _ h => h)
              have hkA := hk9.trans' kA (fun _ _ h => h.elim)
              clear hm9 hl9 hk9 kA
              refine wpK_take (i := 32) (v := ?_) rfl (by kernel_rfl) (fun _ _ _ h => h) (Or.inl ⟨by kernel_rfl, ?_⟩) hHeld ?_
              rotate_left
              · intro w hSw; (try dsimp only at hSw); have q0 := hSw.2.cell 8 (.int .i64 m'.st) rfl; have q1 := hSw.2.cell 5 (.int .i64 (m'.lf - m'.f)) rfl; have q2 := hSw.2.cell 6 (.int .i64 (m'.ld - m'.d)) rfl; have q3 := hSw.2.cell 9 v2 rfl; go_simp; (try with_reducible rfl)
              simp only [Act.put, List.setIfInBounds_toArray, List.set_cons_zero, List.set_cons_succ]
              refine wpK_take (i := 33) (v := ?_) rfl (by kernel_rfl) (fun _ _ _ h => h) (Or.inl ⟨by kernel_rfl, ?_⟩) hHeld ?_
              rotate_left
              · intro w hSw; (try dsimp only at hSw); have q0 := hSw.2.cell 8 (.int .i64 m'.st) rfl; have q1 := hSw.2.cell 5 (.int .i64 (m'.lf - m'.f)) rfl; have q2 := hSw.2.cell 6 (.int .i64 (m'.ld - m'.d)) rfl; have q3 := hSw.2.cell 9 v2 rfl; go_simp; (try with_reducible rfl)
              simp only [Act.put, List.setIfInBounds_toArray, List.set_cons_zero, List.set_cons_succ]
              refine wpK_take (i := 34) (v := ?_) rfl (by kernel_rfl) (fun _ _ _ h => h) (Or.inl ⟨by kernel_rfl, ?_⟩) hHeld ?_
              rotate_left
              · intro w hSw; (try dsimp only at hSw); have q0 := hSw.2.cell 8 (.int .i64 m'.st) rfl; have q1 := hSw.2.cell 5 (.int .i64 (m'.lf - m'.f)) rfl; have q2 := hSw.2.cell 6 (.int .i64 (m'.ld - m'.d)) rfl; have q3 := hSw.2.cell 9 v2 rfl; go_simp; (try with_reducible rfl)
              simp only [Act.put, List.setIfInBounds_toArray, List.set_cons_zero, List.set_cons_succ]
              refine wpK_take (i := 35) (v := ?_) rfl (by kernel_rfl) (fun _ _ _ h => h) (Or.inl ⟨by kernel_rfl, ?_⟩) hHeld ?_
              rotate_left
              · intro w hSw; (try dsimp only at hSw); have q0 := hSw.2.cell 8 (.int .i64 m'.st) rfl; have q1 := hSw.2.cell 5 (.int .i64 (m'.lf - m'.f)) rfl; have q2 := hSw.2.cell 6 (.int .i64 (m'.ld - m'.d)) rfl; have q3 := hSw.2.cell 9 v2 rfl; go_simp; (try with_reducible rfl)
              simp only [Act.put, List.setIfInBounds_toArray, List.set_cons_zero, List.set_cons_succ]
              refine wpK_take (i := 37) (v := ?_) rfl (by kernel_rfl) (fun _ _ _ h => h) (Or.inl ⟨by kernel_rfl, ?_⟩) hHeld ?_
              rotate_left
              · intro w hSw; (try dsimp only at hSw); have q0 := hSw.2.cell 8 (.int .i64 m'.st) rfl; have q1 := hSw.2.cell 5 (.int .i64 (m'.lf - m'.f)) rfl; have q2 := hSw.2.cell 6 (.int .i64 (m'.ld - m'.d)) rfl; have q3 := hSw.2.cell 9 v2 rfl; go_simp; (try with_reducible rfl)
              simp only [Act.put, List.setIfInBounds_toArray, List.set_cons_zero, List.set_cons_succ]
              refine wpK_take (i := 38) (v := ?_) rfl (by kernel_rfl) (fun _ _ _ h => h) (Or.inl ⟨by kernel_rfl, ?_⟩) hHeld ?_
              rotate_left
              · intro w hSw; (try dsimp only at hSw); have q0 := hSw.2.cell 8 (.int .i64 m'.st) rfl; have q1 := hSw.2.cell 5 (.int .i64 (m'.lf - m'.f)) rfl; have q2 := hSw.2.cell 6 (.int .i64 (m'.ld - m'.d)) rfl; have q3 := hSw.2.cell 9 v2 rfl; go_simp; (try with_reducible rfl)
              simp only [Act.put, List.setIfInBounds_toArray, List.set_cons_zero, List.set_cons_succ]
              refine wpK_take (i := 39) (v := ?_) rfl (by kernel_rfl) (fun _ _ _ h => h) (Or.inl ⟨by kernel_rfl, ?_⟩) hHeld ?_
              rotate_left
              · intro w hSw; (try dsimp only at hSw); have q0 := hSw.2.cell 8 (.int .i64 m'.st) rfl; have q1 := hSw.2.cell 5 (.int .i64 (m'.lf - m'.f)) rfl; have q2 := hSw.2.cell 6 (.int .i64 (m'.ld - m'.d)) rfl; have q3 := hSw.2.cell 9 v2 rfl; go_simp; (try with_reducible rfl)
              simp only [Act.put, List.setIfInBounds_toArray, List.set_cons_zero, List.set_cons_succ]
              refine wpK_take (i := 40) (v := ?_) rfl (by kernel_rfl) (fun _ _ _ h => h) (Or.inl ⟨by kernel_rfl, ?_⟩) hHeld ?_
              rotate_left
              · intro w hSw; (try dsimp only at hSw); have q0 := hSw.2.cell 8 (.int .i64 m'.st) rfl; have q1 := hSw.2.cell 5 (.int .i64 (m'.lf - m'.f)) rfl; have q2 := hSw.2.cell 6 (.int .i64 (m'.ld - m'.d)) rfl; have q3 := hSw.2.cell 9 v2 rfl; go_simp; (try with_reducible rfl)
              simp only [Act.put, List.setIfInBounds_toArray, List.set_cons_zero, List.set_cons_succ]
              refine wpK_one (i := 36) (by kernel_rfl) rfl (fun K' hK => ?_)
              go_simp
              go_wp2_with (go_at_call 20; refine (lines_any b m' ls' _ hmA.at' hmA.lines hmA.len).mono ?_; rintro e wB ⟨vc, rfl, hLc, hkB, hnc⟩)
              refine hK.out _ _ (fun _ => ⟨Blk.below hHeld.1 hkB (Blk.lt hHeld.1), Blk.below hHeld.2 hkB (Blk.lt hHeld.2)⟩) (fun hHeld' => ?_)
              have hHeld := hHeld' (by decide)
              clear hHeld' hK K'
              have kB : Kp (fun _ => False) wA wB := Kp.of_below hkB
              have hmB := hmA.kp kB (fun h => h) (fun _ _ h => h)
              have hlB := hlA.kp kB (fun _ _ h => h)
              have hkB' := hkA.trans' kB (fun _ _ h => h.elim)
              clear hmA hlA hkA kB hkB hnc
              refine wpK_one (i := 41) (by kernel_rfl) rfl (fun K' hK => ?_)
              go_simp
              go_wp2_with (go_at_call 23; refine (linesEq_any vc v2 ls' ls' _ hLc.strs hlB.strs hmB.len hmB.len).mono ?_; rintro e wC ⟨he, qn, rfl⟩; obtain rfl : e = .returned (.bool true) := by rw [he]; simp)
              refine hK.out _ _ (fun _ => ⟨Blk.drewN hHeld.1 _, Blk.drewN hHeld.2 _⟩) (fun hHeld' => ?_)
              have hHeld := hHeld' (by decide)
              clear hHeld' hK K'
              refine wpK_take (i := 42) (v := ?_) rfl (by kernel_rfl) (fun _ _ _ h => h) (Or.inl ⟨by kernel_rfl, ?_⟩) hHeld ?_
              rotate_left
              · intro w hSw; (try dsimp only at hSw); have q0 := hSw.2.cell 8 (.int .i64 m'.st) rfl; have q1 := hSw.2.cell 5 (.int .i64 (m'.lf - m'.f)) rfl; have q2 := hSw.2.cell 6 (.int .i64 (m'.ld - m'.d)) rfl; have q3 := hSw.2.cell 9 v2 rfl; go_simp; (try with_reducible rfl)
              simp only [Act.put, List.setIfInBounds_toArray, List.set_cons_zero, List.set_cons_succ]
              refine wpK_take (i := 43) (v := ?_) rfl (by kernel_rfl) (fun _ _ _ h => h) (Or.inl ⟨by kernel_rfl, ?_⟩) hHeld ?_
              rotate_left
              · intro w hSw; (try dsimp only at hSw); have q0 := hSw.2.cell 8 (.int .i64 m'.st) rfl; have q1 := hSw.2.cell 5 (.int .i64 (m'.lf - m'.f)) rfl; have q2 := hSw.2.cell 6 (.int .i64 (m'.ld - m'.d)) rfl; have q3 := hSw.2.cell 9 v2 rfl; go_simp; (try with_reducible rfl)
              simp only [Act.put, List.setIfInBounds_toArray, List.set_cons_zero, List.set_cons_succ]
              refine wpK_done (by kernel_rfl) ?_ _
              have HI : InPlays w b bx (wB.drewN qn) m' v2 ls' := ⟨hmB.kp ((Kp.refl (fun _ => False) _).drewN _) (fun h => h) (fun _ _ h => h), hHeld.2, hlB.kp ((Kp.refl (fun _ => False) _).drewN _) (fun _ _ h => h), gm7, gv8, ap8, hkB'.drewN _⟩
              have HI' := Lib.hid HI
              clear HI hmB hlB hkB' hHeld gm7 gv8 ap8 hLc
              go_wp2
              go_roundg (gk - 1)
              case measure => omega
              case rel => exact ⟨j + 1, m', v2, ls', by omega, by go_num, HI'.out⟩
      · go_wp2
        go_returns
        exact ⟨rfl, hI.k.below (Nat.le_refl _) (fun _ _ => by omega)⟩
end Go.Proofs.Ytmngeljbcnifgaa
