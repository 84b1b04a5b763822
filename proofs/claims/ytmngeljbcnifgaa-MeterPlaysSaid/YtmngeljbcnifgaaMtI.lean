/- selkielaw19.MeterStops answers true: the walk. -/
import Derived.Test.YtmngeljbcnifgaaMtH
import Derived.Deep.DeepCutAuto
import Derived.Deep.LoopGhost
namespace Go.Proofs.Ytmngeljbcnifgaa
set_option linter.unusedSimpArgs false
set_option linter.unusedVariables false
open Go.RowKit

structure Lims where
  (f d c s o : Int)
def Lims.val (l : Lims) : Value := .agg #[.int .i64 l.f, .int .i64 l.d, .int .i64 l.c, .int .i64 l.s, .int .i64 l.o]
def Lims.cells (l : Lims) : Array Value := #[.int .i64 l.f, .int .i64 l.d, .int .i64 l.c, .int .i64 l.s, .int .i64 l.o]
def Lims.right (l : Lims) : Bool := rightB l.f l.d l.c l.s l.o
def Lims.new (l : Lims) : MS := MS.new l.f l.d l.c l.s l.o
/-- The meter has these limits. -/
structure Has (m : MS) (l : Lims) : Prop where
  f : m.lf = l.f
  d : m.ld = l.d
  c : m.lc = l.c
  s : m.ls = l.s
  o : m.lo = l.o
theorem has_new (l : Lims) : Has l.new l := ⟨rfl, rfl, rfl, rfl, rfl⟩
theorem has_act {m : MS} {l : Lims} (h : Has m l) (o : Ste) (v : Value) : Has (m.act o v) l := by
  obtain ⟨h1, h2, h3, h4, h5⟩ := h
  unfold MS.act MS.step MS.enter MS.leave MS.used MS.text MS.line
  repeat' split
  all_goals exact ⟨h1, h2, h3, h4, h5⟩
theorem act_st {m : MS} (h : ¬ m.st = 0) (o : Ste) (v : Value) : (m.act o v).st = m.st := by
  unfold MS.act MS.step MS.enter MS.leave MS.used MS.text MS.line
  simp only [if_neg h]
  repeat' split
  all_goals rfl
/-- What a step answers: what it stopped by, or 0. -/
theorem ans_of (m : MS) (o : Ste) (v : Value) : m.ans o = (m.act o v).st ∨ m.ans o = 0 := by
  unfold MS.ans MS.act
  repeat' split
  all_goals first | exact .inl rfl | exact .inr rfl | exact .inl (line_st _ _ _ _)
theorem ans_st {m : MS} (o : Ste) (h : ¬ m.st = 0) (hk : 1 ≤ o.k ∧ o.k ≤ 6 ∧ ¬ o.k = 3) : m.ans o = m.st := by
  unfold MS.ans MS.step MS.enter MS.used MS.text MS.line
  simp only [if_neg h]
  repeat' split
  all_goals first | rfl | omega
theorem ans_0 {m : MS} (o : Ste) (hk : ¬ (1 ≤ o.k ∧ o.k ≤ 6 ∧ ¬ o.k = 3)) : m.ans o = 0 := by
  unfold MS.ans
  repeat' split
  all_goals first | rfl | omega

theorem mtr_new {w : World} {b : Nat} {l : Lims} (h : MAt w b l.new) (hr : l.right = true) : Mtr w b l.new [] :=
  ⟨h, ok_new hr, World.ownsRow_nil _ _ _ _, by simp [sz, Lims.new, MS.new]⟩

/-- The state ahead of a round. -/
def InStops (w : World) (b bl : Nat) (l : Lims) (wr : World) (m : MS) (ls : List ByteArray) : Prop :=
  Mtr wr b m ls ∧ Has m l ∧ Blk wr bl 34 l.cells ∧ (∀ g, m.ln.ownBlock = some g → w.heap.size ≤ g) ∧ Kp (fun i => w.heap.size ≤ i) w wr

theorem sz_take_succ (ls : List ByteArray) (j : Nat) (hj : j < ls.length) : sz (ls.take (j + 1)) = sz (ls.take j) + (ls[j].size + 1) := by
  rw [List.take_succ_eq_append_getElem hj, sz_snoc]
theorem sz_take_le (ls : List ByteArray) (j : Nat) : sz (ls.take j) ≤ sz ls := by
  have := congrArg sz (List.take_append_drop j ls)
  simp only [sz, List.map_append, List.sum_append] at this ⊢
  omega

set_option maxRecDepth 100000 in
set_option maxHeartbeats 4000000 in
theorem stops_any (l : Lims) (hr : l.right = true) (ob off len cap : Nat) (os : Nat → Ste) (w : World) (ho : Stes w ob off len os) (hlen : len * 32 ≤ 140737488351232) :
    Calls Try.prog 5 #[l.val, .slice (some ⟨ob, off, none⟩) len cap] w fun e w' => e = .returned (.bool true) ∧ Below w.heap.size w w' := by
  have HO := Lib.hid ho
  have hob := ho.lt
  clear ho
  unfold Lims.val
  go_enter Try.func5, Try.ntmps5
  go_wp2_with fail
  refine (alive_any _).mono ?_
  rintro e w1 ⟨rfl, hk⟩
  have hl1 : Blk w1 w.heap.size 34 l.cells := (Blk.new rfl).below hk (by simp)
  have k1 : Kp (fun i => w.heap.size ≤ i) w w1 := ((Kp.refl _ w).alloc _).trans (Kp.of_below hk)
  clear hk
  go_wp2_with fail
  refine (great_any ob off len cap os _ (HO.out.kp k1 (by simp; omega)) hlen).mono ?_
  rintro e w2 ⟨g, rfl, hk⟩
  have hl2 := hl1.below hk hl1.lt
  have k2 := k1.trans (Kp.of_below hk)
  clear hk hl1 k1
  have hs2 := k2.size
  cases g with
  | true =>
    go_wp2
    go_returns
    exact ⟨rfl, k2.below (Nat.le_refl _) (fun _ _ => by omega)⟩
  | false =>
    have c0 := hl2.cell 0 (.int .i64 l.f) rfl
    have c1 := hl2.cell 1 (.int .i64 l.d) rfl
    have c2 := hl2.cell 2 (.int .i64 l.c) rfl
    have c3 := hl2.cell 3 (.int .i64 l.s) rfl
    have c4 := hl2.cell 4 (.int .i64 l.o) rfl
    go_wp2_with fail
    refine (new_ok l.f l.d l.c l.s l.o _ hr).mono ?_
    rintro e w3 ⟨b, rfl, hb, hm, hk⟩
    have hm3 : Mtr w3 b l.new [] := mtr_new hm hr
    have hl3 := hl2.below hk hl2.lt
    have k3 := k2.trans (Kp.of_below hk)
    have hbw : w.heap.size ≤ b := by omega
    have nbl : ¬ w.heap.size = b := by have := hl2.lt; omega
    have hI : InStops w b w.heap.size l w3 l.new [] := ⟨hm3, has_new l, hl3, (fun g hg => by cases hg), k3⟩
    generalize hbl : w.heap.size = bl at nbl hl3 hI ⊢
    have HBL := Lib.hid hbl; clear hbl
    clear c0 c1 c2 c3 c4 hm hm3 hk hl2 k2 hl3 k3 hb hs2
    have hm0 := hI
    go_wp2_with fail
    go_loopg [29] len (fun gk iv wr => ∃ (j : Nat) (m : MS) (ls : List ByteArray), j + gk = len ∧ iv = .int .i64 j ∧ InStops w b bl l wr m ls)
    case atStart => exact ⟨0, _, _, by omega, rfl, hI⟩
    case round =>
      clear hI hm0
      obtain ⟨j, m, ls, hj, rfl, hI⟩ := hrel
      obtain ⟨hm, hh, hb, hg, hk⟩ := hI
      by_cases hlt : j < len
      · have h1 := (hk.cell (p := ⟨ob, off + j * 3, none⟩) hob (by simp; omega)).trans (HO.out.k j hlt)
        have h2 := (hk.cell (p := ⟨ob, off + j * 3 + 1, none⟩) hob (by simp; omega)).trans (HO.out.n j hlt)
        have h3 := (hk.cell (p := ⟨ob, off + j * 3 + 2, none⟩) hob (by simp; omega)).trans (HO.out.s j hlt)
        have hrr := HO.out.r j hlt
        have hws := hk.size
        generalize os j = o at *
        go_wp2_with fail
        have k4 : Kp (fun _ => False) wr (wr.alloc (.cells #[.int .i64 o.k, .int .i64 o.n, .string o.s] 44)) := (Kp.refl _ _).alloc _
        have hm4 := hm.kp k4 (fun h => h) (fun _ _ h => h)
        have hb4 := hb.kp k4 (fun h => h)
        have hk4 := hk.trans' k4 (fun _ _ h => h.elim)
        have hO4 : Blk (wr.alloc (.cells #[.int .i64 o.k, .int .i64 o.n, .string o.s] 44)) wr.heap.size 44 #[.int .i64 o.k, .int .i64 o.n, .string o.s] := Blk.new rfl
        have nO : ¬ b = wr.heap.size := by have := hm.at'.lt; omega
        have nO2 : m.ln.ownBlock ≠ some wr.heap.size := fun e => by have := (hm.lines.lt _ e).2; omega
        have nO3 : ¬ bl = wr.heap.size := by have := hb.lt; omega
        generalize wr.alloc (.cells #[.int .i64 o.k, .int .i64 o.n, .string o.s] 44) = w4 at *
        generalize wr.heap.size = bo at *
        clear k4 hm hb hk h1 h2 h3 
        refine (stop_any b m _ hm4.at').mono ?_
        rintro e w5 ⟨rfl, rfl⟩
        have o0 := hO4.cell 0 (.int .i64 o.k) rfl
        have o1 := hO4.cell 1 (.int .i64 o.n) rfl
        have o2 := hO4.cell 2 (.string o.s) rfl
        go_wp2_with fail
        refine (do_any b m ls o _ hm4 hrr).mono ?_
        rintro e w6 ⟨v, rfl, hm6, k6, hs6⟩
        have hb6 := hb4.kp k6 (by rintro (h | h); exact nbl h; exact hm4.lines.ne hb4 (by decide) h)
        have hO6 := hO4.kp k6 (by rintro (h | h); exact nO h.symm; exact nO2 h)
        have hk6 := hk4.trans' k6 (by
          rintro i _ (h | h)
          · subst h; exact hbw
          · exact hg i h)
        have hg6 : ∀ g, (m.act o v).ln.ownBlock = some g → w.heap.size ≤ g := by
          intro g hgg
          rcases hs6 with h | h
          · rw [h] at hgg; exact hg g hgg
          · have := h g hgg; have := hk4.size; omega
        have hh6 := has_act hh o v
        have qA := ans_of m o v
        have qB : ¬ m.st = 0 → (m.act o v).st = m.st := fun h => act_st h o v
        have qC : ¬ m.st = 0 → (1 ≤ o.k ∧ o.k ≤ 6 ∧ ¬ o.k = 3) → m.ans o = m.st := fun h h' => ans_st o h h'
        have qD : ¬ (1 ≤ o.k ∧ o.k ≤ 6 ∧ ¬ o.k = 3) → m.ans o = 0 := fun h => ans_0 o h
        generalize hst : m.st = st at *
        generalize m.ans o = r at *
        generalize m.act o v = m6 at *
        generalize m.said o ls = ls6 at *
        have o0 := hO6.cell 0 (.int .i64 o.k) rfl
        clear hm4 hb4 hk4 hO4 k6 hs6 hh hg o1 o2 hst
        go_upto_region 13 with fail
        go_cut [75] (fun s wc => s = .bool false ∧ wc = w6)
        case first =>
          have cS := stop_any b m6 w6 hm6.at'
          have CS := Lib.hid cS; clear cS
          by_cases s0 : st = 0
          · clear qB qC qD
            subst s0
            by_cases r0 : r = 0
            · clear qA
              subst r0
              go_wp2_with fail
              go_meet
              exact ⟨rfl, rfl⟩
            · have r1 : r = m6.st := qA.resolve_right r0
              clear qA
              have r2 : (r != 0) = true := by simpa using r0
              rw [← r1] at CS
              clear r1 r0
              go_wp2_with fail
              refine CS.out.mono ?_
              rintro e w7 ⟨rfl, rfl⟩
              go_wp2_with fail
              go_meet
              exact ⟨rfl, rfl⟩
          · have s1 := qB s0
            have s2 : (st != 0) = true := by simpa using s0
            rw [s1] at CS
            by_cases ck : 1 ≤ o.k ∧ o.k ≤ 6 ∧ ¬ o.k = 3
            · have r1 := qC s0 ck
              subst r1
              clear qA qB qC qD s0 s1
              obtain ⟨d1, d2, d3⟩ := ck
              have d4 : (o.k != 3) = true := by simpa using d3
              clear d3
              go_wp2_with fail
              refine CS.out.mono ?_
              rintro e w7 ⟨rfl, rfl⟩
              go_wp2_with fail
              refine CS.out.mono ?_
              rintro e w7 ⟨rfl, rfl⟩
              go_wp2_with fail
              go_meet
              exact ⟨rfl, rfl⟩
            · have r1 := qD ck
              subst r1
              clear qA qB qC qD s0 s1
              go_wp2_with fail
              refine CS.out.mono ?_
              rintro e w7 ⟨rfl, rfl⟩
              by_cases d1 : 1 ≤ o.k
              · by_cases d2 : o.k ≤ 6
                · have d3 : o.k = 3 := by omega
                  have d4 : (o.k != 3) = false := by simp [d3]
                  clear d3 ck
                  go_wp2_with fail
                  go_meet
                  exact ⟨rfl, rfl⟩
                · clear ck
                  go_wp2_with fail
                  go_meet
                  exact ⟨rfl, rfl⟩
              · clear ck
                go_wp2_with fail
                go_meet
                exact ⟨rfl, rfl⟩
        case rest =>
          obtain ⟨rfl, rfl⟩ := hcut
          clear qA qB qC qD o0 hO6 nO nO2 nO3 hws
          go_wp2_with fail
          refine (lines_any b m6 ls6 _ hm6.at' hm6.lines hm6.len).mono ?_
          rintro e w7 ⟨v', rfl, hL, hk, hnew⟩
          have hm7 := hm6.kp (Kp.of_below hk (S := fun _ => False)) (fun h => h) (fun _ _ h => h)
          have hb7 := hb6.below hk hb6.lt
          have hk7 := hk6.trans (Kp.of_below hk)
          clear hk hnew hm6 hb6 hk6
          have hI7 : InStops w b bl l w7 m6 ls6 := ⟨hm7, hh6, hb7, hg6, hk7⟩
          have HI := Lib.hid hI7
          have z1 := hm7.size
          have z2 := hm7.ok.o0
          have z3 := hm7.ok.o1
          have z4 := hm7.ok.o2
          have z5 := hm7.len
          have lb0 := hb7.cell 0 (.int .i64 l.f) rfl
          have lb1 := hb7.cell 1 (.int .i64 l.d) rfl
          have lb4 := hb7.cell 4 (.int .i64 l.o) rfl
          have dx0 : decide (l.f < m6.lf - m6.f) = false := by have := hh6.f; have := hm7.ok.f0; simp; omega
          have dx1 : decide (l.d < m6.ld - m6.d) = false := by have := hh6.d; have := hm7.ok.d0; simp; omega
          have dx2 : decide (m6.ld - m6.d < 0) = false := by have := hm7.ok.d1; simp; omega
          have dx4 : decide (l.o < (sz ls6 : Int)) = false := by have := hh6.o; simp; omega
          have hms := hm7.at'
          have hok := hm7.ok
          have CS := Lib.hid (fun n => steps_any b m6 (w7.drewN n) (Blk.drewN hms n) hok)
          have CD := Lib.hid (fun n => deep_any b m6 (w7.drewN n) (Blk.drewN hms n) hok)
          have z6 : (sz ls6 : Int) ≤ 1000000 := by omega
          have dx5 : decide (l.o < 0) = false := by have := hh6.o; simp; omega
          clear z1 z2 z3 z4
          have st := hL.strs
          clear hI7 hm7 hb7 hk7 hh6 hg6 hms hok hL
          rcases st with ⟨rfl, rfl⟩ | ⟨g, off', cap', rfl, hg', hcs⟩
          · go_wp2_with fail
            refine wp_loop_rounds 1 ?_
            rw [rounds_succ]
            go_wp2_with fail
            go_quiet (first | (go_at_call 15; exact Calls.quiet_of (CS.out _)) | (go_at_call 12; exact Calls.quiet_of (CD.out _)))
            go_wp2
            go_roundg (gk - 1)
            case measure => omega
            case rel => exact ⟨j + 1, m6, _, by omega, by go_num, HI.out.1.kp ((Kp.refl (fun _ => False) _).drewN _) (fun h => h) (fun _ _ h => h), HI.out.2.1, HI.out.2.2.1.drewN _, HI.out.2.2.2.1, HI.out.2.2.2.2.drewN _⟩
          · have HCS := Lib.hid hcs; clear hcs
            go_wp2_with fail
            go_loop [11, 79] (fun nv iv => ∃ i : Nat, iv = .int .i64 i ∧ nv = .int .i64 (sz (ls6.take i)) ∧ i ≤ ls6.length) (fun _ iv => ls6.length - (intOf iv).toNat)
            case atStart => exact ⟨0, rfl, rfl, Nat.zero_le _⟩
            case round =>
              obtain ⟨i, rfl, rfl, hi⟩ := hrel
              by_cases hil : i < ls6.length
              · have hc1 := HCS.out i hil
                have hsn := sz_take_succ ls6 i hil
                have hsl := sz_take_le ls6 i
                have hsl2 := sz_take_le ls6 (i + 1)
                have HSN := Lib.hid hsn
                generalize ls6[i] = x at *
                have hx : (x.size : Int) ≤ 1000000 := by omega
                clear hsn
                go_wp2
                go_round
                case rel => exact ⟨i + 1, by go_num, by rw [HSN.out]; go_num, by omega⟩
                case measure => simp [intOf]; omega
              · obtain rfl : i = ls6.length := by omega
                rw [List.take_length]
                go_wp2_with fail
                go_quiet (first | (go_at_call 15; exact Calls.quiet_of (CS.out _)) | (go_at_call 12; exact Calls.quiet_of (CD.out _)))
                go_wp2
                go_roundg (gk - 1)
                case measure => omega
                case rel => exact ⟨j + 1, m6, _, by omega, by go_num, HI.out.1.kp ((Kp.refl (fun _ => False) _).drewN _) (fun h => h) (fun _ _ h => h), HI.out.2.1, HI.out.2.2.1.drewN _, HI.out.2.2.2.1, HI.out.2.2.2.2.drewN _⟩
      · go_wp2
        go_returns
        exact ⟨rfl, hk.below (Nat.le_refl _) (fun _ _ => by omega)⟩

set_option maxRecDepth 100000 in
set_option maxHeartbeats 1000000 in
theorem stops_none (l : Lims) (hr : l.right = true) (sa : Option Addr) (len cap : Nat) (w : World) (hlen : len ≤ 0) :
    Calls Try.prog 5 #[l.val, .slice sa len cap] w fun e w' => e = .returned (.bool true) ∧ Below w.heap.size w w' := by
  obtain rfl : len = 0 := by omega
  unfold Lims.val
  go_enter Try.func5, Try.ntmps5
  go_wp2_with fail
  refine (alive_any _).mono ?_
  rintro e w1 ⟨rfl, hk⟩
  have hl1 : Blk w1 w.heap.size 34 l.cells := (Blk.new rfl).below hk (by simp)
  have k1 : Kp (fun i => w.heap.size ≤ i) w w1 := ((Kp.refl _ w).alloc _).trans (Kp.of_below hk)
  clear hk
  go_wp2_with fail
  refine (great_nil sa 0 cap _ (Nat.le_refl _)).mono ?_
  rintro e w2 ⟨g, rfl, hk⟩
  have hl2 := hl1.below hk hl1.lt
  have k2 := k1.trans (Kp.of_below hk)
  clear hk hl1 k1
  have hs2 := k2.size
  cases g with
  | true =>
    go_wp2
    go_returns
    exact ⟨rfl, k2.below (Nat.le_refl _) (fun _ _ => by omega)⟩
  | false =>
    have c0 := hl2.cell 0 (.int .i64 l.f) rfl
    have c1 := hl2.cell 1 (.int .i64 l.d) rfl
    have c2 := hl2.cell 2 (.int .i64 l.c) rfl
    have c3 := hl2.cell 3 (.int .i64 l.s) rfl
    have c4 := hl2.cell 4 (.int .i64 l.o) rfl
    go_wp2_with fail
    refine (new_ok l.f l.d l.c l.s l.o _ hr).mono ?_
    rintro e w3 ⟨b, rfl, hb, hm, hk⟩
    have hm3 : Mtr w3 b l.new [] := mtr_new hm hr
    have hl3 := hl2.below hk hl2.lt
    have k3 := k2.trans (Kp.of_below hk)
    have hbw : w.heap.size ≤ b := by omega
    have nbl : ¬ w.heap.size = b := by have := hl2.lt; omega
    have hI : InStops w b w.heap.size l w3 l.new [] := ⟨hm3, has_new l, hl3, (fun g hg => by cases hg), k3⟩
    generalize hbl : w.heap.size = bl at nbl hl3 hI ⊢
    have HBL := Lib.hid hbl; clear hbl
    clear c0 c1 c2 c3 c4 hm hm3 hk hl2 k2 hl3 k3 hb hs2
    obtain ⟨_, _, _, _, hk⟩ := hI
    go_wp2_with fail
    go_rounds 1
    go_returns
    exact ⟨rfl, hk.below (Nat.le_refl _) (fun _ _ => by omega)⟩

set_option maxRecDepth 100000 in
set_option maxHeartbeats 1000000 in
theorem stops_wrong (l : Lims) (hr : l.right = false) (sa : Option Addr) (len cap : Nat) (w : World) (hlen : len * 32 ≤ 140737488351232)
    (hg : ∀ w', Kp (fun i => w.heap.size ≤ i) w w' → Calls Try.prog 16 #[.slice sa len cap] w' fun e w'' => ∃ g : Bool, e = .returned (.bool g) ∧ Below w'.heap.size w' w'') :
    Calls Try.prog 5 #[l.val, .slice sa len cap] w fun e w' => e = .returned (.bool true) ∧ Below w.heap.size w w' := by
  have HG := Lib.hid hg; clear hg
  unfold Lims.val
  go_enter Try.func5, Try.ntmps5
  go_wp2_with fail
  refine (alive_any _).mono ?_
  rintro e w1 ⟨rfl, hk⟩
  have hl1 : Blk w1 w.heap.size 34 l.cells := (Blk.new rfl).below hk (by simp)
  have k1 : Kp (fun i => w.heap.size ≤ i) w w1 := ((Kp.refl _ w).alloc _).trans (Kp.of_below hk)
  clear hk
  go_wp2_with fail
  refine (HG.out _ k1).mono ?_
  rintro e w2 ⟨g, rfl, hk⟩
  have hl2 := hl1.below hk hl1.lt
  have k2 := k1.trans (Kp.of_below hk)
  clear hk hl1 k1
  have hs2 := k2.size
  cases g with
  | true =>
    go_wp2
    go_returns
    exact ⟨rfl, k2.below (Nat.le_refl _) (fun _ _ => by omega)⟩
  | false =>
    have c0 := hl2.cell 0 (.int .i64 l.f) rfl
    have c1 := hl2.cell 1 (.int .i64 l.d) rfl
    have c2 := hl2.cell 2 (.int .i64 l.c) rfl
    have c3 := hl2.cell 3 (.int .i64 l.s) rfl
    have c4 := hl2.cell 4 (.int .i64 l.o) rfl
    go_wp2_with fail
    refine (new_no l.f l.d l.c l.s l.o _ hr).mono ?_
    rintro e w3 ⟨rfl, hk⟩
    have k3 := k2.trans (Kp.of_below hk)
    go_wp2
    go_returns
    exact ⟨rfl, k3.below (Nat.le_refl _) (fun _ _ => by omega)⟩
end Go.Proofs.Ytmngeljbcnifgaa
