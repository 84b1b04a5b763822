/- selkielaw19.MeterLeaves answers true: the walk. -/
import Derived.Test.YtmngeljbcnifgaaMtD
namespace Go.Proofs.Ytmngeljbcnifgaa
open Go.RowKit

/-- The meter in a round: nothing stopped it, no step was counted, so many levels were entered. -/
structure Lv (D : Int) (k : Int) (m : MS) : Prop where
  ok : MOk m
  st : m.st = 0
  f : m.f = m.lf
  ld : m.ld = D
  d : m.d = D - k

def InLeaves (w : World) (b bl : Nat) (D : Int) (dv : Value) (wr : World) : Prop :=
  ∃ (k : Int) (m : MS), dv = .int .i64 k ∧ 0 ≤ k ∧ k ≤ D ∧ Lv D k m ∧ MAt wr b m ∧ Blk wr bl 25 #[.int .i64 1000000, .int .i64 D, .int .i64 100000, .int .i64 65536, .int .i64 1000000] ∧ Kp (fun i => w.heap.size ≤ i) w wr

theorem lv_enter {D k : Int} {m : MS} (h : Lv D k m) (hk : k < D) : Lv D (k + 1) m.enter ∧ m.enter.st = 0 := by
  have h1 := h.st; have h2 := h.d; have h3 := h.ld; have h4 := h.f
  have e : m.enter = { m with d := m.d - 1 } := by unfold MS.enter; rw [if_pos h1, if_neg (by omega)]
  have o := ok_enter h.ok
  rw [e] at o ⊢
  exact ⟨⟨o, h1, h4, h3, by show m.d - 1 = _; omega⟩, h1⟩
theorem lv_leave {D k n : Int} {m : MS} (h : Lv D k m) (hk : k ≤ D) (h0 : 0 ≤ n) (hn : n ≤ k) : Lv D (k - n) (m.leave n) := by
  have h1 := h.st; have h2 := h.d; have h3 := h.ld; have h4 := h.f
  have p := h.ok.d2; have p1 := h.ok.d0
  have o := ok_leave n h.ok
  unfold MS.leave at o ⊢
  by_cases hp : 0 < n
  · rw [if_pos hp] at o ⊢
    exact ⟨o, h1, h4, h3, by show min m.ld (m.d + min n 200) = _; omega⟩
  · rw [if_neg hp] at o ⊢
    exact ⟨o, h1, h4, h3, by omega⟩

set_option maxRecDepth 100000 in
set_option maxHeartbeats 1000000 in
theorem leaves_any (dp : Int) (d0 : 0 ≤ dp) (d1 : dp ≤ 255) (ba off len cap : Nat) (zs : List Int) (w : World) (hb0 : ba < w.heap.size) (hlen : len ≤ 300) 
    (hc : ∀ j, j < len → w.cell? ⟨ba, off + j, none⟩ = some (.int .u8 (zs.getD j 0))) (hz : ∀ j, 0 ≤ zs.getD j 0 ∧ zs.getD j 0 ≤ 255) :
    Calls Try.prog 3 #[.int .u8 dp, .slice (some ⟨ba, off, none⟩) len cap] w fun e w' => e = .returned (.bool true) ∧ Below w.heap.size w w' := by
  go_enter Try.func3, Try.ntmps3
  go_wp2_with fail
  refine (alive_any _).mono ?_
  rintro e w1 ⟨rfl, hk⟩
  have kk : Kp (fun i => w.heap.size ≤ i) w w1 := Kp.of_below hk
  clear hk
  have hs1 := kk.size
  go_wp2_with fail
  refine (wide_any _).mono ?_
  rintro e w2 ⟨rfl, rfl⟩
  go_wp2_with fail
  have hr : rightB 1000000 (dp % 200 + 1) 100000 65536 1000000 = true := by unfold rightB; exact decide_eq_true (by omega)
  refine (new_ok _ _ _ _ _ _ hr).mono ?_
  rintro e w3 ⟨b, rfl, hb, hm, hk⟩
  obtain ⟨D, hD⟩ : ∃ D, D = dp % 200 + 1 := ⟨_, rfl⟩
  rw [← hD] at hr hm hk ⊢
  have D1 : 1 ≤ D := by omega
  have D2 : D ≤ 200 := by omega
  clear hD
  simp only [World.size_alloc] at hb
  have hl : Blk w3 (w1.heap.size + 1) 25 #[.int .i64 1000000, .int .i64 D, .int .i64 100000, .int .i64 65536, .int .i64 1000000] := (Blk.new (by simp)).below hk (by simp)
  have kk3 := (((kk.alloc _).alloc _).trans' (Kp.of_below hk (S := fun _ => False)) (fun _ _ h => h.elim))
  have nb : ¬ w1.heap.size + 1 = b := by omega
  have hbw : w.heap.size ≤ b := by omega
  generalize w1.heap.size + 1 = bl at *
  clear hk kk hs1 hb
  have hv : Lv D 0 (MS.new 1000000 D 100000 65536 1000000) := ⟨ok_new hr, rfl, rfl, rfl, by simp [MS.new]⟩
  clear hr
  have HC := Lib.hid hc; clear hc
  have HZ := Lib.hid hz; clear hz
  go_wp2_with fail
  go_loopw [8, 32] (fun dv iv wr => ∃ j : Nat, iv = .int .i64 j ∧ j ≤ len ∧ InLeaves w b bl D dv wr) (fun _ iv _ => len - (intOf iv).toNat)
  case atStart => exact ⟨0, rfl, Nat.zero_le _, 0, _, rfl, by omega, by omega, hv, hm, hl, kk3⟩
  case round =>
    clear hv hm hl kk3
    obtain ⟨j, rfl, hj, k, m, rfl, k0, k1, hv, hm, hl, kr⟩ := hrel
    by_cases hlt : j < len
    · have hcell : wr.cell? ⟨ba, off + j, none⟩ = some (.int .u8 (zs.getD j 0)) := (kr.cell (p := ⟨ba, off + j, none⟩) hb0 (by simp; omega)).trans (HC.out j hlt)
      have hx := HZ.out j
      generalize zs.getD j 0 = x at *
      obtain ⟨x0, x1⟩ := hx
      by_cases ht : x % 3 = 0 ∧ 0 < k
      · obtain ⟨t0, t1⟩ := ht
        go_wp2_with fail
        refine (leave_any b m _ _ hm hv.ok).mono ?_
        rintro e w4 ⟨rfl, hm4, k4⟩
        have n0 : 0 ≤ x % (k + 1) := Int.emod_nonneg _ (by omega)
        have n1 : x % (k + 1) ≤ k := by have := Int.emod_lt_of_pos x (show 0 < k + 1 by omega); omega
        have hv4 := lv_leave hv k1 n0 n1
        generalize x % (k + 1) = n at *
        generalize m.leave n = m4 at *
        have hl4 := hl.kp k4 nb
        have kr4 := kr.trans' k4 (fun i _ h => by subst h; exact hbw)
        clear hm hv hl kr k4 hcell
        go_wp2_with fail
        refine (deep_any b m4 _ hm4 hv4.ok).mono ?_
        rintro e w5 ⟨he, nd, rfl⟩
        obtain rfl : e = .returned (.int .i64 (k - n)) := by rw [he]; exact ret_int (by have := hv4.d; have := hv4.ld; omega)
        clear he
        have hm5 := hm4.drewN nd
        have hl5 := hl4.drewN nd
        have kr5 := kr4.drewN nd
        clear hm4 hl4 kr4
        generalize w4.drewN nd = w6 at *
        go_wp2_with fail
        refine (stop_any b m4 _ hm5).mono ?_
        rintro e w7 ⟨he, rfl⟩
        obtain rfl : e = .returned (.int .i64 0) := by rw [he]; exact ret_int hv4.st
        clear he
        go_wp2
        go_roundw
        case rel => exact ⟨j + 1, by go_num, by omega, k - n, m4, rfl, by omega, by omega, hv4, hm5, hl5, kr5⟩
        case measure => simp [intOf]; omega
      · by_cases hd : k < D
        · obtain ⟨hv4, hst⟩ := lv_enter hv hd
          have cl : wr.cell? ⟨bl, 1, none⟩ = some (.int .i64 D) := hl.cell 1 _ rfl
          by_cases ht0 : x % 3 = 0
          · have ht1 : k = 0 := by omega
            subst ht1
            go_wp2_with fail
            refine (enter_any b m _ hm hv.ok).mono ?_
            rintro e w4 ⟨he, hm4, k4⟩
            obtain rfl : e = .returned (.int .i64 0) := by rw [he]; exact ret_int hst
            clear he hst
            generalize m.enter = m4 at *
            have hl4 := hl.kp k4 nb
            have kr4 := kr.trans' k4 (fun i _ h => by subst h; exact hbw)
            clear hm hv hl kr k4 hcell cl
            go_wp2_with fail
            refine (deep_any b m4 _ hm4 hv4.ok).mono ?_
            rintro e w5 ⟨he, nd, rfl⟩
            obtain rfl : e = .returned (.int .i64 (0 + 1)) := by rw [he]; exact ret_int (by have := hv4.d; have := hv4.ld; omega)
            clear he
            have hm5 := hm4.drewN nd
            have hl5 := hl4.drewN nd
            have kr5 := kr4.drewN nd
            clear hm4 hl4 kr4
            generalize w4.drewN nd = w6 at *
            go_wp2_with fail
            refine (stop_any b m4 _ hm5).mono ?_
            rintro e w7 ⟨he, rfl⟩
            obtain rfl : e = .returned (.int .i64 0) := by rw [he]; exact ret_int hv4.st
            clear he
            go_wp2
            go_roundw
            case rel => exact ⟨j + 1, by go_num, by omega, 0 + 1, m4, rfl, by omega, by omega, hv4, hm5, hl5, kr5⟩
            case measure => simp [intOf]; omega
          · go_wp2_with fail
            refine (enter_any b m _ hm hv.ok).mono ?_
            rintro e w4 ⟨he, hm4, k4⟩
            obtain rfl : e = .returned (.int .i64 0) := by rw [he]; exact ret_int hst
            clear he hst
            generalize m.enter = m4 at *
            have hl4 := hl.kp k4 nb
            have kr4 := kr.trans' k4 (fun i _ h => by subst h; exact hbw)
            clear hm hv hl kr k4 hcell cl
            go_wp2_with fail
            refine (deep_any b m4 _ hm4 hv4.ok).mono ?_
            rintro e w5 ⟨he, nd, rfl⟩
            obtain rfl : e = .returned (.int .i64 (k + 1)) := by rw [he]; exact ret_int (by have := hv4.d; have := hv4.ld; omega)
            clear he
            have hm5 := hm4.drewN nd
            have hl5 := hl4.drewN nd
            have kr5 := kr4.drewN nd
            clear hm4 hl4 kr4
            generalize w4.drewN nd = w6 at *
            go_wp2_with fail
            refine (stop_any b m4 _ hm5).mono ?_
            rintro e w7 ⟨he, rfl⟩
            obtain rfl : e = .returned (.int .i64 0) := by rw [he]; exact ret_int hv4.st
            clear he
            go_wp2
            go_roundw
            case rel => exact ⟨j + 1, by go_num, by omega, k + 1, m4, rfl, by omega, by omega, hv4, hm5, hl5, kr5⟩
            case measure => simp [intOf]; omega
        · obtain rfl : k = D := by omega
          have ht0 : ¬ x % 3 = 0 := fun h => ht ⟨h, by omega⟩
          have cl : wr.cell? ⟨bl, 1, none⟩ = some (.int .i64 k) := hl.cell 1 _ rfl
          have hl4 := hl
          have kr4 := kr
          have hv4 := hv
          have hm4 := hm
          clear hm hv hl kr
          obtain ⟨m4, rfl⟩ : ∃ m4, m4 = m := ⟨_, rfl⟩
          obtain ⟨w4, rfl⟩ : ∃ w4, w4 = wr := ⟨_, rfl⟩
          go_wp2_with fail
          refine (deep_any b m4 _ hm4 hv4.ok).mono ?_
          rintro e w5 ⟨he, nd, rfl⟩
          obtain rfl : e = .returned (.int .i64 (k)) := by rw [he]; exact ret_int (by have := hv4.d; have := hv4.ld; omega)
          clear he
          have hm5 := hm4.drewN nd
          have hl5 := hl4.drewN nd
          have kr5 := kr4.drewN nd
          clear hm4 hl4 kr4
          generalize w4.drewN nd = w6 at *
          go_wp2_with fail
          refine (stop_any b m4 _ hm5).mono ?_
          rintro e w7 ⟨he, rfl⟩
          obtain rfl : e = .returned (.int .i64 0) := by rw [he]; exact ret_int hv4.st
          clear he
          go_wp2
          go_roundw
          case rel => exact ⟨j + 1, by go_num, by omega, k, m4, rfl, by omega, by omega, hv4, hm5, hl5, kr5⟩
          case measure => simp [intOf]; omega
    · obtain ⟨w4, rfl⟩ : ∃ w4 : World, w4 = wr := ⟨_, rfl⟩
      go_wp2_with fail
      go_loopw [8] (fun dv wr => InLeaves w b bl D dv wr) (fun dv _ => (D - intOf dv).toNat)
      case atStart => exact ⟨k, m, rfl, k0, k1, hv, hm, hl, kr⟩
      case round =>
        clear hv hm hl kr k0 k1
        obtain ⟨k, m, rfl, k0, k1, hv, hm, hl, kr⟩ := hrel
        have cl : wr.cell? ⟨bl, 1, none⟩ = some (.int .i64 D) := hl.cell 1 _ rfl
        by_cases hd : k < D
        · obtain ⟨hv4, hst⟩ := lv_enter hv hd
          go_wp2_with fail
          refine (enter_any b m _ hm hv.ok).mono ?_
          rintro e w4 ⟨he, hm4, k4⟩
          obtain rfl : e = .returned (.int .i64 0) := by rw [he]; exact ret_int hst
          clear he hst
          generalize m.enter = m4 at *
          have hl4 := hl.kp k4 nb
          have kr4 := kr.trans' k4 (fun i _ h => by subst h; exact hbw)
          clear hm hv hl kr k4 cl
          go_wp2
          go_roundw
          case rel => exact ⟨k + 1, m4, by go_num, by omega, by omega, hv4, hm4, hl4, kr4⟩
          case measure => simp [intOf]; omega
        · obtain rfl : k = D := by omega
          go_wp2_with fail
          refine (enter_any b m _ hm hv.ok).mono ?_
          rintro e w4 ⟨he, hm4, k4⟩
          have hs4 : m.enter.st = 2 ∧ m.enter.f = m.enter.lf := by
            have h1 := hv.st; have h2 := hv.d; have h3 := hv.f
            unfold MS.enter; rw [if_pos h1, if_pos (by omega)]; exact ⟨rfl, h3⟩
          have ok4 := ok_enter hv.ok
          obtain rfl : e = .returned (.int .i64 2) := by rw [he]; exact ret_int hs4.1
          have kr4 := kr.trans' k4 (fun i _ h => by subst h; exact hbw)
          clear he
          generalize m.enter = m4 at *
          clear hm hv hl kr k4 cl
          go_wp2_with fail
          refine (stop_any b m4 _ hm4).mono ?_
          rintro e w7 ⟨he, rfl⟩
          obtain rfl : e = .returned (.int .i64 2) := by rw [he]; exact ret_int hs4.1
          clear he
          go_wp2_with fail
          refine (step_any b m4 _ hm4 ok4).mono ?_
          have e4 : m4.step = m4 := by unfold MS.step; rw [if_neg (by omega)]
          rw [e4]; clear e4
          rintro e w5 ⟨he, hm5, k5⟩
          obtain rfl : e = .returned (.int .i64 2) := by rw [he]; exact ret_int hs4.1
          clear he hm4
          have kr5 := kr4.trans' k5 (fun i _ h => by subst h; exact hbw)
          clear kr4 k5
          go_wp2_with fail
          refine (steps_any b m4 _ hm5 ok4).mono ?_
          rintro e w6 ⟨he, n, rfl⟩
          obtain rfl : e = .returned (.int .i64 0) := by rw [he]; exact ret_int (by have := hs4.2; omega)
          clear he
          go_wp2
          go_returns
          exact ⟨rfl, (kr5.drewN n).below (Nat.le_refl _) (fun _ _ => by omega)⟩

-- no turns
set_option maxRecDepth 100000 in
set_option maxHeartbeats 1000000 in
theorem leaves_none (dp : Int) (d0 : 0 ≤ dp) (d1 : dp ≤ 255) (sa : Option Addr) (len cap : Nat) (w : World) (hlen : len ≤ 0) :
    Calls Try.prog 3 #[.int .u8 dp, .slice sa len cap] w fun e w' => e = .returned (.bool true) ∧ Below w.heap.size w w' := by
  go_enter Try.func3, Try.ntmps3
  go_wp2_with fail
  refine (alive_any _).mono ?_
  rintro e w1 ⟨rfl, hk⟩
  have kk : Kp (fun i => w.heap.size ≤ i) w w1 := Kp.of_below hk
  clear hk
  have hs1 := kk.size
  go_wp2_with fail
  refine (wide_any _).mono ?_
  rintro e w2 ⟨rfl, rfl⟩
  go_wp2_with fail
  have hr : rightB 1000000 (dp % 200 + 1) 100000 65536 1000000 = true := by unfold rightB; exact decide_eq_true (by omega)
  refine (new_ok _ _ _ _ _ _ hr).mono ?_
  rintro e w3 ⟨b, rfl, hb, hm, hk⟩
  obtain ⟨D, hD⟩ : ∃ D, D = dp % 200 + 1 := ⟨_, rfl⟩
  rw [← hD] at hr hm hk ⊢
  have D1 : 1 ≤ D := by omega
  have D2 : D ≤ 200 := by omega
  clear hD
  simp only [World.size_alloc] at hb
  have hl : Blk w3 (w1.heap.size + 1) 25 #[.int .i64 1000000, .int .i64 D, .int .i64 100000, .int .i64 65536, .int .i64 1000000] := (Blk.new (by simp)).below hk (by simp)
  have kk3 := (((kk.alloc _).alloc _).trans' (Kp.of_below hk (S := fun _ => False)) (fun _ _ h => h.elim))
  have nb : ¬ w1.heap.size + 1 = b := by omega
  have hbw : w.heap.size ≤ b := by omega
  generalize w1.heap.size + 1 = bl at *
  clear hk kk hs1 hb
  have hv : Lv D 0 (MS.new 1000000 D 100000 65536 1000000) := ⟨ok_new hr, rfl, rfl, rfl, by simp [MS.new]⟩
  clear hr
  go_wp2_with fail
  go_loopw [8, 32] (fun dv iv wr => ∃ j : Nat, iv = .int .i64 j ∧ j ≤ len ∧ InLeaves w b bl D dv wr) (fun _ iv _ => len - (intOf iv).toNat)
  case atStart => exact ⟨0, rfl, Nat.zero_le _, 0, _, rfl, by omega, by omega, hv, hm, hl, kk3⟩
  case round =>
    clear hv hm hl kk3
    obtain ⟨j, rfl, hj, k, m, rfl, k0, k1, hv, hm, hl, kr⟩ := hrel
    by_cases hlt : j < len
    · exact absurd hlt (by omega)
    · obtain ⟨w4, rfl⟩ : ∃ w4 : World, w4 = wr := ⟨_, rfl⟩
      go_wp2_with fail
      go_loopw [8] (fun dv wr => InLeaves w b bl D dv wr) (fun dv _ => (D - intOf dv).toNat)
      case atStart => exact ⟨k, m, rfl, k0, k1, hv, hm, hl, kr⟩
      case round =>
        clear hv hm hl kr k0 k1
        obtain ⟨k, m, rfl, k0, k1, hv, hm, hl, kr⟩ := hrel
        have cl : wr.cell? ⟨bl, 1, none⟩ = some (.int .i64 D) := hl.cell 1 _ rfl
        by_cases hd : k < D
        · obtain ⟨hv4, hst⟩ := lv_enter hv hd
          go_wp2_with fail
          refine (enter_any b m _ hm hv.ok).mono ?_
          rintro e w4 ⟨he, hm4, k4⟩
          obtain rfl : e = .returned (.int .i64 0) := by rw [he]; exact ret_int hst
          clear he hst
          generalize m.enter = m4 at *
          have hl4 := hl.kp k4 nb
          have kr4 := kr.trans' k4 (fun i _ h => by subst h; exact hbw)
          clear hm hv hl kr k4 cl
          go_wp2
          go_roundw
          case rel => exact ⟨k + 1, m4, by go_num, by omega, by omega, hv4, hm4, hl4, kr4⟩
          case measure => simp [intOf]; omega
        · obtain rfl : k = D := by omega
          go_wp2_with fail
          refine (enter_any b m _ hm hv.ok).mono ?_
          rintro e w4 ⟨he, hm4, k4⟩
          have hs4 : m.enter.st = 2 ∧ m.enter.f = m.enter.lf := by
            have h1 := hv.st; have h2 := hv.d; have h3 := hv.f
            unfold MS.enter; rw [if_pos h1, if_pos (by omega)]; exact ⟨rfl, h3⟩
          have ok4 := ok_enter hv.ok
          obtain rfl : e = .returned (.int .i64 2) := by rw [he]; exact ret_int hs4.1
          have kr4 := kr.trans' k4 (fun i _ h => by subst h; exact hbw)
          clear he
          generalize m.enter = m4 at *
          clear hm hv hl kr k4 cl
          go_wp2_with fail
          refine (stop_any b m4 _ hm4).mono ?_
          rintro e w7 ⟨he, rfl⟩
          obtain rfl : e = .returned (.int .i64 2) := by rw [he]; exact ret_int hs4.1
          clear he
          go_wp2_with fail
          refine (step_any b m4 _ hm4 ok4).mono ?_
          have e4 : m4.step = m4 := by unfold MS.step; rw [if_neg (by omega)]
          rw [e4]; clear e4
          rintro e w5 ⟨he, hm5, k5⟩
          obtain rfl : e = .returned (.int .i64 2) := by rw [he]; exact ret_int hs4.1
          clear he hm4
          have kr5 := kr4.trans' k5 (fun i _ h => by subst h; exact hbw)
          clear kr4 k5
          go_wp2_with fail
          refine (steps_any b m4 _ hm5 ok4).mono ?_
          rintro e w6 ⟨he, n, rfl⟩
          obtain rfl : e = .returned (.int .i64 0) := by rw [he]; exact ret_int (by have := hs4.2; omega)
          clear he
          go_wp2
          go_returns
          exact ⟨rfl, (kr5.drewN n).below (Nat.le_refl _) (fun _ _ => by omega)⟩

set_option maxRecDepth 100000 in
theorem leaves_many (dp : Int) (sa : Option Addr) (len cap : Nat) (w : World) (hlen : 300 < len) (hm : len ≤ maxLen) :
    Calls Try.prog 3 #[.int .u8 dp, .slice sa len cap] w fun e w' => e = .returned (.bool true) ∧ Below w.heap.size w w' := by
  unfold maxLen at hm
  go_enter Try.func3, Try.ntmps3
  go_wp2_with fail
  refine (alive_any _).mono ?_
  rintro e w1 ⟨rfl, hk⟩
  go_wp2
  go_returns
  exact ⟨rfl, hk⟩
end Go.Proofs.Ytmngeljbcnifgaa
