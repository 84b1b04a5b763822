/- selkielaw17.SiteSettles answers true: the walk. -/
import Derived.Test.YtcdofhfneiednaaSiG
namespace Go.Proofs.Ytcdofhfneiednaa
set_option linter.unusedSimpArgs false
set_option linter.unusedVariables false
open Go.RowKit

set_option maxRecDepth 100000 in
theorem settles_many (a c : Int) (sa : Option Addr) (len cap : Nat) (w : World) (hl : 2000 < len) (hl2 : len ≤ 140737488351232) :
    Calls Try.prog 3 #[.int .u8 a, .int .u8 c, .slice sa len cap] w fun e w' => e = .returned (.bool true) ∧ Below w.heap.size w w' := by
  go_enter Try.func3, Try.ntmps3
  go_wp2_with fail
  refine (alive_any _).mono ?_
  rintro e w1 ⟨rfl, hk⟩
  have kk : Kp (fun k => w.heap.size ≤ k) w w1 := Kp.of_below hk
  have hs1 := hk.size
  clear hk
  go_wp2
  go_returns
  exact ⟨rfl, kk.below (Nat.le_refl _) (fun _ h => by omega)⟩

/-- What the loop keeps. -/
def InSettles (w : World) (b bm W : Nat) (j : Nat) (kv : Value) (wr : World) : Prop :=
  ∃ (n : Nat) (s : SS) (met : Nat → Bool), kv = .int .i64 n ∧ Own (fun k => w.heap.size ≤ k ∧ k ≠ bm) wr b s ∧ Settled W met n s ∧ MetAt wr bm met ∧ s.hits ≤ j ∧ s.rw ≤ j ∧ Kp (fun k => w.heap.size ≤ k) w wr

set_option maxRecDepth 100000 in
set_option maxHeartbeats 1000000 in
theorem settles_any (a c : Int) (xb xo len cap : Nat) (zs : Nat → Int) (w : World) (ha : 0 ≤ a ∧ a ≤ 255) (hc : 0 ≤ c ∧ c ≤ 255) (hl : len ≤ 2000) (hxb : xb < w.heap.size) (hz : ∀ j, j < len → w.cell? ⟨xb, xo + j, none⟩ = some (.int .u8 (zs j))) (hzr : ∀ j, j < len → 0 ≤ zs j ∧ zs j ≤ 255) :
    Calls Try.prog 3 #[.int .u8 a, .int .u8 c, .slice (some ⟨xb, xo, none⟩) len cap] w fun e w' => e = .returned (.bool true) ∧ Below w.heap.size w w' := by
  have HZ := Lib.hid hz; clear hz
  have HZR := Lib.hid hzr; clear hzr
  go_enter Try.func3, Try.ntmps3
  go_wp2_with fail
  refine (alive_any _).mono ?_
  rintro e w1 ⟨rfl, hk⟩
  have kk : Kp (fun k => w.heap.size ≤ k) w w1 := Kp.of_below hk
  have hs1 := hk.size
  clear hk
  have hW0 : 0 ≤ a % 8 + 1 := by omega
  go_wp2_with fail
  refine (new_site _ _ _).mono ?_
  rintro e w2 ⟨b, rfl, hb, hS, hk⟩
  obtain ⟨W, hW⟩ : ∃ W : Nat, (W : Int) = a % 8 + 1 := ⟨(a % 8 + 1).toNat, by omega⟩
  rw [← hW] at hS ⊢
  have hW1 : 1 ≤ W ∧ W ≤ 8 := by omega
  clear hW hW0
  replace kk := kk.trans (Kp.of_below hk)
  clear hk
  have hbw : w.heap.size ≤ b := by omega
  have hs2 := kk.size
  have hbl := hS.lt
  have hI : InSettles w b w2.heap.size W 0 (.int .i64 0) (w2.alloc (.cells #[.bool false, .bool false, .bool false, .bool false, .bool false, .bool false, .bool false, .bool false] 26)) := by
    refine ⟨0, SS.new W c, fun _ => false, rfl, ⟨_, hS.kp ((Kp.refl (fun _ => False) _).alloc _) (fun _ _ _ h => h), fun k hk => ?_⟩, ?_, ⟨_, Blk.new rfl, fun i hi => ?_⟩, by simp [SS.new], by simp [SS.new], kk.alloc _⟩
    · subst hk; exact ⟨hbw, by omega⟩
    · refine ⟨by simp [SS.new, clamp]; omega, rfl, rfl, rfl, by simp [SS.new], by simp [SS.new], by simp [SS.new]⟩
    · rcases i with _ | _ | _ | _ | _ | _ | _ | _ | i <;> first | rfl | omega
  clear hS
  go_wp2_with fail
  generalize hbm : w2.heap.size = bm at *
  have HBM := Lib.hid hbm; clear hbm
  go_loopw [10, 32] (fun kv iv wr => ∃ j : Nat, iv = .int .i64 j ∧ j ≤ len ∧ InSettles w b bm W j kv wr) (fun _ iv _ => len - (intOf iv).toNat)
  case atStart => exact ⟨0, rfl, by omega, hI⟩
  case round =>
    clear kk hI
    obtain ⟨j, rfl, hj, n, s, met, rfl, hO, hM, hA, hh, hr, kk⟩ := hrel
    have hP : ∀ k, wr.heap.size ≤ k → w.heap.size ≤ k ∧ k ≠ bm := fun k hk => ⟨by have := kk.size; omega, by have := hA.lt; omega⟩
    have hPm : ∀ k, w.heap.size ≤ k ∧ k ≠ bm → w.heap.size ≤ k := fun _ h => h.1
    by_cases hlt : (j : Int) < len
    · have cz := (kk.cell (p := ⟨xb, xo + j, none⟩) hxb (by simp; omega)).trans (HZ.out j (by omega))
      have hzj := HZR.out j (by omega)
      generalize zs j = z at *
      obtain ⟨q, hq⟩ : ∃ q : Nat, (q : Int) = z % W := ⟨(z % W).toNat, by have := Int.emod_nonneg z (show (W : Int) ≠ 0 by omega); omega⟩
      have hqW : q < W := by have := Int.emod_lt_of_pos z (show (0 : Int) < W by omega); omega
      have HQ := Lib.hid hq; clear hq
      have hxr : xb < wr.heap.size := by have := kk.size; omega
      have HP := Lib.hid hP; clear hP
      go_wp2_with fail
      rw [← HQ.out]
      refine (ask_own hO q 7 (by omega)).mono ?_
      rintro e w3 ⟨he, hO', hk'⟩
      replace hP := fun k hk => HP.out k (Nat.le_trans hk'.size hk)
      replace kk := kk.trans (hk'.mono (fun k _ h => hPm k h))
      have hA3 := hA.kp hk' (fun h => h.2 rfl)
      have hst := hits_step s q 7
      have hok := hO.ok
      clear hk' HP hO cz hA
      have hb8 : q < 8 := by omega
      cases ha : s.askIs q 7 with
      | true =>
        rw [ha] at he
        obtain rfl := he
        obtain ⟨hm, hM'⟩ := settle_hit hM q hqW ha
        have cm := hA3.cell q hb8
        rw [hm] at cm
        have HI : InSettles w b bm W (j + 1) (.int .i64 n) w3 := ⟨n, _, met, rfl, hO', hM', hA3, by omega, by omega, kk⟩
        have HII := Lib.hid HI
        have hbm3 := hA3.lt
        clear HI hM hM' hO' hA3 hst hok ha hP
        go_wp2
        go_roundw
        case rel => exact ⟨j + 1, by go_num, by omega, HII.out⟩
        case measure => simp [intOf]; omega
      | false =>
        rw [ha] at he
        obtain rfl := he
        have hlearn := settle_learn hM hok q hqW ha
        have hrs := rw_step (s.asked q 7) ⟨q, 2 * q, 7⟩
        have HL := Lib.hid hlearn; clear hlearn
        go_wp2_with fail
        refine (rewrites_own hO').mono ?_
        rintro e w4 ⟨he, hk'⟩
        obtain rfl : e = .returned (.int .i64 n) := by rw [he, hst.2.2, hM.rw]
        replace hP := le_of_kp (P := fun k => w.heap.size ≤ k ∧ k ≠ bm) hk' hP
        replace kk := kp_tell kk hk'
        have hO4 := own_tell hO' hk'
        have hA4 := hA3.kp hk' (fun h => h)
        clear hk' he hO' hA3
        go_wp2_with fail
        refine (learn_own hO4 ⟨q, 2 * q, 7⟩ hP (by omega)).mono ?_
        rintro e w5 ⟨rfl, hO5, hk'⟩
        replace hP := le_of_kp hk' hP
        replace kk := kk.trans (hk'.mono (fun k _ h => hPm k h))
        have hA5 := hA4.kp hk' (fun h => h.2 rfl)
        clear hk' hO4 hA4
        have hh5 : ((s.asked q 7).learn ⟨q, 2 * q, 7⟩).hits ≤ j + 1 := by omega
        have hr5 : ((s.asked q 7).learn ⟨q, 2 * q, 7⟩).rw ≤ j + 1 := by omega
        generalize (s.asked q 7).learn ⟨q, 2 * q, 7⟩ = s5 at *
        go_wp2_with fail
        refine (rewrites_own hO5).mono ?_
        rintro e w6 ⟨he, hk'⟩
        replace hP := le_of_kp (P := fun k => w.heap.size ≤ k ∧ k ≠ bm) hk' hP
        replace kk := kp_tell kk hk'
        have hO6 := own_tell hO5 hk'
        have hA6 := hA5.kp hk' (fun h => h)
        clear hk' hO5 hA5
        rcases HL.out with ⟨h1, h2⟩ | ⟨h1, h2⟩
        · obtain rfl : e = .returned (.int .i64 n) := by rw [he, h2.rw]
          clear he HL hM hst hok ha hrs
          have h1' : (s5.state == 1) = false := by simpa using h1
          go_wp2_with fail
          refine (state_own hO6).mono ?_
          rintro e w7 ⟨rfl, hk'⟩
          have HI : InSettles w b bm W (j + 1) (.int .i64 n) w7 := ⟨n, s5, met, rfl, own_tell hO6 hk', h2, hA6.kp hk' (fun h => h), by omega, by omega, kp_tell kk hk'⟩
          have HII := Lib.hid HI
          clear HI hk' hO6 hA6 h2 hP h1
          go_wp2
          go_roundw
          case rel => exact ⟨j + 1, by go_num, by omega, HII.out⟩
          case measure => simp [intOf]; omega
        · obtain rfl : e = .returned (.int .i64 (n + 1)) := by rw [he, h2.rw]; rfl
          have hnb : n ≤ 2000 := by have := hM.rw; omega
          clear he HL hM hst hok ha hrs
          have cm := hA6.cell q hb8
          rw [h1] at cm
          have fm := hA6.free
          have hbm6 := hA6.lt
          have hnn : (decide ((n : Int) < n + 1)) = true := by simp; omega
          have HI : InSettles w b bm W (j + 1) (.int .i64 (n + 1)) (w6.setCell ⟨bm, q, none⟩ (.bool true)) :=
            ⟨n + 1, s5, _, rfl, hO6.kp ((Kp.refl (· = bm) _).setCell (p := ⟨bm, q, none⟩) (.inl rfl) _) (fun k _ h => h.2), h2, hA6.set q, by omega, by omega, kk.trans (Kp.setCell (S := fun k => w.heap.size ≤ k) (p := ⟨bm, q, none⟩) (Kp.refl _ _) (.inl hs2) _)⟩
          have HII := Lib.hid HI
          clear HI hO6 hA6 h2 hP h1
          go_wp2
          go_roundw
          case rel => exact ⟨j + 1, by go_num, by omega, HII.out⟩
          case measure => simp [intOf]; omega
    · have hd := hM.d
      have hlen := hM.len
      have hrw := hM.rw
      go_wp2_with fail
      refine (rewrites_own hO).mono ?_
      rintro e w3 ⟨he, hk'⟩
      obtain rfl : e = .returned (.int .i64 n) := by rw [he, hrw]
      replace kk := kp_tell kk hk'
      replace hO := own_tell hO hk'
      go_wp2_with fail
      refine (deopts_own hO).mono ?_
      rintro e w4 ⟨he, hk'⟩
      obtain rfl : e = .returned (.int .i64 0) := by rw [he, hd]
      replace kk := kp_tell kk hk'
      replace hO := own_tell hO hk'
      go_wp2_with fail
      refine (len_own hO).mono ?_
      rintro e w5 ⟨he, hk'⟩
      obtain rfl : e = .returned (.int .i64 n) := by rw [he, hlen]
      replace kk := kp_tell kk hk'
      go_wp2
      go_returns
      exact ⟨rfl, kk.below (Nat.le_refl _) (fun _ h => by omega)⟩

set_option maxRecDepth 100000 in
theorem settles_none (a c : Int) (sa : Option Addr) (cap : Nat) (w : World) (ha : 0 ≤ a ∧ a ≤ 255) (hc : 0 ≤ c ∧ c ≤ 255) :
    Calls Try.prog 3 #[.int .u8 a, .int .u8 c, .slice sa 0 cap] w fun e w' => e = .returned (.bool true) ∧ Below w.heap.size w w' := by
  go_enter Try.func3, Try.ntmps3
  go_wp2_with fail
  refine (alive_any _).mono ?_
  rintro e w1 ⟨rfl, hk⟩
  have kk : Kp (fun k => w.heap.size ≤ k) w w1 := Kp.of_below hk
  have hs1 := hk.size
  clear hk
  have hW0 : 0 ≤ a % 8 + 1 := by omega
  go_wp2_with fail
  refine (new_site _ _ _).mono ?_
  rintro e w2 ⟨b, rfl, hb, hS, hk⟩
  obtain ⟨W, hW⟩ : ∃ W : Nat, (W : Int) = a % 8 + 1 := ⟨(a % 8 + 1).toNat, by omega⟩
  rw [← hW] at hS ⊢
  have hW1 : 1 ≤ W ∧ W ≤ 8 := by omega
  clear hW hW0
  replace kk := kk.trans (Kp.of_below hk)
  clear hk
  have hbw : w.heap.size ≤ b := by omega
  have hs2 := kk.size
  have hbl := hS.lt
  have hI : InSettles w b w2.heap.size W 0 (.int .i64 0) (w2.alloc (.cells #[.bool false, .bool false, .bool false, .bool false, .bool false, .bool false, .bool false, .bool false] 26)) := by
    refine ⟨0, SS.new W c, fun _ => false, rfl, ⟨_, hS.kp ((Kp.refl (fun _ => False) _).alloc _) (fun _ _ _ h => h), fun k hk => ?_⟩, ?_, ⟨_, Blk.new rfl, fun i hi => ?_⟩, by simp [SS.new], by simp [SS.new], kk.alloc _⟩
    · subst hk; exact ⟨hbw, by omega⟩
    · refine ⟨by simp [SS.new, clamp]; omega, rfl, rfl, rfl, by simp [SS.new], by simp [SS.new], by simp [SS.new]⟩
    · rcases i with _ | _ | _ | _ | _ | _ | _ | _ | i <;> first | rfl | omega
  clear hS
  go_wp2_with fail
  generalize hbm : w2.heap.size = bm at *
  have HBM := Lib.hid hbm; clear hbm
  go_loopw [10, 32] (fun kv iv wr => iv = .int .i64 0 ∧ InSettles w b bm W 0 kv wr) (fun _ _ _ => 0)
  case atStart => exact ⟨rfl, hI⟩
  clear hI kk
  obtain ⟨rfl, n, s, met, rfl, hO, hM, hA, hh, hr, kk⟩ := hrel
  have hd := hM.d
  have hlen := hM.len
  have hrw := hM.rw
  go_wp2_with fail
  refine (rewrites_own hO).mono ?_
  rintro e w3 ⟨he, hk'⟩
  obtain rfl : e = .returned (.int .i64 n) := by rw [he, hrw]
  replace kk := kp_tell kk hk'
  replace hO := own_tell hO hk'
  go_wp2_with fail
  refine (deopts_own hO).mono ?_
  rintro e w4 ⟨he, hk'⟩
  obtain rfl : e = .returned (.int .i64 0) := by rw [he, hd]
  replace kk := kp_tell kk hk'
  replace hO := own_tell hO hk'
  go_wp2_with fail
  refine (len_own hO).mono ?_
  rintro e w5 ⟨he, hk'⟩
  obtain rfl : e = .returned (.int .i64 n) := by rw [he, hlen]
  replace kk := kp_tell kk hk'
  go_wp2
  go_returns
  exact ⟨rfl, kk.below (Nat.le_refl _) (fun _ h => by omega)⟩
end Go.Proofs.Ytcdofhfneiednaa
