/- selkielaw17.SiteTurns answers true: the walk. -/
import Derived.Test.YtcdofhfneiednaaSiE
import Derived.Deep.DeepCutAuto
import Derived.Deep.LoopGhost
namespace Go.Proofs.Ytcdofhfneiednaa
set_option linter.unusedSimpArgs false
set_option linter.unusedVariables false
open Go.RowKit

theorem rw_deopt (s : SS) : s.deopt.rw = s.rw ∧ s.deopt.hits = s.hits := by unfold SS.deopt; split <;> exact ⟨rfl, rfl⟩
theorem rw_put (s : SS) (x : Ent) : s.rw ≤ (s.put x).rw ∧ (s.put x).rw ≤ s.rw + 1 ∧ (s.put x).hits = s.hits := by
  have := rw_deopt s
  unfold SS.put
  dsimp only
  split
  · split
    · exact ⟨by omega, by omega, rfl⟩
    · exact ⟨by dsimp only; omega, by dsimp only; omega, rfl⟩
  · split
    · exact ⟨by dsimp only; omega, by dsimp only; omega, rfl⟩
    · exact ⟨by omega, by omega, this.2⟩
theorem rw_step (s : SS) (x : Ent) : s.rw ≤ (s.learn x).rw ∧ (s.learn x).rw ≤ s.rw + 1 ∧ (s.learn x).hits = s.hits := by
  unfold SS.learn
  split
  · exact ⟨by omega, by omega, rfl⟩
  split
  · split
    · exact ⟨by dsimp only; omega, by dsimp only; omega, rfl⟩
    · exact rw_put { s with count := s.count + 1, state := 1 } x
  split
  · exact rw_put s x
  · exact ⟨by omega, by omega, rfl⟩
theorem hits_step (s : SS) (k ep : Int) : s.hits ≤ (s.asked k ep).hits ∧ (s.asked k ep).hits ≤ s.hits + 1 ∧ (s.asked k ep).rw = s.rw := by
  unfold SS.asked
  split
  · exact ⟨by dsimp only; omega, by dsimp only; omega, rfl⟩
  · exact ⟨by omega, by omega, rfl⟩
/-- A shape is asked, and learned unless it is known. -/
def SS.meet (s : SS) (x : Int) : SS := if s.askIs x 1 then s.asked x 1 else (s.asked x 1).learn ⟨x, x, 1⟩
def meets (s : SS) : Nat → SS
  | 0 => s
  | n + 1 => (meets s n).meet n
def turns (s : SS) (k : Nat) : Nat → SS
  | 0 => s
  | n + 1 => meets (turns s k n) k
def asks (s : SS) : Nat → SS
  | 0 => s
  | n + 1 => (asks s n).asked n 1
def Small (s : SS) (n : Nat) : Prop := s.rw ≤ n ∧ s.hits ≤ n
theorem small_meet {s : SS} {n : Nat} (h : Small s n) (x : Int) : Small (s.meet x) (n + 1) := by
  obtain ⟨h1, h2⟩ := h
  have a := hits_step s x 1
  have b := rw_step (s.asked x 1) ⟨x, x, 1⟩
  unfold SS.meet
  split
  · exact ⟨by omega, by omega⟩
  · exact ⟨by omega, by omega⟩
theorem small_meets {s : SS} {n : Nat} (h : Small s n) : ∀ k, Small (meets s k) (n + k)
  | 0 => h
  | k + 1 => small_meet (small_meets h k) k
theorem small_turns {s : SS} {n : Nat} (h : Small s n) (k : Nat) : ∀ j, Small (turns s k j) (n + j * k)
  | 0 => by simpa [turns] using h
  | j + 1 => by
    have := small_meets (small_turns h k j) k
    rw [show n + (j + 1) * k = n + j * k + k by rw [Nat.add_mul]; omega]
    exact this
theorem small_asks {s : SS} {n : Nat} (h : Small s n) : ∀ k, Small (asks s k) (n + k)
  | 0 => h
  | k + 1 => by
    have a := hits_step (asks s k) k 1
    have b := small_asks h k
    obtain ⟨b1, b2⟩ := b
    exact ⟨by simp only [asks]; omega, by simp only [asks]; omega⟩
def endOf (W : Nat) (m : Nat) : SS := turns (SS.new W 0) (W + 1 + m) 10
def goodTurn (W m : Nat) : Bool :=
  let s := endOf W m
  let t := asks s (W + 1 + m)
  t.state == 2 && t.deopts == 4 && t.hits == s.hits && decide (t.rw ≤ 4 * (W : Int)) && t.l.length == 0
theorem good_turn : ∀ W : Fin 9, ∀ m : Fin 5, W.val = 0 ∨ goodTurn W.val m.val = true := by decide +kernel

set_option maxRecDepth 100000 in
set_option maxHeartbeats 1000000 in
theorem turns_any (a c : Int) (w : World) (ha : 0 ≤ a ∧ a ≤ 255) (hc : 0 ≤ c ∧ c ≤ 255) :
    Calls Try.prog 4 #[.int .u8 a, .int .u8 c] w fun e w' => e = .returned (.bool true) ∧ Below w.heap.size w w' := by
  go_enter Try.func4, Try.ntmps4
  go_wp2_with fail
  refine (alive_any _).mono ?_
  rintro e w1 ⟨rfl, hk⟩
  have kk : Kp (fun k => w.heap.size ≤ k) w w1 := Kp.of_below hk
  have hP : ∀ k, w1.heap.size ≤ k → w.heap.size ≤ k := fun k h => Nat.le_trans hk.size h
  clear hk
  go_wp2_with fail
  refine (new_own (P := fun k => w.heap.size ≤ k) _ _ hP).mono ?_
  rintro e w2 ⟨b, rfl, hO, k2⟩
  obtain ⟨W, hW⟩ : ∃ W : Nat, (W : Int) = a % 8 + 1 := ⟨(a % 8 + 1).toNat, by omega⟩
  obtain ⟨m, hm⟩ : ∃ m : Nat, (m : Int) = c % 5 := ⟨(c % 5).toNat, by omega⟩
  obtain ⟨n, hn⟩ : ∃ n : Nat, n = W + 1 + m := ⟨_, rfl⟩
  have hn' : (W : Int) + 1 + m = n := by omega
  have hgood : goodTurn W m = true := by
    have := good_turn ⟨W, by omega⟩ ⟨m, by omega⟩
    rcases this with h | h
    · simp at h; omega
    · exact h
  have hn13 : n ≤ 13 := by omega
  have hW1 : 1 ≤ W ∧ W ≤ 8 := by omega
  replace kk := kk.trans k2
  have hsm : Small (SS.new W 0) 0 := ⟨by simp [SS.new], by simp [SS.new]⟩
  have hend : turns (SS.new W 0) n 10 = endOf W m := by unfold endOf; rw [hn]
  have hO : Own (fun k => w.heap.size ≤ k) w2 b (turns (SS.new W 0) n 0) := by rw [hW]; exact hO
  rw [← hW, ← hm, hn']
  have HG := Lib.hid hgood
  have HN := Lib.hid hn
  have HE := Lib.hid hend
  have HSM := Lib.hid hsm
  clear hgood hn hn' hend hW hm hP k2 hsm
  generalize hs0 : SS.new W 0 = s0 at *
  have HS0 := Lib.hid hs0; clear hs0
  go_wp2_with fail
  go_loopw [27] (fun iv wr => ∃ i : Nat, iv = .int .i64 i ∧ i ≤ 10 ∧ Own (fun k => w.heap.size ≤ k) wr b (turns s0 n i) ∧ Kp (fun k => w.heap.size ≤ k) w wr) (fun iv _ => 10 - (intOf iv).toNat)
  case atStart => exact ⟨0, rfl, by omega, hO, kk⟩
  case round =>
    clear hO kk
    obtain ⟨i, rfl, hi, hO, kk⟩ := hrel
    by_cases hi10 : (i : Int) < 10
    · have hsi := small_turns HSM.out n i
      have hb : i * n ≤ 130 := by
        have : i * n ≤ 10 * 13 := Nat.mul_le_mul (by omega) (by omega)
        omega
      rw [Nat.zero_add] at hsi
      have HSI := Lib.hid hsi; clear hsi
      go_wp2_with fail
      go_loopw [30] (fun jv wx => ∃ j : Nat, jv = .int .i64 j ∧ j ≤ n ∧ Own (fun k => w.heap.size ≤ k) wx b (meets (turns s0 n i) j) ∧ Kp (fun k => w.heap.size ≤ k) w wx) (fun jv _ => n - (intOf jv).toNat)
      case atStart => exact ⟨0, rfl, by omega, hO, kk⟩
      case round =>
        clear hO kk
        obtain ⟨j, rfl, hj, hO, kk⟩ := hrel
        by_cases hjn : j < n
        · have hsj := small_meets HSI.out j
          obtain ⟨q1, q2⟩ := hsj
          have hP := le_of_kp kk (P := fun k => w.heap.size ≤ k) (fun _ h => h)
          go_wp2_with fail
          refine (ask_own hO j 1 (by omega)).mono ?_
          rintro e w3 ⟨he, hO', hk'⟩
          replace hP := le_of_kp hk' hP
          replace kk := kk.trans hk'
          clear hk' hO
          have hst := hits_step (meets (turns s0 n i) j) j 1
          cases hq : (meets (turns s0 n i) j).askIs j 1 with
          | true =>
            rw [hq] at he
            obtain rfl := he
            have hO : Own (fun k => w.heap.size ≤ k) w3 b (meets (turns s0 n i) (j + 1)) := by
              simp only [meets, SS.meet, hq, if_true]; exact hO'
            clear hO' hst hq
            go_wp2
            go_roundw
            case rel => exact ⟨j + 1, by go_num, by omega, hO, kk⟩
            case measure => simp [intOf]; omega
          | false =>
            rw [hq] at he
            obtain rfl := he
            go_wp2_with fail
            refine (learn_own hO' ⟨j, j, 1⟩ hP (by omega)).mono ?_
            rintro e w4 ⟨rfl, hO4, hk'⟩
            replace kk := kk.trans hk'
            have hO : Own (fun k => w.heap.size ≤ k) w4 b (meets (turns s0 n i) (j + 1)) := by
              simp only [meets, SS.meet, hq]; exact hO4
            clear hk' hO' hO4 hst hq hP
            go_wp2
            go_roundw
            case rel => exact ⟨j + 1, by go_num, by omega, hO, kk⟩
            case measure => simp [intOf]; omega
        · obtain rfl : j = n := by omega
          go_wp2_with fail
          go_roundw
          case rel => exact ⟨i + 1, by go_num, by omega, hO, kk⟩
          case measure => simp [intOf]; omega
    · obtain rfl : i = 10 := by omega
      have hP := le_of_kp kk (P := fun k => w.heap.size ≤ k) (fun _ h => h)
      rw [HE.out] at hO
      have hsm : Small (endOf W m) 130 := by
        have h1 := small_turns HSM.out n 10
        rw [HE.out] at h1
        exact ⟨by have := h1.1; omega, by have := h1.2; omega⟩
      have HSE := Lib.hid hsm; clear hsm
      go_wp2_with fail
      refine (hits_own hO).mono ?_
      rintro e w1 ⟨he, hk'⟩
      obtain rfl : e = .returned (.int .i64 (endOf W m).hits) := he
      replace hP := le_of_kp hk' hP
      replace kk := kp_tell kk hk'
      replace hO := own_tell hO hk'
      clear hk'
      have hO : Own (fun k => w.heap.size ≤ k) w1 b (asks (endOf W m) 0) := hO
      generalize hse : endOf W m = se at *
      have HX := Lib.hid hse; clear hse
      go_wp2_with fail
      go_loopw [50] (fun jv wx => ∃ j : Nat, jv = .int .i64 j ∧ j ≤ n ∧ Own (fun k => w.heap.size ≤ k) wx b (asks se j) ∧ Kp (fun k => w.heap.size ≤ k) w wx) (fun jv _ => n - (intOf jv).toNat)
      case atStart => exact ⟨0, rfl, by omega, hO, kk⟩
      case round =>
        clear hO kk hP
        obtain ⟨j, rfl, hj, hO, kk⟩ := hrel
        have hP := le_of_kp kk (P := fun k => w.heap.size ≤ k) (fun _ h => h)
        by_cases hjn : j < n
        · have hsj := small_asks HSE.out j
          obtain ⟨q1, q2⟩ := hsj
          go_wp2_with fail
          refine (ask_own hO j 1 (by omega)).mono ?_
          rintro e w3 ⟨rfl, hO', hk'⟩
          replace kk := kk.trans hk'
          clear hk' hO
          go_wp2
          go_roundw
          case rel => exact ⟨j + 1, by go_num, by omega, hO', kk⟩
          case measure => simp [intOf]; omega
        · obtain rfl : j = n := by omega
          obtain ⟨g1, g2, g3, g4, g5⟩ : (asks se j).state = 2 ∧ (asks se j).deopts = 4 ∧ (asks se j).hits = se.hits ∧ (asks se j).rw ≤ 4 * (W : Int) ∧ (asks se j).l = [] := by
            have := HG.out
            unfold goodTurn at this
            rw [HX.out, ← HN.out] at this
            simpa [and_assoc] using this
          generalize asks se j = st at *
          go_wp2_with fail
          refine (state_own hO).mono ?_
          rintro e w1 ⟨he, hk'⟩
          obtain rfl : e = .returned (.int .i64 st.state) := he
          replace hP := le_of_kp hk' hP
          replace kk := kp_tell kk hk'
          replace hO := own_tell hO hk'
          clear hk'
          go_wp2_with fail
          refine (deopts_own hO).mono ?_
          rintro e w1 ⟨he, hk'⟩
          obtain rfl : e = .returned (.int .i64 st.deopts) := he
          replace hP := le_of_kp hk' hP
          replace kk := kp_tell kk hk'
          replace hO := own_tell hO hk'
          clear hk'
          go_wp2_with fail
          refine (hits_own hO).mono ?_
          rintro e w1 ⟨he, hk'⟩
          obtain rfl : e = .returned (.int .i64 st.hits) := he
          replace hP := le_of_kp hk' hP
          replace kk := kp_tell kk hk'
          replace hO := own_tell hO hk'
          clear hk'
          go_wp2_with fail
          refine (rewrites_own hO).mono ?_
          rintro e w1 ⟨he, hk'⟩
          obtain rfl : e = .returned (.int .i64 st.rw) := he
          replace hP := le_of_kp hk' hP
          replace kk := kp_tell kk hk'
          replace hO := own_tell hO hk'
          clear hk'
          go_wp2_with fail
          refine (len_own hO).mono ?_
          rintro e w1 ⟨he, hk'⟩
          obtain rfl : e = .returned (.int .i64 st.l.length) := he
          replace hP := le_of_kp hk' hP
          replace kk := kp_tell kk hk'
          replace hO := own_tell hO hk'
          clear hk'
          go_wp2
          go_returns
          exact ⟨rfl, kk.below (Nat.le_refl _) (fun _ h => by omega)⟩
end Go.Proofs.Ytcdofhfneiednaa
