/- Right on the program's side. -/
import Derived.Test.YtcdofhfneiednaaPoA
namespace Go.Proofs.Ytcdofhfneiednaa
set_option linter.unusedSimpArgs false
set_option linter.unusedVariables false
open Go.RowKit

theorem all_take {l : List Ev} {i : Nat} (hi : i < l.length) : (l.take (i + 1)).all Ev.right = ((l.take i).all Ev.right && l[i].right) := by
  rw [List.take_succ_eq_append_getElem hi, List.all_append]; simp
theorem all_fails {l : List Ev} {i : Nat} (hi : i < l.length) (h : l[i].right = false) : l.all Ev.right = false := by
  rw [List.all_eq_false]
  exact ⟨l[i], List.getElem_mem hi, by simp [h]⟩
set_option maxRecDepth 100000 in
set_option maxHeartbeats 2000000 in
theorem right_any (p : Pol) (v : Value) (w : World) (h : ERow 69 w v p.evs) (hl : p.evs.length ≤ 100000) :
    Calls Try.prog 25 #[.agg (p.cells v)] w fun e w' => e = .returned (.bool p.right) ∧ Kp (fun _ => False) w w' := by
  obtain ⟨ao, cap, rfl⟩ := row_form h
  have H := Lib.hid h; clear h
  unfold Pol.cells
  cases q1 : within p.ways 0 8 with
  | false =>
    go_enter Try.func25, Try.ntmps25
    go_wp2_with fail
    refine (within_any _ _ _ _).mono ?_
    rintro e wz ⟨rfl, rfl⟩
    simp only [q1]
    go_wp2_with fail
    all_goals go_returns
    all_goals exact ⟨ret_bool (by simp [Pol.right, q1]), by (repeat (first | (with_reducible exact Kp.refl _ _) | (with_reducible assumption) | (with_reducible refine Kp.drew ?_) | (with_reducible refine Kp.drewN ?_ _) | (with_reducible refine Kp.alloc ?_ _) | (with_reducible refine Kp.setCell ?_ ?_ _) | (left; rfl) | (left; left; rfl) | (right; simp; done) | (right; simp; omega) | go_size))⟩
  | true =>
  cases q2 : within p.warm 0 255 with
  | false =>
    go_enter Try.func25, Try.ntmps25
    go_wp2_with fail
    refine (within_any _ _ _ _).mono ?_
    rintro e wz ⟨rfl, rfl⟩
    simp only [q1]
    go_wp2_with fail
    refine (within_any _ _ _ _).mono ?_
    rintro e wz ⟨rfl, rfl⟩
    simp only [q2]
    go_wp2_with fail
    all_goals go_returns
    all_goals exact ⟨ret_bool (by simp [Pol.right, q1, q2]), by (repeat (first | (with_reducible exact Kp.refl _ _) | (with_reducible assumption) | (with_reducible refine Kp.drew ?_) | (with_reducible refine Kp.drewN ?_ _) | (with_reducible refine Kp.alloc ?_ _) | (with_reducible refine Kp.setCell ?_ ?_ _) | (left; rfl) | (left; left; rfl) | (right; simp; done) | (right; simp; omega) | go_size))⟩
  | true =>
  cases q3 : within p.deep 0 64 with
  | false =>
    go_enter Try.func25, Try.ntmps25
    go_wp2_with fail
    refine (within_any _ _ _ _).mono ?_
    rintro e wz ⟨rfl, rfl⟩
    simp only [q1]
    go_wp2_with fail
    refine (within_any _ _ _ _).mono ?_
    rintro e wz ⟨rfl, rfl⟩
    simp only [q2]
    go_wp2_with fail
    refine (within_any _ _ _ _).mono ?_
    rintro e wz ⟨rfl, rfl⟩
    simp only [q3]
    go_wp2_with fail
    all_goals go_returns
    all_goals exact ⟨ret_bool (by simp [Pol.right, q1, q2, q3]), by (repeat (first | (with_reducible exact Kp.refl _ _) | (with_reducible assumption) | (with_reducible refine Kp.drew ?_) | (with_reducible refine Kp.drewN ?_ _) | (with_reducible refine Kp.alloc ?_ _) | (with_reducible refine Kp.setCell ?_ ?_ _) | (left; rfl) | (left; left; rfl) | (right; simp; done) | (right; simp; omega) | go_size))⟩
  | true =>
  cases q4 : within p.fan 0 64 with
  | false =>
    go_enter Try.func25, Try.ntmps25
    go_wp2_with fail
    refine (within_any _ _ _ _).mono ?_
    rintro e wz ⟨rfl, rfl⟩
    simp only [q1]
    go_wp2_with fail
    refine (within_any _ _ _ _).mono ?_
    rintro e wz ⟨rfl, rfl⟩
    simp only [q2]
    go_wp2_with fail
    refine (within_any _ _ _ _).mono ?_
    rintro e wz ⟨rfl, rfl⟩
    simp only [q3]
    go_wp2_with fail
    refine (within_any _ _ _ _).mono ?_
    rintro e wz ⟨rfl, rfl⟩
    simp only [q4]
    go_wp2_with fail
    all_goals go_returns
    all_goals exact ⟨ret_bool (by simp [Pol.right, q1, q2, q3, q4]), by (repeat (first | (with_reducible exact Kp.refl _ _) | (with_reducible assumption) | (with_reducible refine Kp.drew ?_) | (with_reducible refine Kp.drewN ?_ _) | (with_reducible refine Kp.alloc ?_ _) | (with_reducible refine Kp.setCell ?_ ?_ _) | (left; rfl) | (left; left; rfl) | (right; simp; done) | (right; simp; omega) | go_size))⟩
  | true =>
  by_cases q5 : p.evs.length ≤ 64
  · have hR : p.right = p.evs.all Ev.right := by unfold Pol.right; simp [q1, q2, q3, q4, q5]
    rw [hR]
    go_enter Try.func25, Try.ntmps25
    go_wp2_with fail
    refine (within_any _ _ _ _).mono ?_
    rintro e wz ⟨rfl, rfl⟩
    simp only [q1]
    go_wp2_with fail
    refine (within_any _ _ _ _).mono ?_
    rintro e wz ⟨rfl, rfl⟩
    simp only [q2]
    go_wp2_with fail
    refine (within_any _ _ _ _).mono ?_
    rintro e wz ⟨rfl, rfl⟩
    simp only [q3]
    go_wp2_with fail
    refine (within_any _ _ _ _).mono ?_
    rintro e wz ⟨rfl, rfl⟩
    simp only [q4]
    go_wp2_with fail
    go_loopw [29] (fun iv wr => ∃ i : Nat, iv = .int .i64 i ∧ i ≤ p.evs.length ∧ (p.evs.take i).all Ev.right = true ∧ Kp (fun _ => False) w wr) (fun iv _ => p.evs.length - (intOf iv).toNat)
    case atStart => exact ⟨0, rfl, by omega, by simp, (Kp.refl _ _).alloc _⟩
    case round =>
      obtain ⟨i, rfl, hi, hall, kx⟩ := hrel
      by_cases hlt : (i : Int) < p.evs.length
      · have hi' : i < p.evs.length := by omega
        obtain ⟨g, cap', hga⟩ := row_some H.out (by omega)
        simp only [Value.slice.injEq] at hga
        obtain ⟨rfl, _, rfl⟩ := hga
        have hg := (H.out.lt g rfl).2
        obtain ⟨c0, c1, c2, c3⟩ := ERow.cell H.out i hi'
        have d0 := (kx.cell (p := ⟨g, i * 4, none⟩) hg (fun h => h)).trans c0
        have d1 := (kx.cell (p := ⟨g, i * 4 + 1, none⟩) hg (fun h => h)).trans c1
        have d2 := (kx.cell (p := ⟨g, i * 4 + 2, none⟩) hg (fun h => h)).trans c2
        have d3 := (kx.cell (p := ⟨g, i * 4 + 3, none⟩) hg (fun h => h)).trans c3
        have hgx := Nat.lt_of_lt_of_le hg kx.size
        have hat := all_take hi'
        have hf := all_fails hi'
        have KX := Lib.hid kx; have HAT := Lib.hid hat; have HF := Lib.hid hf; have HA := Lib.hid hall
        clear kx c0 c1 c2 c3 hat hf hall
        generalize p.evs[i] = ev at *
        obtain ⟨a, k, s, y⟩ := ev
        dsimp only at d0 d1 d2 d3
        go_wp2_with fail
        refine (evright_any ⟨a, k, s, y⟩ _).mono ?_
        rintro e wz ⟨rfl, hk⟩
        have k2 : Kp (fun _ => False) w wz := (KX.out.alloc _).trans hk
        have K2 := Lib.hid k2; clear k2 hk
        cases hev : Ev.right ⟨a, k, s, y⟩ with
        | true =>
          go_wp2
          go_roundw
          case rel => exact ⟨i + 1, by go_num, by omega, by rw [HAT.out, HA.out, hev]; rfl, K2.out⟩
          case measure => simp [intOf]; omega
        | false =>
          go_wp2
          go_returns
          exact ⟨ret_bool (HF.out hev).symm, K2.out⟩
      · obtain rfl : i = p.evs.length := by omega
        have HA := Lib.hid hall; have KX := Lib.hid kx
        clear hall kx
        go_wp2
        go_returns
        exact ⟨ret_bool (by have := HA.out; rw [List.take_length] at this; exact this.symm), KX.out⟩
  · go_enter Try.func25, Try.ntmps25
    go_wp2_with fail
    refine (within_any _ _ _ _).mono ?_
    rintro e wz ⟨rfl, rfl⟩
    simp only [q1]
    go_wp2_with fail
    refine (within_any _ _ _ _).mono ?_
    rintro e wz ⟨rfl, rfl⟩
    simp only [q2]
    go_wp2_with fail
    refine (within_any _ _ _ _).mono ?_
    rintro e wz ⟨rfl, rfl⟩
    simp only [q3]
    go_wp2_with fail
    refine (within_any _ _ _ _).mono ?_
    rintro e wz ⟨rfl, rfl⟩
    simp only [q4]
    go_wp2_with fail
    all_goals go_returns
    all_goals exact ⟨ret_bool (by simp [Pol.right, q1, q2, q3, q4, q5]), by (repeat (first | (with_reducible exact Kp.refl _ _) | (with_reducible assumption) | (with_reducible refine Kp.drew ?_) | (with_reducible refine Kp.drewN ?_ _) | (with_reducible refine Kp.alloc ?_ _) | (with_reducible refine Kp.setCell ?_ ?_ _) | (left; rfl) | (left; left; rfl) | (right; simp; done) | (right; simp; omega) | go_size))⟩
end Go.Proofs.Ytcdofhfneiednaa
