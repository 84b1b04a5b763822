/- Right on the document's side. -/
import Derived.Test.YtcdofhfneiednaaPoB
namespace Go.Proofs.Ytcdofhfneiednaa
set_option linter.unusedSimpArgs false
set_option linter.unusedVariables false
open Go.RowKit

theorem within_iff {n lo hi : Int} : within n lo hi = true ↔ lo ≤ n ∧ n ≤ hi := by unfold within; simp
theorem right_iff (e : Ev) : e.right = true ↔ 1 ≤ e.at' ∧ 1 ≤ e.kind ∧ e.kind ≤ 3 := by unfold Ev.right; simp [within_iff]
set_option maxRecDepth 100000 in
set_option maxHeartbeats 4000000 in
theorem rright_any (p : Pol) (v : Value) (w : World) (h : ERow 96 w v p.evs) (hl : p.evs.length ≤ 100000) :
    Calls Try.prog 27 #[.agg (p.cells v)] w fun e w' => e = .returned (.bool p.right) ∧ Kp (fun _ => False) w w' := by
  obtain ⟨ao, cap, rfl⟩ := row_form h
  have H := Lib.hid h; clear h
  unfold Pol.cells
  by_cases l0 : p.ways < 0
  · have hR : p.right = false := by
      cases h : p.right
      · rfl
      · unfold Pol.right at h; simp [within_iff] at h; omega
    rw [hR]
    go_enter Try.func27, Try.ntmps27
    go_wp2
    all_goals go_returns
    all_goals exact ⟨ret_bool (by first | rfl | (symm; exact hR) | simp [hR]), by (repeat (first | (with_reducible exact Kp.refl _ _) | (with_reducible assumption) | (with_reducible refine Kp.drew ?_) | (with_reducible refine Kp.drewN ?_ _) | (with_reducible refine Kp.alloc ?_ _) | (with_reducible refine Kp.setCell ?_ ?_ _) | (left; rfl) | (left; left; rfl) | (right; simp; done) | (right; simp; omega) | go_size))⟩
  have g0 : 0 ≤ p.ways := by omega
  clear l0
  by_cases u0 : 8 < p.ways
  · have hR : p.right = false := by
      cases h : p.right
      · rfl
      · unfold Pol.right at h; simp [within_iff] at h; omega
    rw [hR]
    go_enter Try.func27, Try.ntmps27
    go_wp2
    all_goals go_returns
    all_goals exact ⟨ret_bool (by first | rfl | (symm; exact hR) | simp [hR]), by (repeat (first | (with_reducible exact Kp.refl _ _) | (with_reducible assumption) | (with_reducible refine Kp.drew ?_) | (with_reducible refine Kp.drewN ?_ _) | (with_reducible refine Kp.alloc ?_ _) | (with_reducible refine Kp.setCell ?_ ?_ _) | (left; rfl) | (left; left; rfl) | (right; simp; done) | (right; simp; omega) | go_size))⟩
  have v0 : p.ways ≤ 8 := by omega
  clear u0
  by_cases l1 : p.warm < 0
  · have hR : p.right = false := by
      cases h : p.right
      · rfl
      · unfold Pol.right at h; simp [within_iff] at h; omega
    rw [hR]
    go_enter Try.func27, Try.ntmps27
    go_wp2
    all_goals go_returns
    all_goals exact ⟨ret_bool (by first | rfl | (symm; exact hR) | simp [hR]), by (repeat (first | (with_reducible exact Kp.refl _ _) | (with_reducible assumption) | (with_reducible refine Kp.drew ?_) | (with_reducible refine Kp.drewN ?_ _) | (with_reducible refine Kp.alloc ?_ _) | (with_reducible refine Kp.setCell ?_ ?_ _) | (left; rfl) | (left; left; rfl) | (right; simp; done) | (right; simp; omega) | go_size))⟩
  have g1 : 0 ≤ p.warm := by omega
  clear l1
  by_cases u1 : 255 < p.warm
  · have hR : p.right = false := by
      cases h : p.right
      · rfl
      · unfold Pol.right at h; simp [within_iff] at h; omega
    rw [hR]
    go_enter Try.func27, Try.ntmps27
    go_wp2
    all_goals go_returns
    all_goals exact ⟨ret_bool (by first | rfl | (symm; exact hR) | simp [hR]), by (repeat (first | (with_reducible exact Kp.refl _ _) | (with_reducible assumption) | (with_reducible refine Kp.drew ?_) | (with_reducible refine Kp.drewN ?_ _) | (with_reducible refine Kp.alloc ?_ _) | (with_reducible refine Kp.setCell ?_ ?_ _) | (left; rfl) | (left; left; rfl) | (right; simp; done) | (right; simp; omega) | go_size))⟩
  have v1 : p.warm ≤ 255 := by omega
  clear u1
  by_cases l2 : p.deep < 0
  · have hR : p.right = false := by
      cases h : p.right
      · rfl
      · unfold Pol.right at h; simp [within_iff] at h; omega
    rw [hR]
    go_enter Try.func27, Try.ntmps27
    go_wp2
    all_goals go_returns
    all_goals exact ⟨ret_bool (by first | rfl | (symm; exact hR) | simp [hR]), by (repeat (first | (with_reducible exact Kp.refl _ _) | (with_reducible assumption) | (with_reducible refine Kp.drew ?_) | (with_reducible refine Kp.drewN ?_ _) | (with_reducible refine Kp.alloc ?_ _) | (with_reducible refine Kp.setCell ?_ ?_ _) | (left; rfl) | (left; left; rfl) | (right; simp; done) | (right; simp; omega) | go_size))⟩
  have g2 : 0 ≤ p.deep := by omega
  clear l2
  by_cases u2 : 64 < p.deep
  · have hR : p.right = false := by
      cases h : p.right
      · rfl
      · unfold Pol.right at h; simp [within_iff] at h; omega
    rw [hR]
    go_enter Try.func27, Try.ntmps27
    go_wp2
    all_goals go_returns
    all_goals exact ⟨ret_bool (by first | rfl | (symm; exact hR) | simp [hR]), by (repeat (first | (with_reducible exact Kp.refl _ _) | (with_reducible assumption) | (with_reducible refine Kp.drew ?_) | (with_reducible refine Kp.drewN ?_ _) | (with_reducible refine Kp.alloc ?_ _) | (with_reducible refine Kp.setCell ?_ ?_ _) | (left; rfl) | (left; left; rfl) | (right; simp; done) | (right; simp; omega) | go_size))⟩
  have v2 : p.deep ≤ 64 := by omega
  clear u2
  by_cases l3 : p.fan < 0
  · have hR : p.right = false := by
      cases h : p.right
      · rfl
      · unfold Pol.right at h; simp [within_iff] at h; omega
    rw [hR]
    go_enter Try.func27, Try.ntmps27
    go_wp2
    all_goals go_returns
    all_goals exact ⟨ret_bool (by first | rfl | (symm; exact hR) | simp [hR]), by (repeat (first | (with_reducible exact Kp.refl _ _) | (with_reducible assumption) | (with_reducible refine Kp.drew ?_) | (with_reducible refine Kp.drewN ?_ _) | (with_reducible refine Kp.alloc ?_ _) | (with_reducible refine Kp.setCell ?_ ?_ _) | (left; rfl) | (left; left; rfl) | (right; simp; done) | (right; simp; omega) | go_size))⟩
  have g3 : 0 ≤ p.fan := by omega
  clear l3
  by_cases u3 : 64 < p.fan
  · have hR : p.right = false := by
      cases h : p.right
      · rfl
      · unfold Pol.right at h; simp [within_iff] at h; omega
    rw [hR]
    go_enter Try.func27, Try.ntmps27
    go_wp2
    all_goals go_returns
    all_goals exact ⟨ret_bool (by first | rfl | (symm; exact hR) | simp [hR]), by (repeat (first | (with_reducible exact Kp.refl _ _) | (with_reducible assumption) | (with_reducible refine Kp.drew ?_) | (with_reducible refine Kp.drewN ?_ _) | (with_reducible refine Kp.alloc ?_ _) | (with_reducible refine Kp.setCell ?_ ?_ _) | (left; rfl) | (left; left; rfl) | (right; simp; done) | (right; simp; omega) | go_size))⟩
  have v3 : p.fan ≤ 64 := by omega
  clear u3
  by_cases q5 : (64 : Int) < p.evs.length
  · have hR : p.right = false := by
      cases h : p.right
      · rfl
      · unfold Pol.right at h; simp [within_iff] at h; omega
    rw [hR]
    go_enter Try.func27, Try.ntmps27
    go_wp2
    all_goals go_returns
    all_goals exact ⟨ret_bool (by first | rfl | (symm; exact hR) | simp [hR]), by (repeat (first | (with_reducible exact Kp.refl _ _) | (with_reducible assumption) | (with_reducible refine Kp.drew ?_) | (with_reducible refine Kp.drewN ?_ _) | (with_reducible refine Kp.alloc ?_ _) | (with_reducible refine Kp.setCell ?_ ?_ _) | (left; rfl) | (left; left; rfl) | (right; simp; done) | (right; simp; omega) | go_size))⟩
  have q6 : (p.evs.length : Int) ≤ 64 := by omega
  clear q5
  have hR : p.right = p.evs.all Ev.right := by
    unfold Pol.right
    rw [within_iff.2 ⟨g0, v0⟩, within_iff.2 ⟨g1, v1⟩, within_iff.2 ⟨g2, v2⟩, within_iff.2 ⟨g3, v3⟩]
    have : p.evs.length ≤ 64 := by omega
    simp [this]
  rw [hR]
  go_enter Try.func27, Try.ntmps27
  go_wp2_with fail
  clear g0 g1 g2 g3 v0 v1 v2 v3
  go_loopw [52] (fun iv wr => ∃ i : Nat, iv = .int .i64 i ∧ i ≤ p.evs.length ∧ (p.evs.take i).all Ev.right = true ∧ Kp (fun _ => False) w wr) (fun iv _ => p.evs.length - (intOf iv).toNat)
  case atStart => exact ⟨0, rfl, by omega, by simp, (Kp.refl _ _).alloc _⟩
  case round =>
    obtain ⟨i, rfl, hi, hall, kx⟩ := hrel
    by_cases hlt : (i : Int) < p.evs.length
    · have hi' : i < p.evs.length := by omega
      obtain ⟨g, cap', hga⟩ := row_some H.out (by omega)
      simp only [Value.slice.injEq] at hga
      obtain ⟨rfl, _, rfl⟩ := hga
      have hg := (H.out.lt g rfl).2
      obtain ⟨c0, c1, c2, c3⟩ := ERow.cell H.out i hi'
      have d0 := (kx.cell (p := ⟨g, i * 4, none⟩) hg (fun h => h)).trans c0
      have d1 := (kx.cell (p := ⟨g, i * 4 + 1, none⟩) hg (fun h => h)).trans c1
      have d2 := (kx.cell (p := ⟨g, i * 4 + 2, none⟩) hg (fun h => h)).trans c2
      have d3 := (kx.cell (p := ⟨g, i * 4 + 3, none⟩) hg (fun h => h)).trans c3
      have hgx := Nat.lt_of_lt_of_le hg kx.size
      have hat := all_take hi'
      have hf := all_fails hi'
      have KX := Lib.hid kx; have HAT := Lib.hid hat; have HF := Lib.hid hf; have HA := Lib.hid hall
      clear kx c0 c1 c2 c3 hat hf hall
      generalize p.evs[i] = ev at *
      obtain ⟨a, k, s, y⟩ := ev
      dsimp only at d0 d1 d2 d3
      have hri := right_iff ⟨a, k, s, y⟩
      dsimp only at hri
      by_cases h1 : a < 1
      · have hev : Ev.right ⟨a, k, s, y⟩ = false := by
          cases h : Ev.right ⟨a, k, s, y⟩
          · rfl
          · have := hri.1 h; omega
        have HE := Lib.hid hev; clear hri hev
        go_wp2
        go_returns
        exact ⟨ret_bool (HF.out HE.out).symm, KX.out.alloc _⟩
      have h1' : 1 ≤ a := by omega
      clear h1
      by_cases h2 : k < 1
      · have hev : Ev.right ⟨a, k, s, y⟩ = false := by
          cases h : Ev.right ⟨a, k, s, y⟩
          · rfl
          · have := hri.1 h; omega
        have HE := Lib.hid hev; clear hri hev
        go_wp2
        go_returns
        exact ⟨ret_bool (HF.out HE.out).symm, KX.out.alloc _⟩
      have h2' : 1 ≤ k := by omega
      clear h2
      by_cases h3 : 3 < k
      · have hev : Ev.right ⟨a, k, s, y⟩ = false := by
          cases h : Ev.right ⟨a, k, s, y⟩
          · rfl
          · have := hri.1 h; omega
        have HE := Lib.hid hev; clear hri hev
        go_wp2
        go_returns
        exact ⟨ret_bool (HF.out HE.out).symm, KX.out.alloc _⟩
      have h3' : k ≤ 3 := by omega
      clear h3
      have hev := hri.2 ⟨h1', h2', h3'⟩
      have HE := Lib.hid hev; clear hri hev
      go_wp2
      go_roundw
      case rel => exact ⟨i + 1, by go_num, by omega, by rw [HAT.out, HA.out, HE.out]; rfl, KX.out.alloc _⟩
      case measure => simp [intOf]; omega
    · obtain rfl : i = p.evs.length := by omega
      have HA := Lib.hid hall; have KX := Lib.hid kx
      clear hall kx
      go_wp2
      go_returns
      exact ⟨ret_bool (by have := HA.out; rw [List.take_length] at this; exact this.symm), KX.out⟩
end Go.Proofs.Ytcdofhfneiednaa
