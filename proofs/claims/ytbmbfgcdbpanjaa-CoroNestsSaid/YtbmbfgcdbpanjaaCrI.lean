/- selkielaw20.CoroNests: the walk. -/
import Derived.Test.YtbmbfgcdbpanjaaCrH
import Derived.Deep.LoopGhost
namespace Go.Proofs.Ytbmbfgcdbpanjaa
set_option linter.unusedSimpArgs false
set_option linter.unusedVariables false
open Go.RowKit

/-- So many threads that resumed one another, of so many. -/
def nest (D i : Nat) : Bk := ⟨List.range (i + 1), List.replicate (i + 1) false ++ List.replicate (D - i) true⟩
theorem nest_create (j : Nat) : (nest j j).create = ⟨List.range (j + 1), List.replicate (j + 2) false⟩ := by
  unfold nest Bk.create
  simp only [Nat.sub_self, List.replicate_zero, List.append_nil]
  rw [show List.replicate (j + 2) false = List.replicate (j + 1) false ++ [false] from by rw [show j + 2 = (j + 1) + 1 from rfl, List.replicate_succ']]
theorem nest_len (D i : Nat) (h : i ≤ D) : (nest D i).ended.length = D + 1 ∧ (nest D i).wait.length = i + 1 := by
  unfold nest; simp; omega
theorem run_range (n : Nat) (l : List Bool) : Bk.run ⟨List.range (n + 1), l⟩ = n := by
  unfold Bk.run; rw [List.getLastD_eq_getLast?]; simp [List.range_succ]
theorem has_range (n : Nat) (k : Nat) : hasN (List.range n) k = decide (k < n) := by
  unfold hasN
  rw [Bool.eq_iff_iff]
  simp only [List.any_eq_true, List.mem_range, beq_iff_eq, decide_eq_true_eq]
  exact ⟨fun ⟨x, h1, h2⟩ => by omega, fun h => ⟨k, h, rfl⟩⟩
theorem nest_at (D i k : Nat) : (nest D i).ended.getD k false = decide (i < k ∧ k ≤ D) := by
  unfold nest
  simp only [List.getD_eq_getElem?_getD, List.getElem?_append, List.getElem?_replicate, List.length_replicate]
  by_cases h1 : k < i + 1
  · simp [h1]; omega
  · rw [if_neg h1]
    by_cases h2 : k - (i + 1) < D - i
    · rw [if_pos h2]; simp; omega
    · rw [if_neg h2]; simp; omega
theorem code_new (j : Nat) : Bk.code ⟨List.range (j + 1), List.replicate (j + 2) false⟩ ((j + 1 : Nat) : Int) = 0 := by
  unfold Bk.code
  rw [if_neg (by simp; omega), if_neg (by simp [List.getD_eq_getElem?_getD]), run_range, if_neg (by omega), has_range, if_neg (by simp)]
theorem nest_resume (j : Nat) : Bk.resume ⟨List.range (j + 1), List.replicate (j + 2) false⟩ ((j + 1 : Nat) : Int) = nest (j + 1) (j + 1) := by
  unfold Bk.resume
  rw [code_new, if_pos rfl]
  unfold nest
  simp [List.range_succ]
theorem nest_code (D i k : Nat) (hi : i ≤ D) (hk : k < i) : (nest D i).code k = 2 := by
  unfold Bk.code
  have hl := nest_len D i hi
  rw [if_neg (by omega), Int.toNat_natCast, nest_at, if_neg (by simp; omega)]
  unfold nest
  rw [run_range, if_neg (by omega), has_range, if_pos (by simp; omega)]
theorem nest_run (D i : Nat) : (nest D i).run = i := run_range _ _
theorem nest_finish (D i : Nat) (h0 : 0 < i) (hi : i ≤ D) : (nest D i).finish = nest D (i - 1) := by
  unfold Bk.finish
  have hl := nest_len D i hi
  rw [if_neg (by omega), nest_run]
  obtain ⟨j, rfl⟩ : ∃ j, i = j + 1 := ⟨i - 1, by omega⟩
  unfold nest
  simp only [Nat.add_sub_cancel]
  congr 1
  · rw [List.range_succ, List.dropLast_concat]
  · rw [show List.replicate (j + 1 + 1) false = List.replicate (j + 1) false ++ [false] from List.replicate_succ', show D - j = (D - (j + 1)) + 1 by omega, List.replicate_succ]
    rw [List.append_assoc, List.set_append_right _ _ (by simp)]
    simp [List.replicate_succ]
theorem nest_dead (D i : Nat) (hi : i < D) : (nest D i).code ((i + 1 : Nat) : Int) = 3 := by
  unfold Bk.code
  have hl := nest_len D i (by omega)
  rw [if_neg (by omega), Int.toNat_natCast, nest_at, if_pos (by simp; omega)]

set_option maxRecDepth 100000 in
set_option maxHeartbeats 1000000 in
theorem nests_any (a : Int) (w : World) (ha : 0 ≤ a ∧ a ≤ 255) : Calls Try.prog 3 #[.int .u8 a] w fun e w' => e = .returned (.bool true) ∧ Below w.heap.size w w' := by
  have hP : ∀ k, w.heap.size ≤ k → w.heap.size ≤ k := fun _ h => h
  obtain ⟨D, hD⟩ : ∃ D : Nat, (D : Int) = a % 50 := ⟨(a % 50).toNat, by omega⟩
  have hD50 : D < 50 := by omega
  go_enter Try.func3, Try.ntmps3
  go_wp2_with fail
  refine (alive_any _).mono ?_
  rintro e w1 ⟨rfl, hk⟩
  have kk : Kp (fun k => w.heap.size ≤ k) w w1 := Kp.of_below hk
  replace hP := le_of_kp kk hP
  clear hk
  go_wp2_with fail
  refine (new_own hP).mono ?_
  rintro e w2 ⟨b, rfl, hO, hk⟩
  replace hP := le_of_kp hk hP
  replace kk := kk.trans hk
  clear hk
  have hO0 : OwnB (fun k => w.heap.size ≤ k) w2 b (nest 0 0) := hO
  clear hO
  go_wp2_with fail
  rw [← hD]
  clear hD
  go_loopw [17] (fun iv wr => ∃ j : Nat, iv = .int .i64 j ∧ j ≤ D ∧ OwnB (fun k => w.heap.size ≤ k) wr b (nest j j) ∧ Kp (fun k => w.heap.size ≤ k) w wr) (fun iv _ => D - (intOf iv).toNat)
  case atStart => exact ⟨0, rfl, by omega, hO0, kk⟩
  case round =>
    clear kk hP hO0
    obtain ⟨j, rfl, hj, hO, kk⟩ := hrel
    have hP : ∀ k, wr.heap.size ≤ k → w.heap.size ≤ k := fun k hk => Nat.le_trans kk.size hk
    by_cases hlt : (j : Int) < D
    · have hl := nest_len j j (by omega)
      go_wp2_with fail
      refine (create_own hO hP (by omega)).mono ?_
      rintro e wq ⟨he, hO', hk'⟩
      obtain rfl : e = .returned (.int .i64 ((j + 1 : Nat) : Int)) := he.trans (by rw [hl.1])
      replace hP := le_of_kp hk' hP
      replace kk := kk.trans hk'
      replace hO : OwnB (fun k => w.heap.size ≤ k) wq b (⟨List.range (j + 1), List.replicate (j + 2) false⟩) := by rw [nest_create] at hO'; exact hO'
      clear hk' hO' he
      have HO := Lib.hid hO; clear hO
      go_wp2_with fail
      have hO := HO.out; clear HO
      refine (resume_own hO ((j + 1 : Nat) : Int) hP (by simp; omega)).mono ?_
      rintro e wq ⟨he, hO', hk'⟩
      obtain rfl : e = .returned (.tuple #[.string ⟨#[]⟩, .int .i64 0]) := he.trans (by rw [code_new]; rfl)
      replace hP := le_of_kp hk' hP
      replace kk := kk.trans hk'
      replace hO : OwnB (fun k => w.heap.size ≤ k) wq b (nest (j + 1) (j + 1)) := by rw [nest_resume] at hO'; exact hO'
      clear hk' hO' he
      have HO := Lib.hid hO; clear hO
      go_wp2_with fail
      have hO := HO.out; clear HO
      refine (running_own hO).mono ?_
      rintro e wq ⟨he, hk'⟩
      obtain rfl : e = .returned (.int .i64 ((j + 1 : Nat) : Int)) := he.trans (by rw [nest_run])
      replace hP := le_of_kp (P := fun k => w.heap.size ≤ k) hk' hP
      replace kk := kp_tell kk hk'
      replace hO := ownb_tell hO hk'
      clear hk' he
      have HO := Lib.hid hO; clear hO
      go_wp2
      go_roundw
      case rel => exact ⟨j + 1, by go_num, by omega, HO.out, kk⟩
      case measure => simp [intOf]; omega
    · obtain rfl : j = D := by omega
      go_wp2_with fail
      go_loopw [41] (fun iv wx => ∃ i : Nat, iv = .int .i64 i ∧ i ≤ j ∧ OwnB (fun k => w.heap.size ≤ k) wx b (nest j j) ∧ Kp (fun k => w.heap.size ≤ k) w wx) (fun iv _ => j - (intOf iv).toNat)
      case atStart => exact ⟨0, rfl, by omega, hO, kk⟩
      case round =>
        clear kk hP hO
        obtain ⟨i, rfl, hi, hO, kk⟩ := hrel
        have hP := fun k (hk : wr.heap.size ≤ k) => Nat.le_trans kk.size hk
        by_cases hlt : (i : Int) < j
        · go_wp2_with fail
          refine (status_own hO i).mono ?_
          rintro e wq ⟨he, hk'⟩
          obtain rfl : e = .returned (.string ⟨#[110, 111, 114, 109, 97, 108]⟩) := he.trans (by rw [nest_code j j i (by omega) (by omega)]; rfl)
          replace hP := le_of_kp (P := fun k => w.heap.size ≤ k) hk' hP
          replace kk := kp_tell kk hk'
          replace hO := ownb_tell hO hk'
          clear hk' he
          have HO := Lib.hid hO; clear hO
          go_wp2
          go_roundw
          case rel => exact ⟨i + 1, by go_num, by omega, HO.out, kk⟩
          case measure => simp [intOf]; omega
        · obtain rfl : i = j := by omega
          have HO := Lib.hid hO; clear hO
          go_wp2_with fail
          go_loopw [9] (fun iv wx => ∃ k : Nat, iv = .int .i64 k ∧ k ≤ i ∧ OwnB (fun k => w.heap.size ≤ k) wx b (nest i k) ∧ Kp (fun k => w.heap.size ≤ k) w wx) (fun iv _ => (intOf iv).toNat)
          case atStart => exact ⟨i, rfl, by omega, HO.out, kk⟩
          case round =>
            clear kk hP HO
            obtain ⟨k, rfl, hk, hO, kk⟩ := hrel
            have hP := fun k (hk : wr.heap.size ≤ k) => Nat.le_trans kk.size hk
            by_cases h0 : (0 : Int) < k
            · have hl := nest_len i k hk
              obtain ⟨m, rfl⟩ : ∃ m, k = m + 1 := ⟨k - 1, by omega⟩
              go_wp2_with fail
              refine (deep_own hO).mono ?_
              rintro e wq ⟨he, hk'⟩
              obtain rfl : e = .returned (.int .i64 ((m + 1 : Nat) : Int)) := he.trans (by rw [hl.2]; rfl)
              replace hP := le_of_kp (P := fun k => w.heap.size ≤ k) hk' hP
              replace kk := kp_tell kk hk'
              replace hO := ownb_tell hO hk'
              clear hk' he
              have HO := Lib.hid hO; clear hO
              go_wp2_with fail
              have hO := HO.out; clear HO
              refine (finish_own hO).mono ?_
              rintro e wq ⟨he, hO', hk'⟩
              obtain rfl : e = .returned (.int .i64 0) := he.trans (by unfold bkE; rw [hl.2, if_neg (by omega)])
              replace hP := le_of_kp hk' hP
              replace kk := kk.trans hk'
              replace hO : OwnB (fun k => w.heap.size ≤ k) wq b (nest i m) := by rw [nest_finish i (m + 1) (by omega) hk] at hO'; exact hO'
              clear hk' hO' he
              have HO := Lib.hid hO; clear hO
              go_wp2_with fail
              have hO := HO.out; clear HO
              refine (status_own hO ((m + 1 : Nat) : Int)).mono ?_
              rintro e wq ⟨he, hk'⟩
              obtain rfl : e = .returned (.string ⟨#[100, 101, 97, 100]⟩) := he.trans (by rw [nest_dead i m (by omega)]; rfl)
              replace hP := le_of_kp (P := fun k => w.heap.size ≤ k) hk' hP
              replace kk := kp_tell kk hk'
              replace hO := ownb_tell hO hk'
              clear hk' he
              have HO := Lib.hid hO; clear hO
              go_wp2_with fail
              have hO := HO.out; clear HO
              refine (running_own hO).mono ?_
              rintro e wq ⟨he, hk'⟩
              obtain rfl : e = .returned (.int .i64 (m : Int)) := he.trans (by rw [nest_run])
              replace hP := le_of_kp (P := fun k => w.heap.size ≤ k) hk' hP
              replace kk := kp_tell kk hk'
              replace hO := ownb_tell hO hk'
              clear hk' he
              have HO := Lib.hid hO; clear hO
              go_wp2
              go_roundw
              case rel => exact ⟨m, by go_num, by omega, HO.out, kk⟩
              case measure => simp [intOf]
            · obtain rfl : k = 0 := by omega
              have hl := nest_len i 0 (by omega)
              go_wp2_with fail
              refine (finish_own hO).mono ?_
              rintro e wq ⟨he, hO', hk'⟩
              obtain rfl : e = .returned (.int .i64 19) := he.trans (by unfold bkE; rw [hl.2, if_pos rfl])
              replace hP := le_of_kp hk' hP
              replace kk := kk.trans hk'
              replace hO : OwnB (fun k => w.heap.size ≤ k) wq b (nest i 0) := by rw [show (nest i 0).finish = nest i 0 from by unfold Bk.finish; rw [hl.2, if_pos rfl]] at hO'; exact hO'
              clear hk' hO' he
              have HO := Lib.hid hO; clear hO
              go_wp2_with fail
              have hO := HO.out; clear HO
              refine (deep_own hO).mono ?_
              rintro e wq ⟨he, hk'⟩
              obtain rfl : e = .returned (.int .i64 0) := he.trans (by rw [hl.2]; rfl)
              replace hP := le_of_kp (P := fun k => w.heap.size ≤ k) hk' hP
              replace kk := kp_tell kk hk'
              replace hO := ownb_tell hO hk'
              clear hk' he
              go_wp2
              go_returns
              exact ⟨rfl, kk.below (Nat.le_refl _) (fun _ h => by omega)⟩
end Go.Proofs.Ytbmbfgcdbpanjaa
