/- selkielaw20.alive. -/
import Derived.Test.YtbmbfgcdbpanjaaCrG
namespace Go.Proofs.Ytbmbfgcdbpanjaa
set_option linter.unusedSimpArgs false
set_option linter.unusedVariables false
open Go.RowKit

set_option maxRecDepth 100000 in
set_option maxHeartbeats 1000000 in
theorem alive_any (w : World) : Calls Try.prog 8 #[] w fun e w' => e = .returned (.bool true) ∧ Below w.heap.size w w' := by
  have hP : ∀ k, w.heap.size ≤ k → w.heap.size ≤ k := fun _ h => h
  go_enter Try.func8, Try.ntmps8
  go_wp2_with fail
  refine (new_own hP).mono ?_
  rintro e w1 ⟨b, rfl, hO, hk⟩
  replace hP := le_of_kp hk hP
  have kk := hk
  clear hk
  go_wp2_with fail
  refine (create_own hO hP (by decide)).mono ?_
  rintro e wq ⟨he, hO', hk'⟩
  obtain rfl : e = .returned (.int .i64 1) := he.trans (by kernel_rfl)
  replace hP := le_of_kp hk' hP
  replace kk := kk.trans hk'
  replace hO : OwnB (fun k => w.heap.size ≤ k) wq b ⟨[0], [false, false]⟩ := (show Bk.create ⟨[0], [false]⟩ = ⟨[0], [false, false]⟩ from by kernel_rfl) ▸ hO'
  clear hk' hO' he
  go_wp2_with fail
  refine (resume_own hO 1 hP (by decide)).mono ?_
  rintro e wq ⟨he, hO', hk'⟩
  obtain rfl : e = .returned (.tuple #[.string ⟨#[]⟩, .int .i64 0]) := he.trans (by kernel_rfl)
  replace hP := le_of_kp hk' hP
  replace kk := kk.trans hk'
  replace hO : OwnB (fun k => w.heap.size ≤ k) wq b ⟨[0, 1], [false, false]⟩ := (show Bk.resume ⟨[0], [false, false]⟩ 1 = ⟨[0, 1], [false, false]⟩ from by kernel_rfl) ▸ hO'
  clear hk' hO' he
  go_wp2_with fail
  refine (status_own hO 0).mono ?_
  rintro e wq ⟨he, hk'⟩
  obtain rfl : e = .returned (.string ⟨#[110, 111, 114, 109, 97, 108]⟩) := he.trans (by kernel_rfl)
  replace hP := le_of_kp (P := fun k => w.heap.size ≤ k) hk' hP
  replace kk := kp_tell kk hk'
  replace hO := ownb_tell hO hk'
  clear hk' he
  go_wp2_with fail
  refine (resume_own hO 0 hP (by decide)).mono ?_
  rintro e wq ⟨he, hO', hk'⟩
  obtain rfl : e = .returned (.tuple #[.string ⟨#[99, 97, 110, 110, 111, 116, 32, 114, 101, 115, 117, 109, 101, 32, 110, 111, 110, 45, 115, 117, 115, 112, 101, 110, 100, 101, 100, 32, 99, 111, 114, 111, 117, 116, 105, 110, 101]⟩, .int .i64 19]) := he.trans (by kernel_rfl)
  replace hP := le_of_kp hk' hP
  replace kk := kk.trans hk'
  replace hO : OwnB (fun k => w.heap.size ≤ k) wq b ⟨[0, 1], [false, false]⟩ := (show Bk.resume ⟨[0, 1], [false, false]⟩ 0 = ⟨[0, 1], [false, false]⟩ from by kernel_rfl) ▸ hO'
  clear hk' hO' he
  go_wp2_with fail
  refine (yield_own hO).mono ?_
  rintro e wq ⟨he, hO', hk'⟩
  obtain rfl : e = .returned (.tuple #[.string ⟨#[]⟩, .int .i64 0]) := he.trans (by kernel_rfl)
  replace hP := le_of_kp hk' hP
  replace kk := kk.trans hk'
  replace hO : OwnB (fun k => w.heap.size ≤ k) wq b ⟨[0], [false, false]⟩ := (show Bk.back ⟨[0, 1], [false, false]⟩ = ⟨[0], [false, false]⟩ from by kernel_rfl) ▸ hO'
  clear hk' hO' he
  go_wp2_with fail
  refine (status_own hO 1).mono ?_
  rintro e wq ⟨he, hk'⟩
  obtain rfl : e = .returned (.string ⟨#[115, 117, 115, 112, 101, 110, 100, 101, 100]⟩) := he.trans (by kernel_rfl)
  replace hP := le_of_kp (P := fun k => w.heap.size ≤ k) hk' hP
  replace kk := kp_tell kk hk'
  replace hO := ownb_tell hO hk'
  clear hk' he
  go_wp2_with fail
  refine (yield_own hO).mono ?_
  rintro e wq ⟨he, hO', hk'⟩
  obtain rfl : e = .returned (.tuple #[.string ⟨#[97, 116, 116, 101, 109, 112, 116, 32, 116, 111, 32, 121, 105, 101, 108, 100, 32, 102, 114, 111, 109, 32, 111, 117, 116, 115, 105, 100, 101, 32, 97, 32, 99, 111, 114, 111, 117, 116, 105, 110, 101]⟩, .int .i64 19]) := he.trans (by kernel_rfl)
  replace hP := le_of_kp hk' hP
  replace kk := kk.trans hk'
  replace hO : OwnB (fun k => w.heap.size ≤ k) wq b ⟨[0], [false, false]⟩ := (show Bk.back ⟨[0], [false, false]⟩ = ⟨[0], [false, false]⟩ from by kernel_rfl) ▸ hO'
  clear hk' hO' he
  go_wp2_with fail
  refine (resume_nil 0 _).mono ?_
  rintro e wq ⟨rfl, hk'⟩
  replace kk := kp_tell kk hk'
  go_wp2
  go_returns
  exact ⟨rfl, kk.below (Nat.le_refl _) (fun _ h => by omega)⟩
end Go.Proofs.Ytbmbfgcdbpanjaa
