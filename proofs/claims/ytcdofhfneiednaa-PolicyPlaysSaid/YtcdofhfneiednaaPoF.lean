/- The law's helpers: same, To, Ref; Plain. -/
import Derived.Test.YtcdofhfneiednaaPoE
import Derived.Deep.RegionHeld
namespace Go.Proofs.Ytcdofhfneiednaa
set_option linter.unusedSimpArgs false
set_option linter.unusedVariables false
open Go.RowKit

set_option maxRecDepth 100000 in
set_option maxHeartbeats 1000000 in
theorem same_any (va vb : Value) (l : List Ev) (w : World) (ha : ERow 69 w va l) (hb : ERow 96 w vb l) (hl : l.length ≤ 100000) :
    Calls Try.prog 29 #[va, vb] w fun e w' => e = .returned (.bool true) ∧ Kp (fun _ => False) w w' := by
  obtain ⟨oa, ca, rfl⟩ := row_form ha
  obtain ⟨ob, cb, rfl⟩ := row_form hb
  have HA := Lib.hid ha; have HB := Lib.hid hb; clear ha hb
  go_enter Try.func29, Try.ntmps29
  go_wp2_with fail
  go_loopw [13] (fun iv wr => ∃ i : Nat, iv = .int .i64 i ∧ i ≤ l.length ∧ Kp (fun _ => False) w wr) (fun iv _ => l.length - (intOf iv).toNat)
  case atStart => exact ⟨0, rfl, by omega, Kp.refl _ _⟩
  case round =>
    obtain ⟨i, rfl, hi, kx⟩ := hrel
    by_cases hlt : (i : Int) < l.length
    · have hil : i < l.length := by omega
      obtain ⟨g, cap', hga⟩ := row_some HA.out (by omega)
      simp only [Value.slice.injEq] at hga
      obtain ⟨rfl, _, rfl⟩ := hga
      obtain ⟨g2, cap2, hgb⟩ := row_some HB.out (by omega)
      simp only [Value.slice.injEq] at hgb
      obtain ⟨rfl, _, rfl⟩ := hgb
      have hg := (HA.out.lt g rfl).2
      have hg2 := (HB.out.lt g2 rfl).2
      obtain ⟨c0, c1, c2, c3⟩ := ERow.cell HA.out i hil
      obtain ⟨e0, e1, e2, e3⟩ := ERow.cell HB.out i hil
      have d0 := (kx.cell (p := ⟨g, i * 4, none⟩) hg (fun h => h)).trans c0
      have d1 := (kx.cell (p := ⟨g, i * 4 + 1, none⟩) hg (fun h => h)).trans c1
      have d2 := (kx.cell (p := ⟨g, i * 4 + 2, none⟩) hg (fun h => h)).trans c2
      have d3 := (kx.cell (p := ⟨g, i * 4 + 3, none⟩) hg (fun h => h)).trans c3
      have f0 := (kx.cell (p := ⟨g2, i * 4, none⟩) hg2 (fun h => h)).trans e0
      have f1 := (kx.cell (p := ⟨g2, i * 4 + 1, none⟩) hg2 (fun h => h)).trans e1
      have f2 := (kx.cell (p := ⟨g2, i * 4 + 2, none⟩) hg2 (fun h => h)).trans e2
      have f3 := (kx.cell (p := ⟨g2, i * 4 + 3, none⟩) hg2 (fun h => h)).trans e3
      have KX := Lib.hid kx
      clear kx c0 c1 c2 c3 e0 e1 e2 e3
      generalize l[i] = ev at *
      obtain ⟨a, k, s, y⟩ := ev
      dsimp only at d0 d1 d2 d3 f0 f1 f2 f3
      go_wp2_with fail
      go_quiet (fail)
      go_wp2
      go_roundw
      case rel => exact ⟨i + 1, by go_num, by omega, by
        have := KX.out
        first | exact this.drewN _ | exact this.drew.drewN _ | exact this⟩
      case measure => simp [intOf]; omega
    · go_wp2
      go_returns
      exact ⟨rfl, kx⟩
set_option maxRecDepth 100000 in
theorem plain_any (w : World) : Calls Try.prog 32 #[] w fun e w' => e = .returned (.agg (Pol.cells ⟨0, 0, 0, 0, []⟩ (.slice none 0 0))) ∧ Kp (fun _ => False) w w' := by
  go_enter Try.func32, Try.ntmps32
  go_wp2
  have RB : Blk (w.alloc (.cells #[.int .i64 0, .int .i64 0, .int .i64 0, .int .i64 0, .slice none 0 0] 58)) w.heap.size 58 #[.int .i64 0, .int .i64 0, .int .i64 0, .int .i64 0, .slice none 0 0] := Blk.new rfl
  have R0 := RB.cell 0 (.int .i64 0) rfl
  have R1 := RB.cell 1 (.int .i64 0) rfl
  have R2 := RB.cell 2 (.int .i64 0) rfl
  have R3 := RB.cell 3 (.int .i64 0) rfl
  have R4 := RB.cell 4 (.slice none 0 0) rfl
  refine bodyPost_ret (v := .agg #[.int .i64 0, .int .i64 0, .int .i64 0, .int .i64 0, .slice none 0 0]) (by simp [results, Try.results32, go_sem, R0, R1, R2, R3, R4]) rfl ?_
  exact ⟨rfl, (Kp.refl _ _).alloc _⟩
end Go.Proofs.Ytcdofhfneiednaa
