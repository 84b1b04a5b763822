/- The law's helper Ref. -/
import Derived.Test.YtcdofhfneiednaaPoG
namespace Go.Proofs.Ytcdofhfneiednaa
set_option linter.unusedSimpArgs false
set_option linter.unusedVariables false
open Go.RowKit

set_option maxRecDepth 100000 in
set_option maxHeartbeats 2000000 in
theorem ref_any (p : Pol) (v : Value) (w : World) (h : EIn w v p.evs) (hl : p.evs.length ≤ 100000) :
    Calls Try.prog 28 #[.agg (p.cells v)] w fun e w' => ∃ v', e = .returned (.agg (p.cells v')) ∧ ERow 96 w' v' p.evs ∧ (∀ k, v'.ownBlock = some k → w.heap.size ≤ k) ∧ Kp (fun _ => False) w w' := by
  obtain ⟨i0, hi, hz0, hz1, hz2⟩ := info_parts info96'
  have H := Lib.hid h
  obtain ⟨ao, cap, rfl, _⟩ := h
  unfold Pol.cells
  go_enter Try.func28, Try.ntmps28
  go_wp2_with fail
  have b1 : Blk (World.drew ((w.alloc (.cells #[.int .i64 p.ways, .int .i64 p.warm, .int .i64 p.deep, .int .i64 p.fan, .slice ao p.evs.length cap] 54)).alloc (.cells #[.int .i64 0, .int .i64 0, .int .i64 0, .int .i64 0, .slice none 0 0] 61))) w.heap.size 54 #[.int .i64 p.ways, .int .i64 p.warm, .int .i64 p.deep, .int .i64 p.fan, .slice ao p.evs.length cap] := ((Blk.new rfl).alloc _).drew
  have b2 : Blk (World.drew ((w.alloc (.cells #[.int .i64 p.ways, .int .i64 p.warm, .int .i64 p.deep, .int .i64 p.fan, .slice ao p.evs.length cap] 54)).alloc (.cells #[.int .i64 0, .int .i64 0, .int .i64 0, .int .i64 0, .slice none 0 0] 61))) (w.heap.size + 1) 61 #[.int .i64 0, .int .i64 0, .int .i64 0, .int .i64 0, .slice none 0 0] := (Blk.new (by simp)).drew
  have k0 : Kp (fun _ => False) w (World.drew ((w.alloc (.cells #[.int .i64 p.ways, .int .i64 p.warm, .int .i64 p.deep, .int .i64 p.fan, .slice ao p.evs.length cap] 54)).alloc (.cells #[.int .i64 0, .int .i64 0, .int .i64 0, .int .i64 0, .slice none 0 0] 61))) := (((Kp.refl _ _).alloc _).alloc _).drew
  refine wp_region_D (S := fun w' => Blk w' w.heap.size 54 #[.int .i64 p.ways, .int .i64 p.warm, .int .i64 p.deep, .int .i64 p.fan, .slice ao p.evs.length cap]) (D := fun i => [1, 3, 5, 7, 8, 10, 11, 12].contains i) (by kernel_rfl) ?_
  have hHeld : (fun w' => Blk w' w.heap.size 54 #[.int .i64 p.ways, .int .i64 p.warm, .int .i64 p.deep, .int .i64 p.fan, .slice ao p.evs.length cap]) (World.drew _) := b1
  generalize World.drew (World.alloc (World.alloc w _) _) = wq at *
  clear b1
  refine wpD_free (i := 0) (v := ?_) rfl (by kernel_rfl) (fun _ _ _ h => h) (Or.inl ⟨by kernel_rfl, ?_⟩) ?_
  rotate_left
  · intro w hSw; (try dsimp only at hSw); go_simp; (try with_reducible rfl)
  simp only [Act.put, List.setIfInBounds_toArray, List.set_cons_zero, List.set_cons_succ]
  refine wpD_free (i := 2) (v := ?_) rfl (by kernel_rfl) (fun _ _ _ h => h) (Or.inl ⟨by kernel_rfl, ?_⟩) ?_
  rotate_left
  · intro w hSw; (try dsimp only at hSw); go_simp; (try with_reducible rfl)
  simp only [Act.put, List.setIfInBounds_toArray, List.set_cons_zero, List.set_cons_succ]
  refine wpD_free (i := 4) (v := ?_) rfl (by kernel_rfl) (fun _ _ _ h => h) (Or.inl ⟨by kernel_rfl, ?_⟩) ?_
  rotate_left
  · intro w hSw; (try dsimp only at hSw); go_simp; (try with_reducible rfl)
  simp only [Act.put, List.setIfInBounds_toArray, List.set_cons_zero, List.set_cons_succ]
  refine wpD_free (i := 6) (v := ?_) rfl (by kernel_rfl) (fun _ _ _ h => h) (Or.inl ⟨by kernel_rfl, ?_⟩) ?_
  rotate_left
  · intro w hSw; (try dsimp only at hSw); go_simp; (try with_reducible rfl)
  simp only [Act.put, List.setIfInBounds_toArray, List.set_cons_zero, List.set_cons_succ]
  refine wpD_free (i := 9) (v := ?_) rfl (by kernel_rfl) (fun _ _ _ h => h) (Or.inl ⟨by kernel_rfl, ?_⟩) ?_
  rotate_left
  · intro w hSw; (try dsimp only at hSw); go_simp; (try with_reducible rfl)
  simp only [Act.put, List.setIfInBounds_toArray, List.set_cons_zero, List.set_cons_succ]
  refine wpD_take (i := 1) (v := ?_) rfl (by kernel_rfl) (fun _ _ _ h => h) (Or.inl ⟨by kernel_rfl, ?_⟩) hHeld ?_
  rotate_left
  · intro w hSw; (try dsimp only at hSw); have y0 := Blk.cell hSw 0 (.int .i64 p.ways) rfl; have y1 := Blk.cell hSw 1 (.int .i64 p.warm) rfl; have y2 := Blk.cell hSw 2 (.int .i64 p.deep) rfl; have y3 := Blk.cell hSw 3 (.int .i64 p.fan) rfl; have y4 := Blk.cell hSw 4 (.slice ao p.evs.length cap) rfl; clear hSw; go_simp; (try with_reducible rfl)
  simp only [Act.put, List.setIfInBounds_toArray, List.set_cons_zero, List.set_cons_succ]
  refine wpD_take (i := 3) (v := ?_) rfl (by kernel_rfl) (fun _ _ _ h => h) (Or.inl ⟨by kernel_rfl, ?_⟩) hHeld ?_
  rotate_left
  · intro w hSw; (try dsimp only at hSw); have y0 := Blk.cell hSw 0 (.int .i64 p.ways) rfl; have y1 := Blk.cell hSw 1 (.int .i64 p.warm) rfl; have y2 := Blk.cell hSw 2 (.int .i64 p.deep) rfl; have y3 := Blk.cell hSw 3 (.int .i64 p.fan) rfl; have y4 := Blk.cell hSw 4 (.slice ao p.evs.length cap) rfl; clear hSw; go_simp; (try with_reducible rfl)
  simp only [Act.put, List.setIfInBounds_toArray, List.set_cons_zero, List.set_cons_succ]
  refine wpD_take (i := 5) (v := ?_) rfl (by kernel_rfl) (fun _ _ _ h => h) (Or.inl ⟨by kernel_rfl, ?_⟩) hHeld ?_
  rotate_left
  · intro w hSw; (try dsimp only at hSw); have y0 := Blk.cell hSw 0 (.int .i64 p.ways) rfl; have y1 := Blk.cell hSw 1 (.int .i64 p.warm) rfl; have y2 := Blk.cell hSw 2 (.int .i64 p.deep) rfl; have y3 := Blk.cell hSw 3 (.int .i64 p.fan) rfl; have y4 := Blk.cell hSw 4 (.slice ao p.evs.length cap) rfl; clear hSw; go_simp; (try with_reducible rfl)
  simp only [Act.put, List.setIfInBounds_toArray, List.set_cons_zero, List.set_cons_succ]
  refine wpD_take (i := 7) (v := ?_) rfl (by kernel_rfl) (fun _ _ _ h => h) (Or.inl ⟨by kernel_rfl, ?_⟩) hHeld ?_
  rotate_left
  · intro w hSw; (try dsimp only at hSw); have y0 := Blk.cell hSw 0 (.int .i64 p.ways) rfl; have y1 := Blk.cell hSw 1 (.int .i64 p.warm) rfl; have y2 := Blk.cell hSw 2 (.int .i64 p.deep) rfl; have y3 := Blk.cell hSw 3 (.int .i64 p.fan) rfl; have y4 := Blk.cell hSw 4 (.slice ao p.evs.length cap) rfl; clear hSw; go_simp; (try with_reducible rfl)
  simp only [Act.put, List.setIfInBounds_toArray, List.set_cons_zero, List.set_cons_succ]
  refine wpD_take (i := 10) (v := ?_) rfl (by kernel_rfl) (fun _ _ _ h => h) (Or.inl ⟨by kernel_rfl, ?_⟩) hHeld ?_
  rotate_left
  · intro w hSw; (try dsimp only at hSw); have y0 := Blk.cell hSw 0 (.int .i64 p.ways) rfl; have y1 := Blk.cell hSw 1 (.int .i64 p.warm) rfl; have y2 := Blk.cell hSw 2 (.int .i64 p.deep) rfl; have y3 := Blk.cell hSw 3 (.int .i64 p.fan) rfl; have y4 := Blk.cell hSw 4 (.slice ao p.evs.length cap) rfl; clear hSw; go_simp; (try with_reducible rfl)
  simp only [Act.put, List.setIfInBounds_toArray, List.set_cons_zero, List.set_cons_succ]
  refine wpD_one (i := 8) (by kernel_rfl) rfl (fun K' hK => ?_)
  go_simp
  refine hK.out _ _ (fun _ => Blk.alloc hHeld _) (fun hHeld' => ?_)
  have hHeld := hHeld' (by decide)
  clear hHeld' hK K'
  have kz : Kp (fun _ => False) w (wq.alloc (.cells #[] 96)) := k0.alloc _
  have bz : Blk (wq.alloc (.cells #[] 96)) wq.heap.size 96 #[] := Blk.new rfl
  have b3 := Blk.alloc b2 (.cells #[] 96)
  have hzl : w.heap.size + 1 + 1 ≤ wq.heap.size := by have := b2.lt; omega
  clear k0 b2
  generalize wq.heap.size = z at *
  generalize wq.alloc (.cells #[] 96) = wq at *
  refine wpD_one (i := 11) (by kernel_rfl) rfl (fun K' hK => ?_)
  refine step_copy _ (by rfl) _ _ _ (by rfl) 96 i0 _ 4 32 Try.underlying52 hi hz0 hz1 hz2 rfl (by omega) z (by rfl) bz ao p.evs.length cap (by rfl) (p.evs.flatMap Ev.cells) (eflat_len _) (EIn.src (H.out.kp kz (fun _ _ h => h))) (ecells_one _) (by unfold maxLen; omega) (by omega) ?_
  intro v' w2 hown hk hnew
  obtain ⟨oo, oc, rfl⟩ := row_form hown
  refine hK.out _ _ (fun _ => Blk.kp hHeld hk (fun e => by have e' : w.heap.size = z := e; omega)) (fun hHeld' => ?_)
  have hHeld := hHeld' (by decide)
  clear hHeld' hK K'
  have kf : Kp (fun _ => False) w w2 := kz.trans' (hk.mono (S' := fun k => w.heap.size ≤ k) (fun k _ e => by have e' : k = z := e; omega)) (fun k hk h => by omega)
  have b4 := Blk.kp b3 hk (fun e => by have e' : w.heap.size + 1 = z := e; omega)
  have hn : ∀ k, (Value.slice oo p.evs.length oc).ownBlock = some k → w.heap.size ≤ k := fun k hk' => (hnew k hk').elim (fun h => by omega) (fun h => by have := kz.size; omega)
  have hne := row_ne hown b4 (by decide)
  have HO := Lib.hid hown; have KF := Lib.hid kf; have HN := Lib.hid hn
  have r0 := b4.cell 0 (.int .i64 0) rfl
  have r1 := b4.cell 1 (.int .i64 0) rfl
  have r2 := b4.cell 2 (.int .i64 0) rfl
  have r3 := b4.cell 3 (.int .i64 0) rfl
  have r4 := b4.cell 4 (.slice none 0 0) rfl
  have rf := b4.free
  have hl2 := b4.lt
  have HB4 := Lib.hid b4
  clear hown hk hnew kf hn b4 b3 bz kz
  refine wpD_take (i := 12) (v := ?_) rfl (by kernel_rfl) (fun _ _ _ h => h) (Or.inl ⟨by kernel_rfl, ?_⟩) hHeld ?_
  rotate_left
  · intro w hSw; (try dsimp only at hSw); have y0 := Blk.cell hSw 0 (.int .i64 p.ways) rfl; have y1 := Blk.cell hSw 1 (.int .i64 p.warm) rfl; have y2 := Blk.cell hSw 2 (.int .i64 p.deep) rfl; have y3 := Blk.cell hSw 3 (.int .i64 p.fan) rfl; have y4 := Blk.cell hSw 4 (.slice ao p.evs.length cap) rfl; clear hSw; go_simp; (try with_reducible rfl)
  simp only [Act.put, List.setIfInBounds_toArray, List.set_cons_zero, List.set_cons_succ]
  refine wpD_one (i := 13) (by kernel_rfl) rfl (fun K' hK => ?_)
  go_simp
  refine hK.out _ _ (fun h => absurd h (by decide)) (fun _ => ?_)
  clear hK K'
  refine wpD_done (by kernel_rfl) ?_ _
  clear hHeld
  go_wp2
  have RB := (((((Blk.set HB4.out 0 (.int .i64 p.ways)).set 1 (.int .i64 p.warm)).set 2 (.int .i64 p.deep)).set 3 (.int .i64 p.fan)).set 4 (.slice oo p.evs.length oc))
  have R0 := RB.cell 0 (.int .i64 p.ways) rfl
  have R1 := RB.cell 1 (.int .i64 p.warm) rfl
  have R2 := RB.cell 2 (.int .i64 p.deep) rfl
  have R3 := RB.cell 3 (.int .i64 p.fan) rfl
  have R4 := RB.cell 4 (.slice oo p.evs.length oc) rfl
  clear RB
  refine bodyPost_ret (v := .agg #[.int .i64 p.ways, .int .i64 p.warm, .int .i64 p.deep, .int .i64 p.fan, .slice oo p.evs.length oc]) (by simp [results, Try.results28, go_sem, R0, R1, R2, R3, R4]) rfl ?_
  have ks : ∀ (wz : World) (i : Nat) (u : Value), Kp (fun k => k = w.heap.size + 1) wz (wz.setCell ⟨w.heap.size + 1, i, none⟩ u) := fun wz i u => Kp.setCell (S := (· = w.heap.size + 1)) (p := ⟨w.heap.size + 1, i, none⟩) (Kp.refl _ _) (.inl rfl) u
  have kall := ((((ks w2 0 (.int .i64 p.ways)).trans (ks _ 1 (.int .i64 p.warm))).trans (ks _ 2 (.int .i64 p.deep))).trans (ks _ 3 (.int .i64 p.fan))).trans (ks _ 4 (.slice oo p.evs.length oc))
  exact ⟨_, rfl, row_kp HO.out kall (fun k hk e => hne (by have e' : k = w.heap.size + 1 := e; rw [hk, e'])), HN.out, KF.out.trans' kall (fun k hk e => by have e' : k = w.heap.size + 1 := e; omega)⟩
end Go.Proofs.Ytcdofhfneiednaa
