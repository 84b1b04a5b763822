/- selkielaw18.PolicyRight: the walk; a policy that came in, opened. -/
import Derived.Test.YtcdofhfneiednaaPoO
import Derived.Test.YtcdofhfneiednaaOq
namespace Go.Proofs.Ytcdofhfneiednaa
set_option linter.unusedSimpArgs false
set_option linter.unusedVariables false
open Go.RowKit

theorem r_plain : Pol.right ⟨0, 0, 0, 0, []⟩ = true := by kernel_rfl
set_option maxRecDepth 100000 in
theorem rightl_many (p : Pol) (v : Value) (n : Int) (w : World) (h : EIn w v p.evs) (hl : 1000 < p.evs.length) (hl2 : p.evs.length ≤ 140737488351232) :
    Calls Try.prog 7 #[.agg (p.cells v), .int .i64 n] w fun e w' => e = .returned (.bool true) ∧ Below w.heap.size w w' := by
  obtain ⟨ao, cap, rfl, _⟩ := h
  unfold Pol.cells
  go_enter Try.func7, Try.ntmps7
  go_wp2_with fail
  refine (alive18_any _).mono ?_
  rintro e w1 ⟨rfl, hk⟩
  have hx := (Blk.new (w := w) (t := 54) (cs := #[.int .i64 p.ways, .int .i64 p.warm, .int .i64 p.deep, .int .i64 p.fan, .slice ao p.evs.length cap]) rfl).below hk (by simp)
  have x4 := hx.cell 4 (.slice ao p.evs.length cap) rfl
  have hxl := hx.lt
  have hfin : Below w.heap.size w w1 := ((Below.refl _ _).alloc (Nat.le_refl _) _).trans (hk.mono (by simp))
  have HF := Lib.hid hfin
  clear hx hfin hk
  go_wp2
  go_returns
  exact ⟨rfl, HF.out⟩
set_option maxRecDepth 100000 in
set_option maxHeartbeats 4000000 in
theorem rightl_any (p : Pol) (v : Value) (n : Int) (w : World) (h : EIn w v p.evs) (hl : p.evs.length ≤ 1000) :
    Calls Try.prog 7 #[.agg (p.cells v), .int .i64 n] w fun e w' => e = .returned (.bool true) ∧ Below w.heap.size w w' := by
  have H := Lib.hid h
  obtain ⟨ao, cap, rfl, _⟩ := h
  unfold Pol.cells
  go_enter Try.func7, Try.ntmps7
  go_wp2_with fail
  refine (alive18_any _).mono ?_
  rintro e w1 ⟨rfl, hk⟩
  have hx := (Blk.new (w := w) (t := 54) (cs := #[.int .i64 p.ways, .int .i64 p.warm, .int .i64 p.deep, .int .i64 p.fan, .slice ao p.evs.length cap]) rfl).below hk (by simp)
  have x4 := hx.cell 4 (.slice ao p.evs.length cap) rfl
  have hxl := hx.lt
  have kk : Kp (fun _ => False) w w1 := (((Kp.refl (fun _ => False) w).alloc _)).trans (Kp.of_below hk)
  have KK := Lib.hid kk
  have HX := Lib.hid hx.drew
  clear hx kk hk
  go_wp2_with fail
  clear x4
  refine wp_region_K (S := fun w' => Blk w' w.heap.size 54 (p.cells (.slice ao p.evs.length cap))) (K := 30) (by kernel_rfl) ?_
  have hHeld : (fun w' => Blk w' w.heap.size 54 (p.cells (.slice ao p.evs.length cap))) (World.drew _) := HX.out
  replace KK := Lib.hid KK.out.drew
  generalize World.drew w1 = wq at *
  refine wpK_take (i := 0) (v := ?_) rfl (by kernel_rfl) (fun _ _ _ h => h) (Or.inl ⟨by kernel_rfl, ?_⟩) hHeld ?_
  rotate_left
  · intro w hSw; (try dsimp only at hSw); have y0 := Blk.cell hSw 0 (.int .i64 p.ways) rfl; have y1 := Blk.cell hSw 1 (.int .i64 p.warm) rfl; have y2 := Blk.cell hSw 2 (.int .i64 p.deep) rfl; have y3 := Blk.cell hSw 3 (.int .i64 p.fan) rfl; have y4 := Blk.cell hSw 4 (.slice ao p.evs.length cap) rfl; clear hSw; go_simp; (try with_reducible rfl)
  simp only [Act.put, List.setIfInBounds_toArray, List.set_cons_zero, List.set_cons_succ]
  refine wpK_take (i := 3) (v := ?_) rfl (by kernel_rfl) (fun _ _ _ h => h) (Or.inl ⟨by kernel_rfl, ?_⟩) hHeld ?_
  rotate_left
  · intro w hSw; (try dsimp only at hSw); have y0 := Blk.cell hSw 0 (.int .i64 p.ways) rfl; have y1 := Blk.cell hSw 1 (.int .i64 p.warm) rfl; have y2 := Blk.cell hSw 2 (.int .i64 p.deep) rfl; have y3 := Blk.cell hSw 3 (.int .i64 p.fan) rfl; have y4 := Blk.cell hSw 4 (.slice ao p.evs.length cap) rfl; clear hSw; go_simp; (try with_reducible rfl)
  simp only [Act.put, List.setIfInBounds_toArray, List.set_cons_zero, List.set_cons_succ]
  refine wpK_one (i := 1) (by kernel_rfl) rfl (fun K' hK => ?_)
  go_simp
  refine (to_any p _ _ (H.out.kp KK.out (fun _ _ h => h)) (by omega)).mono ?_
  rintro _ wq ⟨v1, rfl, hr1, hn1, hk⟩
  refine hK.out _ _ (fun _ => Blk.kp hHeld hk (fun h => h)) (fun hHeld' => ?_)
  have hHeld := hHeld' (by decide)
  clear hHeld' hK K'
  replace KK := Lib.hid (KK.out.trans hk)
  clear hk hn1
  refine wpK_one (i := 2) (by kernel_rfl) rfl (fun K' hK => ?_)
  go_simp
  refine (right_any p v1 _ hr1 (by omega)).mono ?_
  rintro _ wq ⟨rfl, hk⟩
  refine hK.out _ _ (fun _ => Blk.kp hHeld hk (fun h => h)) (fun hHeld' => ?_)
  have hHeld := hHeld' (by decide)
  clear hHeld' hK K'
  replace KK := Lib.hid (KK.out.trans hk)
  clear hk hr1
  refine wpK_one (i := 4) (by kernel_rfl) rfl (fun K' hK => ?_)
  go_simp
  refine (ref_any p _ _ (H.out.kp KK.out (fun _ _ h => h)) (by omega)).mono ?_
  rintro _ wq ⟨v2, rfl, hr2, hn2, hk⟩
  refine hK.out _ _ (fun _ => Blk.kp hHeld hk (fun h => h)) (fun hHeld' => ?_)
  have hHeld := hHeld' (by decide)
  clear hHeld' hK K'
  replace KK := Lib.hid (KK.out.trans hk)
  clear hk hn2
  refine wpK_one (i := 5) (by kernel_rfl) rfl (fun K' hK => ?_)
  go_simp
  refine (rright_any p v2 _ hr2 (by omega)).mono ?_
  rintro _ wq ⟨rfl, hk⟩
  generalize p.right = rr
  refine hK.out _ _ (fun _ => Blk.kp hHeld hk (fun h => h)) (fun hHeld' => ?_)
  have hHeld := hHeld' (by decide)
  clear hHeld' hK K'
  replace KK := Lib.hid (KK.out.trans hk)
  clear hk hr2
  refine wpK_take (i := 6) (v := ?_) rfl (by kernel_rfl) (fun _ _ _ h => h) (Or.inl ⟨by kernel_rfl, ?_⟩) hHeld ?_
  rotate_left
  · intro w hSw; (try dsimp only at hSw); have y0 := Blk.cell hSw 0 (.int .i64 p.ways) rfl; have y1 := Blk.cell hSw 1 (.int .i64 p.warm) rfl; have y2 := Blk.cell hSw 2 (.int .i64 p.deep) rfl; have y3 := Blk.cell hSw 3 (.int .i64 p.fan) rfl; have y4 := Blk.cell hSw 4 (.slice ao p.evs.length cap) rfl; clear hSw; go_simp; (try with_reducible rfl)
  simp only [Act.put, List.setIfInBounds_toArray, List.set_cons_zero, List.set_cons_succ]
  refine wpK_take (i := 7) (v := ?_) rfl (by kernel_rfl) (fun _ _ _ h => h) (Or.inl ⟨by kernel_rfl, ?_⟩) hHeld ?_
  rotate_left
  · intro w hSw; (try dsimp only at hSw); have y0 := Blk.cell hSw 0 (.int .i64 p.ways) rfl; have y1 := Blk.cell hSw 1 (.int .i64 p.warm) rfl; have y2 := Blk.cell hSw 2 (.int .i64 p.deep) rfl; have y3 := Blk.cell hSw 3 (.int .i64 p.fan) rfl; have y4 := Blk.cell hSw 4 (.slice ao p.evs.length cap) rfl; clear hSw; go_simp; (try with_reducible rfl)
  simp only [Act.put, List.setIfInBounds_toArray, List.set_cons_zero, List.set_cons_succ]
  refine wpK_take (i := 8) (v := ?_) rfl (by kernel_rfl) (fun _ _ _ h => h) (Or.inl ⟨by kernel_rfl, ?_⟩) hHeld ?_
  rotate_left
  · intro w hSw; (try dsimp only at hSw); have y0 := Blk.cell hSw 0 (.int .i64 p.ways) rfl; have y1 := Blk.cell hSw 1 (.int .i64 p.warm) rfl; have y2 := Blk.cell hSw 2 (.int .i64 p.deep) rfl; have y3 := Blk.cell hSw 3 (.int .i64 p.fan) rfl; have y4 := Blk.cell hSw 4 (.slice ao p.evs.length cap) rfl; clear hSw; go_simp; (try with_reducible rfl)
  simp only [Act.put, List.setIfInBounds_toArray, List.set_cons_zero, List.set_cons_succ]
  refine wpK_take (i := 10) (v := ?_) rfl (by kernel_rfl) (fun _ _ _ h => h) (Or.inl ⟨by kernel_rfl, ?_⟩) hHeld ?_
  rotate_left
  · intro w hSw; (try dsimp only at hSw); have y0 := Blk.cell hSw 0 (.int .i64 p.ways) rfl; have y1 := Blk.cell hSw 1 (.int .i64 p.warm) rfl; have y2 := Blk.cell hSw 2 (.int .i64 p.deep) rfl; have y3 := Blk.cell hSw 3 (.int .i64 p.fan) rfl; have y4 := Blk.cell hSw 4 (.slice ao p.evs.length cap) rfl; clear hSw; go_simp; (try with_reducible rfl)
  simp only [Act.put, List.setIfInBounds_toArray, List.set_cons_zero, List.set_cons_succ]
  refine wpK_take (i := 12) (v := ?_) rfl (by kernel_rfl) (fun _ _ _ h => h) (Or.inl ⟨by kernel_rfl, ?_⟩) hHeld ?_
  rotate_left
  · intro w hSw; (try dsimp only at hSw); have y0 := Blk.cell hSw 0 (.int .i64 p.ways) rfl; have y1 := Blk.cell hSw 1 (.int .i64 p.warm) rfl; have y2 := Blk.cell hSw 2 (.int .i64 p.deep) rfl; have y3 := Blk.cell hSw 3 (.int .i64 p.fan) rfl; have y4 := Blk.cell hSw 4 (.slice ao p.evs.length cap) rfl; clear hSw; go_simp; (try with_reducible rfl)
  simp only [Act.put, List.setIfInBounds_toArray, List.set_cons_zero, List.set_cons_succ]
  refine wpK_take (i := 14) (v := ?_) rfl (by kernel_rfl) (fun _ _ _ h => h) (Or.inl ⟨by kernel_rfl, ?_⟩) hHeld ?_
  rotate_left
  · intro w hSw; (try dsimp only at hSw); have y0 := Blk.cell hSw 0 (.int .i64 p.ways) rfl; have y1 := Blk.cell hSw 1 (.int .i64 p.warm) rfl; have y2 := Blk.cell hSw 2 (.int .i64 p.deep) rfl; have y3 := Blk.cell hSw 3 (.int .i64 p.fan) rfl; have y4 := Blk.cell hSw 4 (.slice ao p.evs.length cap) rfl; clear hSw; go_simp; (try with_reducible rfl)
  simp only [Act.put, List.setIfInBounds_toArray, List.set_cons_zero, List.set_cons_succ]
  refine wpK_one (i := 9) (by kernel_rfl) rfl (fun K' hK => ?_)
  go_simp
  refine (to_any p _ _ (H.out.kp KK.out (fun _ _ h => h)) (by omega)).mono ?_
  rintro _ wq ⟨v3, rfl, hr3, hn3, hk⟩
  refine hK.out _ _ (fun _ => Blk.kp hHeld hk (fun h => h)) (fun hHeld' => ?_)
  have hHeld := hHeld' (by decide)
  clear hHeld' hK K'
  replace KK := Lib.hid (KK.out.trans hk)
  clear hk hn3
  refine wpK_one (i := 11) (by kernel_rfl) rfl (fun K' hK => ?_)
  go_simp
  refine (due_any p v3 n _ hr3 (by omega)).mono ?_
  rintro _ wq ⟨d1, rfl, hd1, hn4, hk⟩
  refine hK.out _ _ (fun _ => Blk.kp hHeld hk (fun h => h)) (fun hHeld' => ?_)
  have hHeld := hHeld' (by decide)
  clear hHeld' hK K'
  replace KK := Lib.hid (KK.out.trans hk)
  clear hk hn4 hr3
  refine wpK_one (i := 13) (by kernel_rfl) rfl (fun K' hK => ?_)
  go_simp
  refine (ref_any p _ _ (H.out.kp KK.out (fun _ _ h => h)) (by omega)).mono ?_
  rintro _ wq ⟨v4, rfl, hr4, hn5, hk⟩
  refine hK.out _ _ (fun _ => Blk.kp hHeld hk (fun h => h)) (fun hHeld' => ?_)
  have hHeld := hHeld' (by decide)
  clear hHeld' hK K'
  replace KK := Lib.hid (KK.out.trans hk)
  replace hd1 : ERow 69 _ d1 _ := row_kp hd1 hk (fun _ _ h => h)
  clear hk hn5
  refine wpK_one (i := 15) (by kernel_rfl) rfl (fun K' hK => ?_)
  go_simp
  refine (rdue_any p v4 n _ hr4 (by omega)).mono ?_
  rintro _ wq ⟨d2, rfl, hd2, hn6, hk⟩
  refine hK.out _ _ (fun _ => Blk.kp hHeld hk (fun h => h)) (fun hHeld' => ?_)
  have hHeld := hHeld' (by decide)
  clear hHeld' hK K'
  replace KK := Lib.hid (KK.out.trans hk)
  replace hd1 : ERow 69 _ d1 _ := row_kp hd1 hk (fun _ _ h => h)
  clear hk hn6 hr4
  refine wpK_one (i := 16) (by kernel_rfl) rfl (fun K' hK => ?_)
  go_simp
  refine (same_any d1 d2 _ _ hd1 hd2 (Nat.le_trans (List.length_filter_le _ _) (by omega))).mono ?_
  rintro _ wq ⟨rfl, hk⟩
  refine hK.out _ _ (fun _ => Blk.kp hHeld hk (fun h => h)) (fun hHeld' => ?_)
  have hHeld := hHeld' (by decide)
  clear hHeld' hK K'
  replace KK := Lib.hid (KK.out.trans hk)
  clear hk hd1 hd2
  refine wpK_take (i := 17) (v := ?_) rfl (by kernel_rfl) (fun _ _ _ h => h) (Or.inl ⟨by kernel_rfl, ?_⟩) hHeld ?_
  rotate_left
  · intro w hSw; (try dsimp only at hSw); have y0 := Blk.cell hSw 0 (.int .i64 p.ways) rfl; have y1 := Blk.cell hSw 1 (.int .i64 p.warm) rfl; have y2 := Blk.cell hSw 2 (.int .i64 p.deep) rfl; have y3 := Blk.cell hSw 3 (.int .i64 p.fan) rfl; have y4 := Blk.cell hSw 4 (.slice ao p.evs.length cap) rfl; clear hSw; go_simp; (try with_reducible rfl)
  simp only [Act.put, List.setIfInBounds_toArray, List.set_cons_zero, List.set_cons_succ]
  refine wpK_take (i := 18) (v := ?_) rfl (by kernel_rfl) (fun _ _ _ h => h) (Or.inl ⟨by kernel_rfl, ?_⟩) hHeld ?_
  rotate_left
  · intro w hSw; (try dsimp only at hSw); have y0 := Blk.cell hSw 0 (.int .i64 p.ways) rfl; have y1 := Blk.cell hSw 1 (.int .i64 p.warm) rfl; have y2 := Blk.cell hSw 2 (.int .i64 p.deep) rfl; have y3 := Blk.cell hSw 3 (.int .i64 p.fan) rfl; have y4 := Blk.cell hSw 4 (.slice ao p.evs.length cap) rfl; clear hSw; go_simp; (try with_reducible rfl)
  simp only [Act.put, List.setIfInBounds_toArray, List.set_cons_zero, List.set_cons_succ]
  refine wpK_one (i := 19) (by kernel_rfl) rfl (fun K' hK => ?_)
  go_simp
  refine (plain_any _).mono ?_
  rintro _ wq ⟨rfl, hk⟩
  refine hK.out _ _ (fun _ => Blk.kp hHeld hk (fun h => h)) (fun hHeld' => ?_)
  have hHeld := hHeld' (by decide)
  clear hHeld' hK K'
  replace KK := Lib.hid (KK.out.trans hk)
  clear hk
  refine wpK_one (i := 20) (by kernel_rfl) rfl (fun K' hK => ?_)
  go_simp
  refine (right_any ⟨0, 0, 0, 0, []⟩ (.slice none 0 0) _ (World.ownsRow_nil _ _ _ _) (by decide)).mono ?_
  rw [r_plain]
  rintro _ wq ⟨rfl, hk⟩
  refine hK.out _ _ (fun _ => Blk.kp hHeld hk (fun h => h)) (fun hHeld' => ?_)
  have hHeld := hHeld' (by decide)
  clear hHeld' hK K'
  replace KK := Lib.hid (KK.out.trans hk)
  clear hk
  refine wpK_take (i := 21) (v := ?_) rfl (by kernel_rfl) (fun _ _ _ h => h) (Or.inl ⟨by kernel_rfl, ?_⟩) hHeld ?_
  rotate_left
  · intro w hSw; (try dsimp only at hSw); have y0 := Blk.cell hSw 0 (.int .i64 p.ways) rfl; have y1 := Blk.cell hSw 1 (.int .i64 p.warm) rfl; have y2 := Blk.cell hSw 2 (.int .i64 p.deep) rfl; have y3 := Blk.cell hSw 3 (.int .i64 p.fan) rfl; have y4 := Blk.cell hSw 4 (.slice ao p.evs.length cap) rfl; clear hSw; go_simp; (try with_reducible rfl)
  simp only [Act.put, List.setIfInBounds_toArray, List.set_cons_zero, List.set_cons_succ]
  refine wpK_take (i := 22) (v := ?_) rfl (by kernel_rfl) (fun _ _ _ h => h) (Or.inl ⟨by kernel_rfl, ?_⟩) hHeld ?_
  rotate_left
  · intro w hSw; (try dsimp only at hSw); have y0 := Blk.cell hSw 0 (.int .i64 p.ways) rfl; have y1 := Blk.cell hSw 1 (.int .i64 p.warm) rfl; have y2 := Blk.cell hSw 2 (.int .i64 p.deep) rfl; have y3 := Blk.cell hSw 3 (.int .i64 p.fan) rfl; have y4 := Blk.cell hSw 4 (.slice ao p.evs.length cap) rfl; clear hSw; go_simp; (try with_reducible rfl)
  simp only [Act.put, List.setIfInBounds_toArray, List.set_cons_zero, List.set_cons_succ]
  refine wpK_take (i := 24) (v := ?_) rfl (by kernel_rfl) (fun _ _ _ h => h) (Or.inl ⟨by kernel_rfl, ?_⟩) hHeld ?_
  rotate_left
  · intro w hSw; (try dsimp only at hSw); have y0 := Blk.cell hSw 0 (.int .i64 p.ways) rfl; have y1 := Blk.cell hSw 1 (.int .i64 p.warm) rfl; have y2 := Blk.cell hSw 2 (.int .i64 p.deep) rfl; have y3 := Blk.cell hSw 3 (.int .i64 p.fan) rfl; have y4 := Blk.cell hSw 4 (.slice ao p.evs.length cap) rfl; clear hSw; go_simp; (try with_reducible rfl)
  simp only [Act.put, List.setIfInBounds_toArray, List.set_cons_zero, List.set_cons_succ]
  refine wpK_one (i := 23) (by kernel_rfl) rfl (fun K' hK => ?_)
  go_simp
  refine (plain_any _).mono ?_
  rintro _ wq ⟨rfl, hk⟩
  refine hK.out _ _ (fun _ => Blk.kp hHeld hk (fun h => h)) (fun hHeld' => ?_)
  have hHeld := hHeld' (by decide)
  clear hHeld' hK K'
  replace KK := Lib.hid (KK.out.trans hk)
  clear hk
  refine wpK_one (i := 25) (by kernel_rfl) rfl (fun K' hK => ?_)
  go_simp
  refine (due_any ⟨0, 0, 0, 0, []⟩ (.slice none 0 0) n _ (World.ownsRow_nil _ _ _ _) (by decide)).mono ?_
  rintro _ wq ⟨d5, rfl, hd5, hn7, hk⟩
  obtain ⟨oo, oc, rfl⟩ := row_form hd5
  simp only [List.filter_nil, List.length_nil]
  refine hK.out _ _ (fun _ => Blk.kp hHeld hk (fun h => h)) (fun hHeld' => ?_)
  have hHeld := hHeld' (by decide)
  clear hHeld' hK K'
  replace KK := Lib.hid (KK.out.trans hk)
  clear hk hd5 hn7
  refine wpK_take (i := 26) (v := ?_) rfl (by kernel_rfl) (fun _ _ _ h => h) (Or.inl ⟨by kernel_rfl, ?_⟩) hHeld ?_
  rotate_left
  · intro w hSw; (try dsimp only at hSw); have y0 := Blk.cell hSw 0 (.int .i64 p.ways) rfl; have y1 := Blk.cell hSw 1 (.int .i64 p.warm) rfl; have y2 := Blk.cell hSw 2 (.int .i64 p.deep) rfl; have y3 := Blk.cell hSw 3 (.int .i64 p.fan) rfl; have y4 := Blk.cell hSw 4 (.slice ao p.evs.length cap) rfl; clear hSw; go_simp; (try with_reducible rfl)
  simp only [Act.put, List.setIfInBounds_toArray, List.set_cons_zero, List.set_cons_succ]
  refine wpK_take (i := 27) (v := ?_) rfl (by kernel_rfl) (fun _ _ _ h => h) (Or.inl ⟨by kernel_rfl, ?_⟩) hHeld ?_
  rotate_left
  · intro w hSw; (try dsimp only at hSw); have y0 := Blk.cell hSw 0 (.int .i64 p.ways) rfl; have y1 := Blk.cell hSw 1 (.int .i64 p.warm) rfl; have y2 := Blk.cell hSw 2 (.int .i64 p.deep) rfl; have y3 := Blk.cell hSw 3 (.int .i64 p.fan) rfl; have y4 := Blk.cell hSw 4 (.slice ao p.evs.length cap) rfl; clear hSw; go_simp; (try with_reducible rfl)
  simp only [Act.put, List.setIfInBounds_toArray, List.set_cons_zero, List.set_cons_succ]
  refine wpK_take (i := 28) (v := ?_) rfl (by kernel_rfl) (fun _ _ _ h => h) (Or.inl ⟨by kernel_rfl, ?_⟩) hHeld ?_
  rotate_left
  · intro w hSw; (try dsimp only at hSw); have y0 := Blk.cell hSw 0 (.int .i64 p.ways) rfl; have y1 := Blk.cell hSw 1 (.int .i64 p.warm) rfl; have y2 := Blk.cell hSw 2 (.int .i64 p.deep) rfl; have y3 := Blk.cell hSw 3 (.int .i64 p.fan) rfl; have y4 := Blk.cell hSw 4 (.slice ao p.evs.length cap) rfl; clear hSw; go_simp; (try with_reducible rfl)
  simp only [Act.put, List.setIfInBounds_toArray, List.set_cons_zero, List.set_cons_succ]
  refine wpK_take (i := 29) (v := ?_) rfl (by kernel_rfl) (fun _ _ _ h => h) (Or.inl ⟨by kernel_rfl, ?_⟩) hHeld ?_
  rotate_left
  · intro w hSw; (try dsimp only at hSw); have y0 := Blk.cell hSw 0 (.int .i64 p.ways) rfl; have y1 := Blk.cell hSw 1 (.int .i64 p.warm) rfl; have y2 := Blk.cell hSw 2 (.int .i64 p.deep) rfl; have y3 := Blk.cell hSw 3 (.int .i64 p.fan) rfl; have y4 := Blk.cell hSw 4 (.slice ao p.evs.length cap) rfl; clear hSw; go_simp; (try with_reducible rfl)
  simp only [Act.put, List.setIfInBounds_toArray, List.set_cons_zero, List.set_cons_succ]
  refine wpK_done (by kernel_rfl) ?_ _
  go_simp
  clear hHeld
  have HF := Lib.hid (KK.out.below (Nat.le_refl _) (fun _ _ h => h))
  clear KK
  go_wp2
  go_returns
  exact ⟨rfl, HF.out⟩
end Go.Proofs.Ytcdofhfneiednaa
