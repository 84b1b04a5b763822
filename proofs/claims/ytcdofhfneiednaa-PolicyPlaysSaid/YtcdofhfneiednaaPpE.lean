/- selkielaw18.PolicyPlays: the walk. -/
import Derived.Test.YtcdofhfneiednaaPpD
import Derived.Test.YtcdofhfneiednaaPoS
import Derived.Test.YtcdofhfneiednaaPoQ
import Derived.Deep.LoopGhost
namespace Go.Proofs.Ytcdofhfneiednaa
set_option linter.unusedSimpArgs false
set_option linter.unusedVariables false
open Go.RowKit

set_option maxRecDepth 100000 in
set_option maxHeartbeats 4000000 in
theorem pplays_any (p : Pol) (v : Value) (c : Int) (hc : 0 ≤ c ∧ c < 256) (A : List Acc) (ao' : Option Addr) (acap : Nat) (w : World) (h : EIn w v p.evs) (hA : AIn w ao' A) (hl : p.evs.length ≤ 100) (hn : A.length ≤ 400) :
    Calls Try.prog 11 #[.agg (p.cells v), .int .u8 c, .slice ao' A.length acap] w fun e w' => e = .returned (.bool true) ∧ Below w.heap.size w w' := by
  have H := Lib.hid h
  have HA := Lib.hid hA
  clear hA
  obtain ⟨ao, cap, rfl, _⟩ := h
  obtain ⟨m, hm, hm20⟩ : ∃ m : Nat, c % 20 = m ∧ m < 20 := ⟨(c % 20).toNat, by omega, by omega⟩
  have HM := Lib.hid (show IntKind.i64.wrap (c.tmod 20) = m by rw [Int.tmod_eq_emod_of_nonneg hc.1, hm, IntKind.wrap_i64]; omega)
  clear hm
  unfold Pol.cells
  go_enter Try.func11, Try.ntmps11
  go_wp2_with fail
  refine (alive18_any _).mono ?_
  rintro e w1 ⟨rfl, hk⟩
  have hx := (Blk.new (w := w) (t := 54) (cs := #[.int .i64 p.ways, .int .i64 p.warm, .int .i64 p.deep, .int .i64 p.fan, .slice ao p.evs.length cap]) rfl).below hk (by simp)
  have x0 := hx.cell 0 _ rfl
  have x1 := hx.cell 1 _ rfl
  have x2 := hx.cell 2 _ rfl
  have x3 := hx.cell 3 _ rfl
  have x4 := hx.cell 4 (.slice ao p.evs.length cap) rfl
  have hxl := hx.lt
  have kk : Kp (fun _ => False) w w1 := (((Kp.refl (fun _ => False) w).alloc _)).trans (Kp.of_below hk)
  have KK := Lib.hid kk
  have hws1 := kk.size
  have HX := Lib.hid hx
  clear hx kk hk
  go_wp2_with fail
  refine (to_any p _ _ (H.out.kp KK.out (fun _ _ h => h)) (by omega)).mono ?_
  rintro _ wa ⟨v1, rfl, hr1, hn1, hk⟩
  replace KK := Lib.hid (KK.out.trans hk)
  replace HX := Lib.hid (Blk.kp HX.out hk (fun h => h))
  obtain ⟨oo, oc, rfl⟩ := row_form hr1
  have HR1 := Lib.hid hr1; have HN1 := Lib.hid (fun k hk => Nat.le_trans hws1 (hn1 k hk))
  have hwa := KK.out.size
  have hxa := HX.out.lt
  clear hk hn1 hr1 x0 x1 x2 x3 x4 hxl
  unfold Pol.cells
  go_wp2_with fail
  have hb5 : Blk (wa.alloc (.cells #[.int .i64 p.ways, .int .i64 p.warm, .int .i64 p.deep, .int .i64 p.fan, .slice oo p.evs.length oc] 58)) wa.heap.size 58 (p.cells (.slice oo p.evs.length oc)) := Blk.new rfl
  have hk0 : Kp (fun _ => False) wa (wa.alloc (.cells #[.int .i64 p.ways, .int .i64 p.warm, .int .i64 p.deep, .int .i64 p.fan, .slice oo p.evs.length oc] 58)) := (Kp.refl _ _).alloc _
  have hx5 := Blk.kp HX.out hk0 (fun h => h)
  have hr5 := row_kp (show wa.ownsRow 0 69 4 (.slice oo p.evs.length oc) p.evs.length (p.evs.flatMap Ev.cells) from HR1.out) hk0 (fun _ _ h => h)
  have kk5 := KK.out.trans hk0
  have hs5 : (wa.alloc (.cells #[.int .i64 p.ways, .int .i64 p.warm, .int .i64 p.deep, .int .i64 p.fan, .slice oo p.evs.length oc] 58)).heap.size = wa.heap.size + 1 := by simp
  generalize hw5 : wa.alloc (.cells #[.int .i64 p.ways, .int .i64 p.warm, .int .i64 p.deep, .int .i64 p.fan, .slice oo p.evs.length oc] 58) = w5 at *
  obtain ⟨B, hB⟩ : ∃ B, B = w5.heap.size := ⟨_, rfl⟩
  have HR5 := Lib.hid hr5; have KK5 := Lib.hid kk5; have HBs := Lib.hid hB
  have hBw : w.heap.size ≤ B := by omega
  have hBa : wa.heap.size < B := by omega
  have HB5 := Lib.hid hb5; have HX5 := Lib.hid hx5
  clear hw5 hk0 hr5 kk5 HR1 KK HX hb5 hx5 hB
  refine wp_region_K (S := fun w' => Blk w' wa.heap.size 58 (p.cells (.slice oo p.evs.length oc)) ∧ Blk w' w.heap.size 54 (p.cells (.slice ao p.evs.length cap))) (K := 13) (by kernel_rfl) ?_
  have hHeld : (fun w' => Blk w' wa.heap.size 58 (p.cells (.slice oo p.evs.length oc)) ∧ Blk w' w.heap.size 54 (p.cells (.slice ao p.evs.length cap))) (World.drew _) := ⟨HB5.out.drew, HX5.out.drew⟩
  have KW := Lib.hid (Kp.drew (Kp.refl (fun _ => False) w5))
  refine wpK_take (i := 0) (v := ?_) rfl (by kernel_rfl) (fun _ _ _ h => h) (Or.inl ⟨by kernel_rfl, ?_⟩) hHeld ?_
  rotate_left
  · intro w hSw; (try dsimp only at hSw); have y0 := Blk.cell hSw.1 0 (.int .i64 p.ways) rfl; have y1 := Blk.cell hSw.1 1 (.int .i64 p.warm) rfl; have y2 := Blk.cell hSw.1 2 (.int .i64 p.deep) rfl; have y3 := Blk.cell hSw.1 3 (.int .i64 p.fan) rfl; have y4 := Blk.cell hSw.1 4 (.slice oo p.evs.length oc) rfl; have x0 := Blk.cell hSw.2 0 (.int .i64 p.ways) rfl; have x1 := Blk.cell hSw.2 1 (.int .i64 p.warm) rfl; have x2 := Blk.cell hSw.2 2 (.int .i64 p.deep) rfl; have x3 := Blk.cell hSw.2 3 (.int .i64 p.fan) rfl; have x4 := Blk.cell hSw.2 4 (.slice ao p.evs.length cap) rfl; clear hSw; go_simp; (try with_reducible rfl)
  simp only [Act.put, List.setIfInBounds_toArray, List.set_cons_zero, List.set_cons_succ]
  refine wpK_take (i := 1) (v := ?_) rfl (by kernel_rfl) (fun _ _ _ h => h) (Or.inl ⟨by kernel_rfl, ?_⟩) hHeld ?_
  rotate_left
  · intro w hSw; (try dsimp only at hSw); have y0 := Blk.cell hSw.1 0 (.int .i64 p.ways) rfl; have y1 := Blk.cell hSw.1 1 (.int .i64 p.warm) rfl; have y2 := Blk.cell hSw.1 2 (.int .i64 p.deep) rfl; have y3 := Blk.cell hSw.1 3 (.int .i64 p.fan) rfl; have y4 := Blk.cell hSw.1 4 (.slice oo p.evs.length oc) rfl; have x0 := Blk.cell hSw.2 0 (.int .i64 p.ways) rfl; have x1 := Blk.cell hSw.2 1 (.int .i64 p.warm) rfl; have x2 := Blk.cell hSw.2 2 (.int .i64 p.deep) rfl; have x3 := Blk.cell hSw.2 3 (.int .i64 p.fan) rfl; have x4 := Blk.cell hSw.2 4 (.slice ao p.evs.length cap) rfl; clear hSw; go_simp; (try with_reducible rfl)
  simp only [Act.put, List.setIfInBounds_toArray, List.set_cons_zero, List.set_cons_succ]
  refine wpK_take (i := 2) (v := ?_) rfl (by kernel_rfl) (fun _ _ _ h => h) (Or.inl ⟨by kernel_rfl, ?_⟩) hHeld ?_
  rotate_left
  · intro w hSw; (try dsimp only at hSw); have y0 := Blk.cell hSw.1 0 (.int .i64 p.ways) rfl; have y1 := Blk.cell hSw.1 1 (.int .i64 p.warm) rfl; have y2 := Blk.cell hSw.1 2 (.int .i64 p.deep) rfl; have y3 := Blk.cell hSw.1 3 (.int .i64 p.fan) rfl; have y4 := Blk.cell hSw.1 4 (.slice oo p.evs.length oc) rfl; have x0 := Blk.cell hSw.2 0 (.int .i64 p.ways) rfl; have x1 := Blk.cell hSw.2 1 (.int .i64 p.warm) rfl; have x2 := Blk.cell hSw.2 2 (.int .i64 p.deep) rfl; have x3 := Blk.cell hSw.2 3 (.int .i64 p.fan) rfl; have x4 := Blk.cell hSw.2 4 (.slice ao p.evs.length cap) rfl; clear hSw; go_simp; (try with_reducible rfl)
  simp only [Act.put, List.setIfInBounds_toArray, List.set_cons_zero, List.set_cons_succ]
  refine wpK_take (i := 3) (v := ?_) rfl (by kernel_rfl) (fun _ _ _ h => h) (Or.inl ⟨by kernel_rfl, ?_⟩) hHeld ?_
  rotate_left
  · intro w hSw; (try dsimp only at hSw); have y0 := Blk.cell hSw.1 0 (.int .i64 p.ways) rfl; have y1 := Blk.cell hSw.1 1 (.int .i64 p.warm) rfl; have y2 := Blk.cell hSw.1 2 (.int .i64 p.deep) rfl; have y3 := Blk.cell hSw.1 3 (.int .i64 p.fan) rfl; have y4 := Blk.cell hSw.1 4 (.slice oo p.evs.length oc) rfl; have x0 := Blk.cell hSw.2 0 (.int .i64 p.ways) rfl; have x1 := Blk.cell hSw.2 1 (.int .i64 p.warm) rfl; have x2 := Blk.cell hSw.2 2 (.int .i64 p.deep) rfl; have x3 := Blk.cell hSw.2 3 (.int .i64 p.fan) rfl; have x4 := Blk.cell hSw.2 4 (.slice ao p.evs.length cap) rfl; clear hSw; go_simp; (try with_reducible rfl)
  simp only [Act.put, List.setIfInBounds_toArray, List.set_cons_zero, List.set_cons_succ]
  refine wpK_take (i := 5) (v := ?_) rfl (by kernel_rfl) (fun _ _ _ h => h) (Or.inl ⟨by kernel_rfl, ?_⟩) hHeld ?_
  rotate_left
  · intro w hSw; (try dsimp only at hSw); have y0 := Blk.cell hSw.1 0 (.int .i64 p.ways) rfl; have y1 := Blk.cell hSw.1 1 (.int .i64 p.warm) rfl; have y2 := Blk.cell hSw.1 2 (.int .i64 p.deep) rfl; have y3 := Blk.cell hSw.1 3 (.int .i64 p.fan) rfl; have y4 := Blk.cell hSw.1 4 (.slice oo p.evs.length oc) rfl; have x0 := Blk.cell hSw.2 0 (.int .i64 p.ways) rfl; have x1 := Blk.cell hSw.2 1 (.int .i64 p.warm) rfl; have x2 := Blk.cell hSw.2 2 (.int .i64 p.deep) rfl; have x3 := Blk.cell hSw.2 3 (.int .i64 p.fan) rfl; have x4 := Blk.cell hSw.2 4 (.slice ao p.evs.length cap) rfl; clear hSw; go_simp; (try with_reducible rfl)
  simp only [Act.put, List.setIfInBounds_toArray, List.set_cons_zero, List.set_cons_succ]
  refine wpK_take (i := 7) (v := ?_) rfl (by kernel_rfl) (fun _ _ _ h => h) (Or.inl ⟨by kernel_rfl, ?_⟩) hHeld ?_
  rotate_left
  · intro w hSw; (try dsimp only at hSw); have y0 := Blk.cell hSw.1 0 (.int .i64 p.ways) rfl; have y1 := Blk.cell hSw.1 1 (.int .i64 p.warm) rfl; have y2 := Blk.cell hSw.1 2 (.int .i64 p.deep) rfl; have y3 := Blk.cell hSw.1 3 (.int .i64 p.fan) rfl; have y4 := Blk.cell hSw.1 4 (.slice oo p.evs.length oc) rfl; have x0 := Blk.cell hSw.2 0 (.int .i64 p.ways) rfl; have x1 := Blk.cell hSw.2 1 (.int .i64 p.warm) rfl; have x2 := Blk.cell hSw.2 2 (.int .i64 p.deep) rfl; have x3 := Blk.cell hSw.2 3 (.int .i64 p.fan) rfl; have x4 := Blk.cell hSw.2 4 (.slice ao p.evs.length cap) rfl; clear hSw; go_simp; (try with_reducible rfl)
  simp only [Act.put, List.setIfInBounds_toArray, List.set_cons_zero, List.set_cons_succ]
  refine wpK_take (i := 8) (v := ?_) rfl (by kernel_rfl) (fun _ _ _ h => h) (Or.inl ⟨by kernel_rfl, ?_⟩) hHeld ?_
  rotate_left
  · intro w hSw; (try dsimp only at hSw); have y0 := Blk.cell hSw.1 0 (.int .i64 p.ways) rfl; have y1 := Blk.cell hSw.1 1 (.int .i64 p.warm) rfl; have y2 := Blk.cell hSw.1 2 (.int .i64 p.deep) rfl; have y3 := Blk.cell hSw.1 3 (.int .i64 p.fan) rfl; have y4 := Blk.cell hSw.1 4 (.slice oo p.evs.length oc) rfl; have x0 := Blk.cell hSw.2 0 (.int .i64 p.ways) rfl; have x1 := Blk.cell hSw.2 1 (.int .i64 p.warm) rfl; have x2 := Blk.cell hSw.2 2 (.int .i64 p.deep) rfl; have x3 := Blk.cell hSw.2 3 (.int .i64 p.fan) rfl; have x4 := Blk.cell hSw.2 4 (.slice ao p.evs.length cap) rfl; clear hSw; go_simp; (try with_reducible rfl)
  simp only [Act.put, List.setIfInBounds_toArray, List.set_cons_zero, List.set_cons_succ]
  refine wpK_take (i := 9) (v := ?_) rfl (by kernel_rfl) (fun _ _ _ h => h) (Or.inl ⟨by kernel_rfl, ?_⟩) hHeld ?_
  rotate_left
  · intro w hSw; (try dsimp only at hSw); have y0 := Blk.cell hSw.1 0 (.int .i64 p.ways) rfl; have y1 := Blk.cell hSw.1 1 (.int .i64 p.warm) rfl; have y2 := Blk.cell hSw.1 2 (.int .i64 p.deep) rfl; have y3 := Blk.cell hSw.1 3 (.int .i64 p.fan) rfl; have y4 := Blk.cell hSw.1 4 (.slice oo p.evs.length oc) rfl; have x0 := Blk.cell hSw.2 0 (.int .i64 p.ways) rfl; have x1 := Blk.cell hSw.2 1 (.int .i64 p.warm) rfl; have x2 := Blk.cell hSw.2 2 (.int .i64 p.deep) rfl; have x3 := Blk.cell hSw.2 3 (.int .i64 p.fan) rfl; have x4 := Blk.cell hSw.2 4 (.slice ao p.evs.length cap) rfl; clear hSw; go_simp; (try with_reducible rfl)
  simp only [Act.put, List.setIfInBounds_toArray, List.set_cons_zero, List.set_cons_succ]
  refine wpK_one (i := 4) (by kernel_rfl) rfl (fun K' hK => ?_)
  go_simp
  try simp only [HM.out]
  refine (newp_owns (P := fun k => B ≤ k) p _ m _ (row_kp HR5.out KW.out (fun _ _ h => h)) (by omega) (by omega) (fun k h => by have := HBs.out; have := KW.out.size; omega)).mono ?_
  rintro _ wn ⟨b, bs, rfl, hO, hk⟩
  refine hK.out _ _ (fun _ => ⟨Blk.kp hHeld.1 hk (fun h => h), Blk.kp hHeld.2 hk (fun h => h)⟩) (fun hHeld' => ?_)
  have hHeld := hHeld' (by decide)
  clear hHeld' hK K'
  have HO := Lib.hid hO
  have KN := Lib.hid (KW.out.trans hk)
  clear hO hk KW
  refine wpK_one (i := 6) (by kernel_rfl) rfl (fun K' hK => ?_)
  go_simp
  refine (ref_any p _ _ (H.out.kp (KK5.out.trans KN.out) (fun _ _ h => h)) (by omega)).mono ?_
  rintro _ wf ⟨v', rfl, hr, hn6, hk⟩
  obtain ⟨o3, c3, rfl⟩ := row_form hr
  refine hK.out _ _ (fun _ => ⟨Blk.kp hHeld.1 hk (fun h => h), Blk.kp hHeld.2 hk (fun h => h)⟩) (fun hHeld' => ?_)
  have hHeld := hHeld' (by decide)
  clear hHeld' hK K'
  have HRF := Lib.hid hr; have HNF := Lib.hid hn6; have KF := Lib.hid hk
  clear hr hn6 hk
  refine wpK_one (i := 10) (by kernel_rfl) rfl (fun K' hK => ?_)
  go_simp
  try simp only [HM.out]
  refine (rnewp_any p _ m _ HRF.out (by omega)).mono ?_
  rintro _ wg ⟨b', bs', F', rfl, hg1, hg2, hk⟩
  refine hK.out _ _ (fun _ => ⟨Blk.kp hHeld.1 hk (fun h => h), Blk.kp hHeld.2 hk (fun h => h)⟩) (fun hHeld' => ?_)
  have hHeld := hHeld' (by decide)
  clear hHeld' hK K'
  have hD : Duo (fun k => B ≤ k) wg b ⟨p, List.replicate m (s0of p), 0⟩ bs b' ⟨p, List.replicate m (s0of p), 0⟩ bs' := duo_new HO.out (fun k h => by have := HBs.out; have := KN.out.size; omega) (KF.out.trans hk) hg1 (fun k hk' => (hg2 k hk').elim (fun h => Nat.le_trans KF.out.size h) (fun h => HNF.out k h))
  have HD := Lib.hid hD
  have KG := Lib.hid ((KN.out.trans KF.out).trans hk)
  clear hD hg1 hg2 hk HRF HNF KF HO KN
  refine wpK_take (i := 11) (v := ?_) rfl (by kernel_rfl) (fun _ _ _ h => h) (Or.inl ⟨by kernel_rfl, ?_⟩) hHeld ?_
  rotate_left
  · intro w hSw; (try dsimp only at hSw); have y0 := Blk.cell hSw.1 0 (.int .i64 p.ways) rfl; have y1 := Blk.cell hSw.1 1 (.int .i64 p.warm) rfl; have y2 := Blk.cell hSw.1 2 (.int .i64 p.deep) rfl; have y3 := Blk.cell hSw.1 3 (.int .i64 p.fan) rfl; have y4 := Blk.cell hSw.1 4 (.slice oo p.evs.length oc) rfl; have x0 := Blk.cell hSw.2 0 (.int .i64 p.ways) rfl; have x1 := Blk.cell hSw.2 1 (.int .i64 p.warm) rfl; have x2 := Blk.cell hSw.2 2 (.int .i64 p.deep) rfl; have x3 := Blk.cell hSw.2 3 (.int .i64 p.fan) rfl; have x4 := Blk.cell hSw.2 4 (.slice ao p.evs.length cap) rfl; clear hSw; go_simp; (try with_reducible rfl)
  simp only [Act.put, List.setIfInBounds_toArray, List.set_cons_zero, List.set_cons_succ]
  refine wpK_take (i := 12) (v := ?_) rfl (by kernel_rfl) (fun _ _ _ h => h) (Or.inl ⟨by kernel_rfl, ?_⟩) hHeld ?_
  rotate_left
  · intro w hSw; (try dsimp only at hSw); have y0 := Blk.cell hSw.1 0 (.int .i64 p.ways) rfl; have y1 := Blk.cell hSw.1 1 (.int .i64 p.warm) rfl; have y2 := Blk.cell hSw.1 2 (.int .i64 p.deep) rfl; have y3 := Blk.cell hSw.1 3 (.int .i64 p.fan) rfl; have y4 := Blk.cell hSw.1 4 (.slice oo p.evs.length oc) rfl; have x0 := Blk.cell hSw.2 0 (.int .i64 p.ways) rfl; have x1 := Blk.cell hSw.2 1 (.int .i64 p.warm) rfl; have x2 := Blk.cell hSw.2 2 (.int .i64 p.deep) rfl; have x3 := Blk.cell hSw.2 3 (.int .i64 p.fan) rfl; have x4 := Blk.cell hSw.2 4 (.slice ao p.evs.length cap) rfl; clear hSw; go_simp; (try with_reducible rfl)
  simp only [Act.put, List.setIfInBounds_toArray, List.set_cons_zero, List.set_cons_succ]
  refine wpK_done (by kernel_rfl) ?_ _
  generalize c.tmod 20 = cz at *
  have hown := row_kp HR5.out KG.out (fun _ _ h => h)
  have hne5 := row_ne HR5.out HB5.out (by decide)
  have hrow : ∀ g, (Value.slice oo p.evs.length oc).ownBlock = some g → w.heap.size ≤ g ∧ g < B ∧ g ≠ wa.heap.size ∧ ∃ cs, Blk wg g 69 cs ∧ p.evs.length * 4 ≤ cs.size := fun g hg => by
    refine ⟨HN1.out g hg, ?_, fun e => hne5 (by rw [hg, e]), ?_⟩
    · have := (HR5.out.lt g hg).2; have := HBs.out; omega
    · rcases hown.2 with ⟨he, _⟩ | ⟨g', cap', cur, he, _, hh, r1, r2, r3, r4⟩
      · rw [he] at hg; cases hg
      · rw [he] at hg
        simp [Value.ownBlock] at hg
        subst hg
        exact ⟨cur, hh, by rw [r3]; exact Nat.mul_le_mul_right 4 r1⟩
  have HROW := Lib.hid hrow
  have HHB := Lib.hid hHeld.1
  have KKG := Lib.hid (KK5.out.trans KG.out)
  have hgb : B ≤ wg.heap.size := by have := HBs.out; have := KG.out.size; omega
  have y4 := Blk.cell hHeld.1 4 (.slice oo p.evs.length oc) rfl
  have hbl5 := hHeld.1.lt
  clear hown hne5 hrow hHeld KK5 HB5 HX5 KG H
  go_simp
  go_wp2_with fail
  clear y4
  go_loopw [50] (fun iv wr => ∃ i : Nat, iv = .int .i64 i ∧ i ≤ p.evs.length ∧ Blk wr wa.heap.size 58 (p.cells (.slice oo p.evs.length oc)) ∧ (∀ g, (Value.slice oo p.evs.length oc).ownBlock = some g → ∃ cs, Blk wr g 69 cs ∧ p.evs.length * 4 ≤ cs.size) ∧ Kp (fun k => w.heap.size ≤ k ∧ k < B) wg wr) (fun iv _ => p.evs.length - (intOf iv).toNat)
  case atStart => exact ⟨0, rfl, by omega, HHB.out, fun g hg => (HROW.out g hg).2.2.2, Kp.refl _ _⟩
  case round =>
    clear HHB
    obtain ⟨i, rfl, hi', hb5, hrow, kx⟩ := hrel
    by_cases hlt : (i : Int) < p.evs.length
    · have hil : i < p.evs.length := by omega
      obtain ⟨g, cap', hga⟩ := row_some HR5.out (by omega)
      simp only [Value.slice.injEq] at hga
      obtain ⟨rfl, _, rfl⟩ := hga
      obtain ⟨cs, hcs, hsz⟩ := hrow g rfl
      have hg := hcs.lt
      obtain ⟨u, hu⟩ : ∃ u, cs[i * 4]? = some u := ⟨cs[i * 4]'(by omega), Array.getElem?_eq_getElem (by omega)⟩
      have z0 := Blk.cell hcs (i * 4) u hu
      have zf := Blk.free hcs (i * 4)
      have y4 := Blk.cell hb5 4 (.slice (some ⟨g, 0, none⟩) p.evs.length oc) rfl
      have hb5l := hb5.lt
      obtain ⟨g1, g2, g3, _⟩ := HROW.out g rfl
      have ks : Kp (fun k => k = g) wr (wr.setCell ⟨g, i * 4, none⟩ (.int .i64 1)) := Kp.setCell (S := fun k => k = g) (p := ⟨g, i * 4, none⟩) (Kp.refl _ _) (.inl rfl) _
      have q1 := Blk.kp hb5 ks (fun e => by have e' : wa.heap.size = g := e; omega)
      have q2 : ∀ g', (Value.slice (some ⟨g, 0, none⟩) p.evs.length oc).ownBlock = some g' → ∃ cs, Blk (wr.setCell ⟨g, i * 4, none⟩ (.int .i64 1)) g' 69 cs ∧ p.evs.length * 4 ≤ cs.size := fun g' hg' => by
        simp [Value.ownBlock] at hg'
        subst hg'
        exact ⟨_, Blk.set hcs (i * 4) (.int .i64 1), by simpa using hsz⟩
      have q3 : Kp (fun k => w.heap.size ≤ k ∧ k < B) wg (wr.setCell ⟨g, i * 4, none⟩ (.int .i64 1)) := kx.trans (ks.mono (fun k _ e => by have e' : k = g := e; omega))
      have Q1 := Lib.hid q1; have Q2 := Lib.hid q2; have Q3 := Lib.hid q3
      clear ks q1 q2 q3 hcs hrow hb5 kx hu
      go_wp2
      go_roundw
      case rel => exact ⟨i + 1, by go_num, by omega, Q1.out, Q2.out, Q3.out⟩
      case measure => simp [intOf]; omega
    · obtain rfl : i = p.evs.length := by omega
      have k6 : Kp (fun k => w.heap.size ≤ k) w wr := (KKG.out.mono (S' := fun k => w.heap.size ≤ k) (fun _ _ h => h.elim)).trans' kx (fun q _ h => h.1)
      have hD6 : Duo (fun k => B ≤ k) wr b ⟨p, List.replicate m (s0of p), 0⟩ bs b' ⟨p, List.replicate m (s0of p), 0⟩ bs' := HD.out.kp kx (fun k _ h h' => by have h1 : B ≤ k := h; omega)
      have hsz7 : B ≤ wr.heap.size := Nat.le_trans hgb kx.size
      obtain ⟨w6, hw6⟩ : ∃ w6, w6 = wr := ⟨_, rfl⟩
      subst hw6
      have hL : Lap (fun k => B ≤ k) w6 p m b bs b' bs' 0 (List.replicate m (s0of p)) 0 w6 := ⟨hD6, by simp, by omega, by omega, few_new p m, Kp.refl _ _⟩
      have HL0 := Lib.hid hL; have K6 := Lib.hid k6
      have hevl : p.evs.length ≤ 100000 := by omega
      clear hL hD6 k6 hb5 hrow kx HD KKG hlt HROW HBs hgb hbl5 HR5
      go_wp2_with fail
      go_loopw [61] (fun iv wr => ∃ (i : Nat) (l : List SS) (n : Int), iv = .int .i64 i ∧ i ≤ A.length ∧ Lap (fun k => B ≤ k) w6 p m b bs b' bs' i l n wr) (fun iv _ => A.length - (intOf iv).toNat)
      case atStart => exact ⟨0, _, _, rfl, by omega, HL0.out⟩
      case round =>
        clear HL0
        obtain ⟨i, l, n, rfl, hia, hL⟩ := hrel
        have kw : Kp (fun k => w.heap.size ≤ k) w wr := K6.out.trans' hL.kp (fun k hk h => by have h1 : B ≤ k := h; omega)
        by_cases hlt : (i : Int) < A.length
        · have hil : i < A.length := by omega
          rcases HA.out.kp kw (fun k hk h => by omega) with h0 | ⟨ob, off, rfl, hob, hc⟩
          · omega
          obtain ⟨d0, d1⟩ := hc i hil
          obtain ⟨l2, n2, a1, l4, n3, n4, few2⟩ := plays_step p l n A[i].id hL.few
          generalize A[i] = ac at *
          obtain ⟨id, sh⟩ := ac
          dsimp only at d0 d1 a1
          have hlen := hL.len
          have hn0 := hL.lo
          have hn1 := hL.hi
          have k0 : Kp (fun _ => False) wr (wr.alloc (.cells #[.int .i64 id, .int .i64 sh] 73)) := (Kp.refl _ _).alloc _
          have hbx : Blk (wr.alloc (.cells #[.int .i64 id, .int .i64 sh] 73)) wr.heap.size 73 #[.int .i64 id, .int .i64 sh] := Blk.new rfl
          have HT := Lib.hid (hL.two.except k0 (Nat.le_refl _))
          have hws : B ≤ wr.heap.size := Nat.le_trans hsz7 hL.kp.size
          have HP := Lib.hid (show ∀ k, (wr.alloc (.cells #[.int .i64 id, .int .i64 sh] 73)).heap.size ≤ k → B ≤ k ∧ k ≠ wr.heap.size from fun k hk => by simp at hk; omega)
          have KL := Lib.hid (hL.kp.trans (k0.mono (fun _ _ h => h.elim)))
          have HX := Lib.hid hbx
          have A1 := Lib.hid a1; have FEW := Lib.hid few2
          have hl2m : l2.length = m := by omega
          clear kw hc k0 hbx hL a1 few2
          cases hin : inR id l.length with
          | false =>
            have HE1 := Lib.hid (show atPtr bs id l.length = .pointer none by simp [atPtr, hin])
            have HE2 := Lib.hid (show atPtr bs' id l.length = .pointer none by simp [atPtr, hin])
            clear hin
            go_wp2_with fail
            generalize wr.alloc (.cells #[.int .i64 id, .int .i64 sh] 73) = wq at *
            refine wp_region_K (S := fun w' => Blk w' wr.heap.size 73 #[.int .i64 id, .int .i64 sh]) (K := 10) (by kernel_rfl) ?_
            have hHeld : (fun w' => Blk w' wr.heap.size 73 #[.int .i64 id, .int .i64 sh]) (World.drew _) := HX.out.drew
            replace KL := Lib.hid KL.out.drew
            replace HT := Lib.hid (HT.out.tell (Kp.refl _ _).drew)
            replace HP := Lib.hid (show ∀ k, (World.drew wq).heap.size ≤ k → B ≤ k ∧ k ≠ wr.heap.size from fun k hk => HP.out k hk)
            generalize World.drew wq = wq at *
            refine wpK_take (i := 0) (v := ?_) rfl (by kernel_rfl) (fun _ _ _ h => h) (Or.inl ⟨by kernel_rfl, ?_⟩) hHeld ?_
            rotate_left
            · intro w hSw; (try dsimp only at hSw); have y0 := Blk.cell hSw 0 (.int .i64 id) rfl; have y1 := Blk.cell hSw 1 (.int .i64 sh) rfl; clear hSw; go_simp; (try with_reducible rfl)
            simp only [Act.put, List.setIfInBounds_toArray, List.set_cons_zero, List.set_cons_succ]
            refine wpK_take (i := 1) (v := ?_) rfl (by kernel_rfl) (fun _ _ _ h => h) (Or.inl ⟨by kernel_rfl, ?_⟩) hHeld ?_
            rotate_left
            · intro w hSw; (try dsimp only at hSw); have y0 := Blk.cell hSw 0 (.int .i64 id) rfl; have y1 := Blk.cell hSw 1 (.int .i64 sh) rfl; clear hSw; go_simp; (try with_reducible rfl)
            simp only [Act.put, List.setIfInBounds_toArray, List.set_cons_zero, List.set_cons_succ]
            refine wpK_take (i := 2) (v := ?_) rfl (by kernel_rfl) (fun _ _ _ h => h) (Or.inl ⟨by kernel_rfl, ?_⟩) hHeld ?_
            rotate_left
            · intro w hSw; (try dsimp only at hSw); have y0 := Blk.cell hSw 0 (.int .i64 id) rfl; have y1 := Blk.cell hSw 1 (.int .i64 sh) rfl; clear hSw; go_simp; (try with_reducible rfl)
            simp only [Act.put, List.setIfInBounds_toArray, List.set_cons_zero, List.set_cons_succ]
            refine wpK_take (i := 4) (v := ?_) rfl (by kernel_rfl) (fun _ _ _ h => h) (Or.inl ⟨by kernel_rfl, ?_⟩) hHeld ?_
            rotate_left
            · intro w hSw; (try dsimp only at hSw); have y0 := Blk.cell hSw 0 (.int .i64 id) rfl; have y1 := Blk.cell hSw 1 (.int .i64 sh) rfl; clear hSw; go_simp; (try with_reducible rfl)
            simp only [Act.put, List.setIfInBounds_toArray, List.set_cons_zero, List.set_cons_succ]
            refine wpK_take (i := 5) (v := ?_) rfl (by kernel_rfl) (fun _ _ _ h => h) (Or.inl ⟨by kernel_rfl, ?_⟩) hHeld ?_
            rotate_left
            · intro w hSw; (try dsimp only at hSw); have y0 := Blk.cell hSw 0 (.int .i64 id) rfl; have y1 := Blk.cell hSw 1 (.int .i64 sh) rfl; clear hSw; go_simp; (try with_reducible rfl)
            simp only [Act.put, List.setIfInBounds_toArray, List.set_cons_zero, List.set_cons_succ]
            refine wpK_take (i := 6) (v := ?_) rfl (by kernel_rfl) (fun _ _ _ h => h) (Or.inl ⟨by kernel_rfl, ?_⟩) hHeld ?_
            rotate_left
            · intro w hSw; (try dsimp only at hSw); have y0 := Blk.cell hSw 0 (.int .i64 id) rfl; have y1 := Blk.cell hSw 1 (.int .i64 sh) rfl; clear hSw; go_simp; (try with_reducible rfl)
            simp only [Act.put, List.setIfInBounds_toArray, List.set_cons_zero, List.set_cons_succ]
            refine wpK_one (i := 3) (by kernel_rfl) rfl (fun K' hK => ?_)
            go_simp
            refine (at_duo HT.out id HP.out (by simp only [hlen]; omega) hevl ⟨hn0, by show n ≤ 1000000; omega⟩).mono ?_
            simp only [HE1.out, A1.out]
            rintro _ wq ⟨rfl, hT, hk⟩
            refine hK.out _ _ (fun _ => Blk.kp hHeld hk (fun h => h.2 rfl)) (fun hHeld' => ?_)
            have hHeld := hHeld' (by decide)
            clear hHeld' hK K'
            replace HT := Lib.hid hT
            replace HP := Lib.hid (le_of_kp hk HP.out)
            replace KL := Lib.hid (KL.out.trans (hk.mono (fun _ _ h => h.1)))
            clear hT hk
            refine wpK_one (i := 7) (by kernel_rfl) rfl (fun K' hK => ?_)
            go_simp
            refine (rat_duo HT.out id HP.out (by simp only [hlen]; omega) hevl ⟨hn0, by show n ≤ 1000000; omega⟩).mono ?_
            simp only [HE2.out, A1.out]
            rintro _ wq ⟨rfl, hT, hk⟩
            refine hK.out _ _ (fun _ => Blk.kp hHeld hk (fun h => h.2 rfl)) (fun hHeld' => ?_)
            have hHeld := hHeld' (by decide)
            clear hHeld' hK K'
            replace HT := Lib.hid hT
            replace HP := Lib.hid (le_of_kp hk HP.out)
            replace KL := Lib.hid (KL.out.trans (hk.mono (fun _ _ h => h.1)))
            clear hT hk
            refine wpK_take (i := 8) (v := ?_) rfl (by kernel_rfl) (fun _ _ _ h => h) (Or.inl ⟨by kernel_rfl, ?_⟩) hHeld ?_
            rotate_left
            · intro w hSw; (try dsimp only at hSw); have y0 := Blk.cell hSw 0 (.int .i64 id) rfl; have y1 := Blk.cell hSw 1 (.int .i64 sh) rfl; clear hSw; go_simp; (try with_reducible rfl)
            simp only [Act.put, List.setIfInBounds_toArray, List.set_cons_zero, List.set_cons_succ]
            refine wpK_take (i := 9) (v := ?_) rfl (by kernel_rfl) (fun _ _ _ h => h) (Or.inl ⟨by kernel_rfl, ?_⟩) hHeld ?_
            rotate_left
            · intro w hSw; (try dsimp only at hSw); have y0 := Blk.cell hSw 0 (.int .i64 id) rfl; have y1 := Blk.cell hSw 1 (.int .i64 sh) rfl; clear hSw; go_simp; (try with_reducible rfl)
            simp only [Act.put, List.setIfInBounds_toArray, List.set_cons_zero, List.set_cons_succ]
            refine wpK_done (by kernel_rfl) ?_ _
            obtain ⟨ev, lv, hbb, _, _⟩ := HT.out.rcells
            have hbb0 := hbb.lt
            go_wp2_with fail
            refine wp_region_K (S := fun w' => Blk w' b' 85 (Ss.cells ⟨p, l2, n2⟩ ev lv) ∧ Blk w' wr.heap.size 73 #[.int .i64 id, .int .i64 sh]) (K := 14) (by kernel_rfl) ?_
            have hHeld : (fun w' => Blk w' b' 85 (Ss.cells ⟨p, l2, n2⟩ ev lv) ∧ Blk w' wr.heap.size 73 #[.int .i64 id, .int .i64 sh]) (World.drew _) := ⟨hbb.drew, hHeld.drew⟩
            replace KL := Lib.hid KL.out.drew
            replace HT := Lib.hid (HT.out.tell (Kp.refl _ _).drew)
            replace HP := Lib.hid (show ∀ k, (World.drew wq).heap.size ≤ k → B ≤ k ∧ k ≠ wr.heap.size from fun k hk => HP.out k hk)
            clear hbb
            generalize World.drew wq = wq at *
            refine wpK_take (i := 0) (v := ?_) rfl (by kernel_rfl) (fun _ _ _ h => h) (Or.inl ⟨by kernel_rfl, ?_⟩) hHeld ?_
            rotate_left
            · intro w hSw; (try dsimp only at hSw); have z2 := Blk.cell hSw.1 6 (.int .i64 n2) rfl; clear hSw; go_simp; (try with_reducible rfl)
            simp only [Act.put, List.setIfInBounds_toArray, List.set_cons_zero, List.set_cons_succ]
            refine wpK_take (i := 1) (v := ?_) rfl (by kernel_rfl) (fun _ _ _ h => h) (Or.inl ⟨by kernel_rfl, ?_⟩) hHeld ?_
            rotate_left
            · intro w hSw; (try dsimp only at hSw); have z2 := Blk.cell hSw.1 6 (.int .i64 n2) rfl; clear hSw; go_simp; (try with_reducible rfl)
            simp only [Act.put, List.setIfInBounds_toArray, List.set_cons_zero, List.set_cons_succ]
            refine wpK_take (i := 2) (v := ?_) rfl (by kernel_rfl) (fun _ _ _ h => h) (Or.inl ⟨by kernel_rfl, ?_⟩) hHeld ?_
            rotate_left
            · intro w hSw; (try dsimp only at hSw); have z2 := Blk.cell hSw.1 6 (.int .i64 n2) rfl; clear hSw; go_simp; (try with_reducible rfl)
            simp only [Act.put, List.setIfInBounds_toArray, List.set_cons_zero, List.set_cons_succ]
            refine wpK_take (i := 3) (v := ?_) rfl (by kernel_rfl) (fun _ _ _ h => h) (Or.inl ⟨by kernel_rfl, ?_⟩) hHeld ?_
            rotate_left
            · intro w hSw; (try dsimp only at hSw); have z2 := Blk.cell hSw.1 6 (.int .i64 n2) rfl; clear hSw; go_simp; (try with_reducible rfl)
            simp only [Act.put, List.setIfInBounds_toArray, List.set_cons_zero, List.set_cons_succ]
            refine wpK_take (i := 4) (v := ?_) rfl (by kernel_rfl) (fun _ _ _ h => h) (Or.inl ⟨by kernel_rfl, ?_⟩) hHeld ?_
            rotate_left
            · intro w hSw; (try dsimp only at hSw); have z2 := Blk.cell hSw.1 6 (.int .i64 n2) rfl; clear hSw; go_simp; (try with_reducible rfl)
            simp only [Act.put, List.setIfInBounds_toArray, List.set_cons_zero, List.set_cons_succ]
            refine wpK_take (i := 5) (v := ?_) rfl (by kernel_rfl) (fun _ _ _ h => h) (Or.inl ⟨by kernel_rfl, ?_⟩) hHeld ?_
            rotate_left
            · intro w hSw; (try dsimp only at hSw); have z2 := Blk.cell hSw.1 6 (.int .i64 n2) rfl; clear hSw; go_simp; (try with_reducible rfl)
            simp only [Act.put, List.setIfInBounds_toArray, List.set_cons_zero, List.set_cons_succ]
            refine wpK_take (i := 6) (v := ?_) rfl (by kernel_rfl) (fun _ _ _ h => h) (Or.inl ⟨by kernel_rfl, ?_⟩) hHeld ?_
            rotate_left
            · intro w hSw; (try dsimp only at hSw); have z2 := Blk.cell hSw.1 6 (.int .i64 n2) rfl; clear hSw; go_simp; (try with_reducible rfl)
            simp only [Act.put, List.setIfInBounds_toArray, List.set_cons_zero, List.set_cons_succ]
            refine wpK_take (i := 8) (v := ?_) rfl (by kernel_rfl) (fun _ _ _ h => h) (Or.inl ⟨by kernel_rfl, ?_⟩) hHeld ?_
            rotate_left
            · intro w hSw; (try dsimp only at hSw); have z2 := Blk.cell hSw.1 6 (.int .i64 n2) rfl; clear hSw; go_simp; (try with_reducible rfl)
            simp only [Act.put, List.setIfInBounds_toArray, List.set_cons_zero, List.set_cons_succ]
            refine wpK_take (i := 9) (v := ?_) rfl (by kernel_rfl) (fun _ _ _ h => h) (Or.inl ⟨by kernel_rfl, ?_⟩) hHeld ?_
            rotate_left
            · intro w hSw; (try dsimp only at hSw); have z2 := Blk.cell hSw.1 6 (.int .i64 n2) rfl; clear hSw; go_simp; (try with_reducible rfl)
            simp only [Act.put, List.setIfInBounds_toArray, List.set_cons_zero, List.set_cons_succ]
            refine wpK_take (i := 10) (v := ?_) rfl (by kernel_rfl) (fun _ _ _ h => h) (Or.inl ⟨by kernel_rfl, ?_⟩) hHeld ?_
            rotate_left
            · intro w hSw; (try dsimp only at hSw); have z2 := Blk.cell hSw.1 6 (.int .i64 n2) rfl; clear hSw; go_simp; (try with_reducible rfl)
            simp only [Act.put, List.setIfInBounds_toArray, List.set_cons_zero, List.set_cons_succ]
            refine wpK_take (i := 11) (v := ?_) rfl (by kernel_rfl) (fun _ _ _ h => h) (Or.inl ⟨by kernel_rfl, ?_⟩) hHeld ?_
            rotate_left
            · intro w hSw; (try dsimp only at hSw); have z2 := Blk.cell hSw.1 6 (.int .i64 n2) rfl; clear hSw; go_simp; (try with_reducible rfl)
            simp only [Act.put, List.setIfInBounds_toArray, List.set_cons_zero, List.set_cons_succ]
            refine wpK_one (i := 7) (by kernel_rfl) rfl (fun K' hK => ?_)
            go_simp
            refine (accesses_owns HT.out.owns).mono ?_
            rintro _ wq ⟨rfl, hk⟩
            refine hK.out _ _ (fun _ => ⟨Blk.kp hHeld.1 hk (fun h => h), Blk.kp hHeld.2 hk (fun h => h)⟩) (fun hHeld' => ?_)
            have hHeld := hHeld' (by decide)
            clear hHeld' hK K'
            replace HT := Lib.hid (HT.out.tell hk)
            replace HP := Lib.hid (fun k h => HP.out k (Nat.le_trans hk.size h))
            replace KL := Lib.hid (KL.out.trans (hk.mono (fun _ _ h => h.elim)))
            clear hk
            refine wpK_take (i := 12) (v := ?_) rfl (by kernel_rfl) (fun _ _ _ h => h) (Or.inl ⟨by kernel_rfl, ?_⟩) hHeld ?_
            rotate_left
            · intro w hSw; (try dsimp only at hSw); have z2 := Blk.cell hSw.1 6 (.int .i64 n2) rfl; clear hSw; go_simp; (try with_reducible rfl)
            simp only [Act.put, List.setIfInBounds_toArray, List.set_cons_zero, List.set_cons_succ]
            refine wpK_take (i := 13) (v := ?_) rfl (by kernel_rfl) (fun _ _ _ h => h) (Or.inl ⟨by kernel_rfl, ?_⟩) hHeld ?_
            rotate_left
            · intro w hSw; (try dsimp only at hSw); have z2 := Blk.cell hSw.1 6 (.int .i64 n2) rfl; clear hSw; go_simp; (try with_reducible rfl)
            simp only [Act.put, List.setIfInBounds_toArray, List.set_cons_zero, List.set_cons_succ]
            refine wpK_done (by kernel_rfl) ?_ _
            clear hHeld
            have HZ := Lib.hid hl2m
            have HFW := Lib.hid (show Few (2 * ((i + 1 : Nat) : Int)) l2 from fun s hs => by have := FEW.out s hs; omega)
            obtain ⟨lz, hlz⟩ : ∃ lz, lz = l2 := ⟨_, rfl⟩
            subst hlz
            go_wp2_with fail
            refine (all_owns HT.out.owns (by rw [HT.out.owns.len]; show lz.length ≤ 100000; rw [HZ.out]; omega)).mono ?_
            rintro _ wy ⟨vy, rfl, hr, hnw, hk⟩
            have hl1 : bs.length = m := by rw [HT.out.owns.len]; exact HZ.out
            rw [hl1] at hr
            obtain ⟨gy, gc, rfl⟩ := row_form hr
            replace HT := Lib.hid (HT.out.tell hk)
            replace KL := Lib.hid (KL.out.trans (hk.mono (fun _ _ h => h.elim)))
            have HRY := Lib.hid hr
            obtain ⟨ev, lv, hbb, hrw, hbl⟩ := HT.out.rcells
            have hl2 : bs'.length = m := by rw [hbl]; exact HZ.out
            rw [hl2] at hrw
            obtain ⟨lo, lc, rfl⟩ := row_form hrw
            have c5 := Blk.cell hbb 5 (.slice lo m lc) rfl
            have hbbl := hbb.lt
            have HL1 := Lib.hid hl1; have HL2 := Lib.hid hl2
            clear hk hr hnw hbb hrw hbl hl1 hl2
            go_wp2_with fail
            clear c5
            go_loopw [133] (fun iv wr => ∃ j : Nat, iv = .int .i64 j ∧ j ≤ m ∧ Kp (fun _ => False) wy wr) (fun iv _ => m - (intOf iv).toNat)
            case atStart => exact ⟨0, rfl, by omega, Kp.refl _ _⟩
            case round =>
              obtain ⟨j, rfl, hj, ky⟩ := hrel
              by_cases hlt3 : (j : Int) < m
              · have hl1 := HL1.out
                have hl2 := HL2.out
                have hjl : j < lz.length := by rw [HZ.out]; omega
                have hry := row_kp HRY.out ky (fun _ _ h => h)
                obtain ⟨gz, gcz, hga⟩ := row_some hry (by omega)
                simp only [Value.slice.injEq] at hga
                obtain ⟨rfl, _, rfl⟩ := hga
                have d0 := (World.ownsRow.cellAt hry j (by omega)).trans (ptrs_at bs j (by omega))
                have hgy := (hry.lt gz rfl).2
                have HT3 := Lib.hid (HT.out.tell ky)
                obtain ⟨ev, lv, hbb, hrw, hbl⟩ := HT3.out.rcells
                rw [hl2] at hrw
                obtain ⟨go, lc, rfl⟩ := row_some hrw (by omega)
                have c5 := Blk.cell hbb 5 (.slice (some ⟨go, 0, none⟩) m lc) rfl
                have d1 := (World.ownsRow.cellAt hrw j (by omega)).trans (ptrs_at bs' j (by omega))
                have hgo := (hrw.lt go rfl).2
                have hbbl := hbb.lt
                have o1 := HT3.out.owns.site (i := j) hjl
                obtain ⟨ao, ac, o2⟩ := HT3.out.rsite (i := j) hjl
                dsimp only at o1 o2
                have hlb2 := o2.lt
                generalize lz[j] = s at *
                generalize hb1 : bs.getD j 0 = b1 at *
                generalize hb2 : bs'.getD j 0 = b2 at *
                have O1 := Lib.hid o1; have O2 := Lib.hid o2; have KY := Lib.hid ky
                clear hb1 hb2 o1 o2 ky hry hbb hrw hbl hl1 hl2 HT3
                go_wp2_with fail
                refine wp_region_K (S := fun w' => Blk w' b2 46 (s.cells (.slice ao s.l.length ac))) (K := 44) (by kernel_rfl) ?_
                have hHeld : (fun w' => Blk w' b2 46 (s.cells (.slice ao s.l.length ac))) (World.drew _) := O2.out.drew
                replace O1 := Lib.hid (own_tell O1.out (Kp.refl _ _).drew)
                replace KY := Lib.hid KY.out.drew
                refine wpK_take (i := 0) (v := ?_) rfl (by kernel_rfl) (fun _ _ _ h => h) (Or.inl ⟨by kernel_rfl, ?_⟩) hHeld ?_
                rotate_left
                · intro w hSw; (try dsimp only at hSw); have z3 := Blk.cell hSw 3 (.int .i64 s.state) rfl; have z4 := Blk.cell hSw 4 (.slice ao s.l.length ac) rfl; have z5 := Blk.cell hSw 5 (.int .i64 s.rw) rfl; have z6 := Blk.cell hSw 6 (.int .i64 s.hits) rfl; have z7 := Blk.cell hSw 7 (.int .i64 s.deopts) rfl; clear hSw; go_simp; (try with_reducible rfl)
                simp only [Act.put, List.setIfInBounds_toArray, List.set_cons_zero, List.set_cons_succ]
                refine wpK_take (i := 2) (v := ?_) rfl (by kernel_rfl) (fun _ _ _ h => h) (Or.inl ⟨by kernel_rfl, ?_⟩) hHeld ?_
                rotate_left
                · intro w hSw; (try dsimp only at hSw); have z3 := Blk.cell hSw 3 (.int .i64 s.state) rfl; have z4 := Blk.cell hSw 4 (.slice ao s.l.length ac) rfl; have z5 := Blk.cell hSw 5 (.int .i64 s.rw) rfl; have z6 := Blk.cell hSw 6 (.int .i64 s.hits) rfl; have z7 := Blk.cell hSw 7 (.int .i64 s.deopts) rfl; clear hSw; go_simp; (try with_reducible rfl)
                simp only [Act.put, List.setIfInBounds_toArray, List.set_cons_zero, List.set_cons_succ]
                refine wpK_take (i := 3) (v := ?_) rfl (by kernel_rfl) (fun _ _ _ h => h) (Or.inl ⟨by kernel_rfl, ?_⟩) hHeld ?_
                rotate_left
                · intro w hSw; (try dsimp only at hSw); have z3 := Blk.cell hSw 3 (.int .i64 s.state) rfl; have z4 := Blk.cell hSw 4 (.slice ao s.l.length ac) rfl; have z5 := Blk.cell hSw 5 (.int .i64 s.rw) rfl; have z6 := Blk.cell hSw 6 (.int .i64 s.hits) rfl; have z7 := Blk.cell hSw 7 (.int .i64 s.deopts) rfl; clear hSw; go_simp; (try with_reducible rfl)
                simp only [Act.put, List.setIfInBounds_toArray, List.set_cons_zero, List.set_cons_succ]
                refine wpK_take (i := 4) (v := ?_) rfl (by kernel_rfl) (fun _ _ _ h => h) (Or.inl ⟨by kernel_rfl, ?_⟩) hHeld ?_
                rotate_left
                · intro w hSw; (try dsimp only at hSw); have z3 := Blk.cell hSw 3 (.int .i64 s.state) rfl; have z4 := Blk.cell hSw 4 (.slice ao s.l.length ac) rfl; have z5 := Blk.cell hSw 5 (.int .i64 s.rw) rfl; have z6 := Blk.cell hSw 6 (.int .i64 s.hits) rfl; have z7 := Blk.cell hSw 7 (.int .i64 s.deopts) rfl; clear hSw; go_simp; (try with_reducible rfl)
                simp only [Act.put, List.setIfInBounds_toArray, List.set_cons_zero, List.set_cons_succ]
                refine wpK_take (i := 5) (v := ?_) rfl (by kernel_rfl) (fun _ _ _ h => h) (Or.inl ⟨by kernel_rfl, ?_⟩) hHeld ?_
                rotate_left
                · intro w hSw; (try dsimp only at hSw); have z3 := Blk.cell hSw 3 (.int .i64 s.state) rfl; have z4 := Blk.cell hSw 4 (.slice ao s.l.length ac) rfl; have z5 := Blk.cell hSw 5 (.int .i64 s.rw) rfl; have z6 := Blk.cell hSw 6 (.int .i64 s.hits) rfl; have z7 := Blk.cell hSw 7 (.int .i64 s.deopts) rfl; clear hSw; go_simp; (try with_reducible rfl)
                simp only [Act.put, List.setIfInBounds_toArray, List.set_cons_zero, List.set_cons_succ]
                refine wpK_one (i := 1) (by kernel_rfl) rfl (fun K' hK => ?_)
                go_simp
                refine (state_own O1.out).mono ?_
                rintro _ wt ⟨rfl, hk⟩
                refine hK.out _ _ (fun _ => Blk.kp hHeld hk (fun h => h)) (fun hHeld' => ?_)
                have hHeld := hHeld' (by decide)
                clear hHeld' hK K'
                replace O1 := Lib.hid (own_tell O1.out hk)
                replace KY := Lib.hid (KY.out.trans hk)
                clear hk
                refine wpK_take (i := 6) (v := ?_) rfl (by kernel_rfl) (fun _ _ _ h => h) (Or.inl ⟨by kernel_rfl, ?_⟩) hHeld ?_
                rotate_left
                · intro w hSw; (try dsimp only at hSw); have z3 := Blk.cell hSw 3 (.int .i64 s.state) rfl; have z4 := Blk.cell hSw 4 (.slice ao s.l.length ac) rfl; have z5 := Blk.cell hSw 5 (.int .i64 s.rw) rfl; have z6 := Blk.cell hSw 6 (.int .i64 s.hits) rfl; have z7 := Blk.cell hSw 7 (.int .i64 s.deopts) rfl; clear hSw; go_simp; (try with_reducible rfl)
                simp only [Act.put, List.setIfInBounds_toArray, List.set_cons_zero, List.set_cons_succ]
                refine wpK_take (i := 7) (v := ?_) rfl (by kernel_rfl) (fun _ _ _ h => h) (Or.inl ⟨by kernel_rfl, ?_⟩) hHeld ?_
                rotate_left
                · intro w hSw; (try dsimp only at hSw); have z3 := Blk.cell hSw 3 (.int .i64 s.state) rfl; have z4 := Blk.cell hSw 4 (.slice ao s.l.length ac) rfl; have z5 := Blk.cell hSw 5 (.int .i64 s.rw) rfl; have z6 := Blk.cell hSw 6 (.int .i64 s.hits) rfl; have z7 := Blk.cell hSw 7 (.int .i64 s.deopts) rfl; clear hSw; go_simp; (try with_reducible rfl)
                simp only [Act.put, List.setIfInBounds_toArray, List.set_cons_zero, List.set_cons_succ]
                refine wpK_take (i := 8) (v := ?_) rfl (by kernel_rfl) (fun _ _ _ h => h) (Or.inl ⟨by kernel_rfl, ?_⟩) hHeld ?_
                rotate_left
                · intro w hSw; (try dsimp only at hSw); have z3 := Blk.cell hSw 3 (.int .i64 s.state) rfl; have z4 := Blk.cell hSw 4 (.slice ao s.l.length ac) rfl; have z5 := Blk.cell hSw 5 (.int .i64 s.rw) rfl; have z6 := Blk.cell hSw 6 (.int .i64 s.hits) rfl; have z7 := Blk.cell hSw 7 (.int .i64 s.deopts) rfl; clear hSw; go_simp; (try with_reducible rfl)
                simp only [Act.put, List.setIfInBounds_toArray, List.set_cons_zero, List.set_cons_succ]
                refine wpK_take (i := 10) (v := ?_) rfl (by kernel_rfl) (fun _ _ _ h => h) (Or.inl ⟨by kernel_rfl, ?_⟩) hHeld ?_
                rotate_left
                · intro w hSw; (try dsimp only at hSw); have z3 := Blk.cell hSw 3 (.int .i64 s.state) rfl; have z4 := Blk.cell hSw 4 (.slice ao s.l.length ac) rfl; have z5 := Blk.cell hSw 5 (.int .i64 s.rw) rfl; have z6 := Blk.cell hSw 6 (.int .i64 s.hits) rfl; have z7 := Blk.cell hSw 7 (.int .i64 s.deopts) rfl; clear hSw; go_simp; (try with_reducible rfl)
                simp only [Act.put, List.setIfInBounds_toArray, List.set_cons_zero, List.set_cons_succ]
                refine wpK_take (i := 11) (v := ?_) rfl (by kernel_rfl) (fun _ _ _ h => h) (Or.inl ⟨by kernel_rfl, ?_⟩) hHeld ?_
                rotate_left
                · intro w hSw; (try dsimp only at hSw); have z3 := Blk.cell hSw 3 (.int .i64 s.state) rfl; have z4 := Blk.cell hSw 4 (.slice ao s.l.length ac) rfl; have z5 := Blk.cell hSw 5 (.int .i64 s.rw) rfl; have z6 := Blk.cell hSw 6 (.int .i64 s.hits) rfl; have z7 := Blk.cell hSw 7 (.int .i64 s.deopts) rfl; clear hSw; go_simp; (try with_reducible rfl)
                simp only [Act.put, List.setIfInBounds_toArray, List.set_cons_zero, List.set_cons_succ]
                refine wpK_take (i := 12) (v := ?_) rfl (by kernel_rfl) (fun _ _ _ h => h) (Or.inl ⟨by kernel_rfl, ?_⟩) hHeld ?_
                rotate_left
                · intro w hSw; (try dsimp only at hSw); have z3 := Blk.cell hSw 3 (.int .i64 s.state) rfl; have z4 := Blk.cell hSw 4 (.slice ao s.l.length ac) rfl; have z5 := Blk.cell hSw 5 (.int .i64 s.rw) rfl; have z6 := Blk.cell hSw 6 (.int .i64 s.hits) rfl; have z7 := Blk.cell hSw 7 (.int .i64 s.deopts) rfl; clear hSw; go_simp; (try with_reducible rfl)
                simp only [Act.put, List.setIfInBounds_toArray, List.set_cons_zero, List.set_cons_succ]
                refine wpK_take (i := 13) (v := ?_) rfl (by kernel_rfl) (fun _ _ _ h => h) (Or.inl ⟨by kernel_rfl, ?_⟩) hHeld ?_
                rotate_left
                · intro w hSw; (try dsimp only at hSw); have z3 := Blk.cell hSw 3 (.int .i64 s.state) rfl; have z4 := Blk.cell hSw 4 (.slice ao s.l.length ac) rfl; have z5 := Blk.cell hSw 5 (.int .i64 s.rw) rfl; have z6 := Blk.cell hSw 6 (.int .i64 s.hits) rfl; have z7 := Blk.cell hSw 7 (.int .i64 s.deopts) rfl; clear hSw; go_simp; (try with_reducible rfl)
                simp only [Act.put, List.setIfInBounds_toArray, List.set_cons_zero, List.set_cons_succ]
                refine wpK_take (i := 14) (v := ?_) rfl (by kernel_rfl) (fun _ _ _ h => h) (Or.inl ⟨by kernel_rfl, ?_⟩) hHeld ?_
                rotate_left
                · intro w hSw; (try dsimp only at hSw); have z3 := Blk.cell hSw 3 (.int .i64 s.state) rfl; have z4 := Blk.cell hSw 4 (.slice ao s.l.length ac) rfl; have z5 := Blk.cell hSw 5 (.int .i64 s.rw) rfl; have z6 := Blk.cell hSw 6 (.int .i64 s.hits) rfl; have z7 := Blk.cell hSw 7 (.int .i64 s.deopts) rfl; clear hSw; go_simp; (try with_reducible rfl)
                simp only [Act.put, List.setIfInBounds_toArray, List.set_cons_zero, List.set_cons_succ]
                refine wpK_one (i := 9) (by kernel_rfl) rfl (fun K' hK => ?_)
                go_simp
                refine (len_own O1.out).mono ?_
                rintro _ wt ⟨rfl, hk⟩
                refine hK.out _ _ (fun _ => Blk.kp hHeld hk (fun h => h)) (fun hHeld' => ?_)
                have hHeld := hHeld' (by decide)
                clear hHeld' hK K'
                replace O1 := Lib.hid (own_tell O1.out hk)
                replace KY := Lib.hid (KY.out.trans hk)
                clear hk
                refine wpK_take (i := 15) (v := ?_) rfl (by kernel_rfl) (fun _ _ _ h => h) (Or.inl ⟨by kernel_rfl, ?_⟩) hHeld ?_
                rotate_left
                · intro w hSw; (try dsimp only at hSw); have z3 := Blk.cell hSw 3 (.int .i64 s.state) rfl; have z4 := Blk.cell hSw 4 (.slice ao s.l.length ac) rfl; have z5 := Blk.cell hSw 5 (.int .i64 s.rw) rfl; have z6 := Blk.cell hSw 6 (.int .i64 s.hits) rfl; have z7 := Blk.cell hSw 7 (.int .i64 s.deopts) rfl; clear hSw; go_simp; (try with_reducible rfl)
                simp only [Act.put, List.setIfInBounds_toArray, List.set_cons_zero, List.set_cons_succ]
                refine wpK_take (i := 16) (v := ?_) rfl (by kernel_rfl) (fun _ _ _ h => h) (Or.inl ⟨by kernel_rfl, ?_⟩) hHeld ?_
                rotate_left
                · intro w hSw; (try dsimp only at hSw); have z3 := Blk.cell hSw 3 (.int .i64 s.state) rfl; have z4 := Blk.cell hSw 4 (.slice ao s.l.length ac) rfl; have z5 := Blk.cell hSw 5 (.int .i64 s.rw) rfl; have z6 := Blk.cell hSw 6 (.int .i64 s.hits) rfl; have z7 := Blk.cell hSw 7 (.int .i64 s.deopts) rfl; clear hSw; go_simp; (try with_reducible rfl)
                simp only [Act.put, List.setIfInBounds_toArray, List.set_cons_zero, List.set_cons_succ]
                refine wpK_take (i := 17) (v := ?_) rfl (by kernel_rfl) (fun _ _ _ h => h) (Or.inl ⟨by kernel_rfl, ?_⟩) hHeld ?_
                rotate_left
                · intro w hSw; (try dsimp only at hSw); have z3 := Blk.cell hSw 3 (.int .i64 s.state) rfl; have z4 := Blk.cell hSw 4 (.slice ao s.l.length ac) rfl; have z5 := Blk.cell hSw 5 (.int .i64 s.rw) rfl; have z6 := Blk.cell hSw 6 (.int .i64 s.hits) rfl; have z7 := Blk.cell hSw 7 (.int .i64 s.deopts) rfl; clear hSw; go_simp; (try with_reducible rfl)
                simp only [Act.put, List.setIfInBounds_toArray, List.set_cons_zero, List.set_cons_succ]
                refine wpK_take (i := 18) (v := ?_) rfl (by kernel_rfl) (fun _ _ _ h => h) (Or.inl ⟨by kernel_rfl, ?_⟩) hHeld ?_
                rotate_left
                · intro w hSw; (try dsimp only at hSw); have z3 := Blk.cell hSw 3 (.int .i64 s.state) rfl; have z4 := Blk.cell hSw 4 (.slice ao s.l.length ac) rfl; have z5 := Blk.cell hSw 5 (.int .i64 s.rw) rfl; have z6 := Blk.cell hSw 6 (.int .i64 s.hits) rfl; have z7 := Blk.cell hSw 7 (.int .i64 s.deopts) rfl; clear hSw; go_simp; (try with_reducible rfl)
                simp only [Act.put, List.setIfInBounds_toArray, List.set_cons_zero, List.set_cons_succ]
                refine wpK_take (i := 20) (v := ?_) rfl (by kernel_rfl) (fun _ _ _ h => h) (Or.inl ⟨by kernel_rfl, ?_⟩) hHeld ?_
                rotate_left
                · intro w hSw; (try dsimp only at hSw); have z3 := Blk.cell hSw 3 (.int .i64 s.state) rfl; have z4 := Blk.cell hSw 4 (.slice ao s.l.length ac) rfl; have z5 := Blk.cell hSw 5 (.int .i64 s.rw) rfl; have z6 := Blk.cell hSw 6 (.int .i64 s.hits) rfl; have z7 := Blk.cell hSw 7 (.int .i64 s.deopts) rfl; clear hSw; go_simp; (try with_reducible rfl)
                simp only [Act.put, List.setIfInBounds_toArray, List.set_cons_zero, List.set_cons_succ]
                refine wpK_take (i := 21) (v := ?_) rfl (by kernel_rfl) (fun _ _ _ h => h) (Or.inl ⟨by kernel_rfl, ?_⟩) hHeld ?_
                rotate_left
                · intro w hSw; (try dsimp only at hSw); have z3 := Blk.cell hSw 3 (.int .i64 s.state) rfl; have z4 := Blk.cell hSw 4 (.slice ao s.l.length ac) rfl; have z5 := Blk.cell hSw 5 (.int .i64 s.rw) rfl; have z6 := Blk.cell hSw 6 (.int .i64 s.hits) rfl; have z7 := Blk.cell hSw 7 (.int .i64 s.deopts) rfl; clear hSw; go_simp; (try with_reducible rfl)
                simp only [Act.put, List.setIfInBounds_toArray, List.set_cons_zero, List.set_cons_succ]
                refine wpK_take (i := 22) (v := ?_) rfl (by kernel_rfl) (fun _ _ _ h => h) (Or.inl ⟨by kernel_rfl, ?_⟩) hHeld ?_
                rotate_left
                · intro w hSw; (try dsimp only at hSw); have z3 := Blk.cell hSw 3 (.int .i64 s.state) rfl; have z4 := Blk.cell hSw 4 (.slice ao s.l.length ac) rfl; have z5 := Blk.cell hSw 5 (.int .i64 s.rw) rfl; have z6 := Blk.cell hSw 6 (.int .i64 s.hits) rfl; have z7 := Blk.cell hSw 7 (.int .i64 s.deopts) rfl; clear hSw; go_simp; (try with_reducible rfl)
                simp only [Act.put, List.setIfInBounds_toArray, List.set_cons_zero, List.set_cons_succ]
                refine wpK_take (i := 23) (v := ?_) rfl (by kernel_rfl) (fun _ _ _ h => h) (Or.inl ⟨by kernel_rfl, ?_⟩) hHeld ?_
                rotate_left
                · intro w hSw; (try dsimp only at hSw); have z3 := Blk.cell hSw 3 (.int .i64 s.state) rfl; have z4 := Blk.cell hSw 4 (.slice ao s.l.length ac) rfl; have z5 := Blk.cell hSw 5 (.int .i64 s.rw) rfl; have z6 := Blk.cell hSw 6 (.int .i64 s.hits) rfl; have z7 := Blk.cell hSw 7 (.int .i64 s.deopts) rfl; clear hSw; go_simp; (try with_reducible rfl)
                simp only [Act.put, List.setIfInBounds_toArray, List.set_cons_zero, List.set_cons_succ]
                refine wpK_one (i := 19) (by kernel_rfl) rfl (fun K' hK => ?_)
                go_simp
                refine (rewrites_own O1.out).mono ?_
                rintro _ wt ⟨rfl, hk⟩
                refine hK.out _ _ (fun _ => Blk.kp hHeld hk (fun h => h)) (fun hHeld' => ?_)
                have hHeld := hHeld' (by decide)
                clear hHeld' hK K'
                replace O1 := Lib.hid (own_tell O1.out hk)
                replace KY := Lib.hid (KY.out.trans hk)
                clear hk
                refine wpK_take (i := 24) (v := ?_) rfl (by kernel_rfl) (fun _ _ _ h => h) (Or.inl ⟨by kernel_rfl, ?_⟩) hHeld ?_
                rotate_left
                · intro w hSw; (try dsimp only at hSw); have z3 := Blk.cell hSw 3 (.int .i64 s.state) rfl; have z4 := Blk.cell hSw 4 (.slice ao s.l.length ac) rfl; have z5 := Blk.cell hSw 5 (.int .i64 s.rw) rfl; have z6 := Blk.cell hSw 6 (.int .i64 s.hits) rfl; have z7 := Blk.cell hSw 7 (.int .i64 s.deopts) rfl; clear hSw; go_simp; (try with_reducible rfl)
                simp only [Act.put, List.setIfInBounds_toArray, List.set_cons_zero, List.set_cons_succ]
                refine wpK_take (i := 25) (v := ?_) rfl (by kernel_rfl) (fun _ _ _ h => h) (Or.inl ⟨by kernel_rfl, ?_⟩) hHeld ?_
                rotate_left
                · intro w hSw; (try dsimp only at hSw); have z3 := Blk.cell hSw 3 (.int .i64 s.state) rfl; have z4 := Blk.cell hSw 4 (.slice ao s.l.length ac) rfl; have z5 := Blk.cell hSw 5 (.int .i64 s.rw) rfl; have z6 := Blk.cell hSw 6 (.int .i64 s.hits) rfl; have z7 := Blk.cell hSw 7 (.int .i64 s.deopts) rfl; clear hSw; go_simp; (try with_reducible rfl)
                simp only [Act.put, List.setIfInBounds_toArray, List.set_cons_zero, List.set_cons_succ]
                refine wpK_take (i := 26) (v := ?_) rfl (by kernel_rfl) (fun _ _ _ h => h) (Or.inl ⟨by kernel_rfl, ?_⟩) hHeld ?_
                rotate_left
                · intro w hSw; (try dsimp only at hSw); have z3 := Blk.cell hSw 3 (.int .i64 s.state) rfl; have z4 := Blk.cell hSw 4 (.slice ao s.l.length ac) rfl; have z5 := Blk.cell hSw 5 (.int .i64 s.rw) rfl; have z6 := Blk.cell hSw 6 (.int .i64 s.hits) rfl; have z7 := Blk.cell hSw 7 (.int .i64 s.deopts) rfl; clear hSw; go_simp; (try with_reducible rfl)
                simp only [Act.put, List.setIfInBounds_toArray, List.set_cons_zero, List.set_cons_succ]
                refine wpK_take (i := 27) (v := ?_) rfl (by kernel_rfl) (fun _ _ _ h => h) (Or.inl ⟨by kernel_rfl, ?_⟩) hHeld ?_
                rotate_left
                · intro w hSw; (try dsimp only at hSw); have z3 := Blk.cell hSw 3 (.int .i64 s.state) rfl; have z4 := Blk.cell hSw 4 (.slice ao s.l.length ac) rfl; have z5 := Blk.cell hSw 5 (.int .i64 s.rw) rfl; have z6 := Blk.cell hSw 6 (.int .i64 s.hits) rfl; have z7 := Blk.cell hSw 7 (.int .i64 s.deopts) rfl; clear hSw; go_simp; (try with_reducible rfl)
                simp only [Act.put, List.setIfInBounds_toArray, List.set_cons_zero, List.set_cons_succ]
                refine wpK_take (i := 29) (v := ?_) rfl (by kernel_rfl) (fun _ _ _ h => h) (Or.inl ⟨by kernel_rfl, ?_⟩) hHeld ?_
                rotate_left
                · intro w hSw; (try dsimp only at hSw); have z3 := Blk.cell hSw 3 (.int .i64 s.state) rfl; have z4 := Blk.cell hSw 4 (.slice ao s.l.length ac) rfl; have z5 := Blk.cell hSw 5 (.int .i64 s.rw) rfl; have z6 := Blk.cell hSw 6 (.int .i64 s.hits) rfl; have z7 := Blk.cell hSw 7 (.int .i64 s.deopts) rfl; clear hSw; go_simp; (try with_reducible rfl)
                simp only [Act.put, List.setIfInBounds_toArray, List.set_cons_zero, List.set_cons_succ]
                refine wpK_take (i := 30) (v := ?_) rfl (by kernel_rfl) (fun _ _ _ h => h) (Or.inl ⟨by kernel_rfl, ?_⟩) hHeld ?_
                rotate_left
                · intro w hSw; (try dsimp only at hSw); have z3 := Blk.cell hSw 3 (.int .i64 s.state) rfl; have z4 := Blk.cell hSw 4 (.slice ao s.l.length ac) rfl; have z5 := Blk.cell hSw 5 (.int .i64 s.rw) rfl; have z6 := Blk.cell hSw 6 (.int .i64 s.hits) rfl; have z7 := Blk.cell hSw 7 (.int .i64 s.deopts) rfl; clear hSw; go_simp; (try with_reducible rfl)
                simp only [Act.put, List.setIfInBounds_toArray, List.set_cons_zero, List.set_cons_succ]
                refine wpK_take (i := 31) (v := ?_) rfl (by kernel_rfl) (fun _ _ _ h => h) (Or.inl ⟨by kernel_rfl, ?_⟩) hHeld ?_
                rotate_left
                · intro w hSw; (try dsimp only at hSw); have z3 := Blk.cell hSw 3 (.int .i64 s.state) rfl; have z4 := Blk.cell hSw 4 (.slice ao s.l.length ac) rfl; have z5 := Blk.cell hSw 5 (.int .i64 s.rw) rfl; have z6 := Blk.cell hSw 6 (.int .i64 s.hits) rfl; have z7 := Blk.cell hSw 7 (.int .i64 s.deopts) rfl; clear hSw; go_simp; (try with_reducible rfl)
                simp only [Act.put, List.setIfInBounds_toArray, List.set_cons_zero, List.set_cons_succ]
                refine wpK_take (i := 32) (v := ?_) rfl (by kernel_rfl) (fun _ _ _ h => h) (Or.inl ⟨by kernel_rfl, ?_⟩) hHeld ?_
                rotate_left
                · intro w hSw; (try dsimp only at hSw); have z3 := Blk.cell hSw 3 (.int .i64 s.state) rfl; have z4 := Blk.cell hSw 4 (.slice ao s.l.length ac) rfl; have z5 := Blk.cell hSw 5 (.int .i64 s.rw) rfl; have z6 := Blk.cell hSw 6 (.int .i64 s.hits) rfl; have z7 := Blk.cell hSw 7 (.int .i64 s.deopts) rfl; clear hSw; go_simp; (try with_reducible rfl)
                simp only [Act.put, List.setIfInBounds_toArray, List.set_cons_zero, List.set_cons_succ]
                refine wpK_one (i := 28) (by kernel_rfl) rfl (fun K' hK => ?_)
                go_simp
                refine (hits_own O1.out).mono ?_
                rintro _ wt ⟨rfl, hk⟩
                refine hK.out _ _ (fun _ => Blk.kp hHeld hk (fun h => h)) (fun hHeld' => ?_)
                have hHeld := hHeld' (by decide)
                clear hHeld' hK K'
                replace O1 := Lib.hid (own_tell O1.out hk)
                replace KY := Lib.hid (KY.out.trans hk)
                clear hk
                refine wpK_take (i := 33) (v := ?_) rfl (by kernel_rfl) (fun _ _ _ h => h) (Or.inl ⟨by kernel_rfl, ?_⟩) hHeld ?_
                rotate_left
                · intro w hSw; (try dsimp only at hSw); have z3 := Blk.cell hSw 3 (.int .i64 s.state) rfl; have z4 := Blk.cell hSw 4 (.slice ao s.l.length ac) rfl; have z5 := Blk.cell hSw 5 (.int .i64 s.rw) rfl; have z6 := Blk.cell hSw 6 (.int .i64 s.hits) rfl; have z7 := Blk.cell hSw 7 (.int .i64 s.deopts) rfl; clear hSw; go_simp; (try with_reducible rfl)
                simp only [Act.put, List.setIfInBounds_toArray, List.set_cons_zero, List.set_cons_succ]
                refine wpK_take (i := 34) (v := ?_) rfl (by kernel_rfl) (fun _ _ _ h => h) (Or.inl ⟨by kernel_rfl, ?_⟩) hHeld ?_
                rotate_left
                · intro w hSw; (try dsimp only at hSw); have z3 := Blk.cell hSw 3 (.int .i64 s.state) rfl; have z4 := Blk.cell hSw 4 (.slice ao s.l.length ac) rfl; have z5 := Blk.cell hSw 5 (.int .i64 s.rw) rfl; have z6 := Blk.cell hSw 6 (.int .i64 s.hits) rfl; have z7 := Blk.cell hSw 7 (.int .i64 s.deopts) rfl; clear hSw; go_simp; (try with_reducible rfl)
                simp only [Act.put, List.setIfInBounds_toArray, List.set_cons_zero, List.set_cons_succ]
                refine wpK_take (i := 35) (v := ?_) rfl (by kernel_rfl) (fun _ _ _ h => h) (Or.inl ⟨by kernel_rfl, ?_⟩) hHeld ?_
                rotate_left
                · intro w hSw; (try dsimp only at hSw); have z3 := Blk.cell hSw 3 (.int .i64 s.state) rfl; have z4 := Blk.cell hSw 4 (.slice ao s.l.length ac) rfl; have z5 := Blk.cell hSw 5 (.int .i64 s.rw) rfl; have z6 := Blk.cell hSw 6 (.int .i64 s.hits) rfl; have z7 := Blk.cell hSw 7 (.int .i64 s.deopts) rfl; clear hSw; go_simp; (try with_reducible rfl)
                simp only [Act.put, List.setIfInBounds_toArray, List.set_cons_zero, List.set_cons_succ]
                refine wpK_take (i := 36) (v := ?_) rfl (by kernel_rfl) (fun _ _ _ h => h) (Or.inl ⟨by kernel_rfl, ?_⟩) hHeld ?_
                rotate_left
                · intro w hSw; (try dsimp only at hSw); have z3 := Blk.cell hSw 3 (.int .i64 s.state) rfl; have z4 := Blk.cell hSw 4 (.slice ao s.l.length ac) rfl; have z5 := Blk.cell hSw 5 (.int .i64 s.rw) rfl; have z6 := Blk.cell hSw 6 (.int .i64 s.hits) rfl; have z7 := Blk.cell hSw 7 (.int .i64 s.deopts) rfl; clear hSw; go_simp; (try with_reducible rfl)
                simp only [Act.put, List.setIfInBounds_toArray, List.set_cons_zero, List.set_cons_succ]
                refine wpK_take (i := 38) (v := ?_) rfl (by kernel_rfl) (fun _ _ _ h => h) (Or.inl ⟨by kernel_rfl, ?_⟩) hHeld ?_
                rotate_left
                · intro w hSw; (try dsimp only at hSw); have z3 := Blk.cell hSw 3 (.int .i64 s.state) rfl; have z4 := Blk.cell hSw 4 (.slice ao s.l.length ac) rfl; have z5 := Blk.cell hSw 5 (.int .i64 s.rw) rfl; have z6 := Blk.cell hSw 6 (.int .i64 s.hits) rfl; have z7 := Blk.cell hSw 7 (.int .i64 s.deopts) rfl; clear hSw; go_simp; (try with_reducible rfl)
                simp only [Act.put, List.setIfInBounds_toArray, List.set_cons_zero, List.set_cons_succ]
                refine wpK_take (i := 39) (v := ?_) rfl (by kernel_rfl) (fun _ _ _ h => h) (Or.inl ⟨by kernel_rfl, ?_⟩) hHeld ?_
                rotate_left
                · intro w hSw; (try dsimp only at hSw); have z3 := Blk.cell hSw 3 (.int .i64 s.state) rfl; have z4 := Blk.cell hSw 4 (.slice ao s.l.length ac) rfl; have z5 := Blk.cell hSw 5 (.int .i64 s.rw) rfl; have z6 := Blk.cell hSw 6 (.int .i64 s.hits) rfl; have z7 := Blk.cell hSw 7 (.int .i64 s.deopts) rfl; clear hSw; go_simp; (try with_reducible rfl)
                simp only [Act.put, List.setIfInBounds_toArray, List.set_cons_zero, List.set_cons_succ]
                refine wpK_take (i := 40) (v := ?_) rfl (by kernel_rfl) (fun _ _ _ h => h) (Or.inl ⟨by kernel_rfl, ?_⟩) hHeld ?_
                rotate_left
                · intro w hSw; (try dsimp only at hSw); have z3 := Blk.cell hSw 3 (.int .i64 s.state) rfl; have z4 := Blk.cell hSw 4 (.slice ao s.l.length ac) rfl; have z5 := Blk.cell hSw 5 (.int .i64 s.rw) rfl; have z6 := Blk.cell hSw 6 (.int .i64 s.hits) rfl; have z7 := Blk.cell hSw 7 (.int .i64 s.deopts) rfl; clear hSw; go_simp; (try with_reducible rfl)
                simp only [Act.put, List.setIfInBounds_toArray, List.set_cons_zero, List.set_cons_succ]
                refine wpK_take (i := 41) (v := ?_) rfl (by kernel_rfl) (fun _ _ _ h => h) (Or.inl ⟨by kernel_rfl, ?_⟩) hHeld ?_
                rotate_left
                · intro w hSw; (try dsimp only at hSw); have z3 := Blk.cell hSw 3 (.int .i64 s.state) rfl; have z4 := Blk.cell hSw 4 (.slice ao s.l.length ac) rfl; have z5 := Blk.cell hSw 5 (.int .i64 s.rw) rfl; have z6 := Blk.cell hSw 6 (.int .i64 s.hits) rfl; have z7 := Blk.cell hSw 7 (.int .i64 s.deopts) rfl; clear hSw; go_simp; (try with_reducible rfl)
                simp only [Act.put, List.setIfInBounds_toArray, List.set_cons_zero, List.set_cons_succ]
                refine wpK_one (i := 37) (by kernel_rfl) rfl (fun K' hK => ?_)
                go_simp
                refine (deopts_own O1.out).mono ?_
                rintro _ wt ⟨rfl, hk⟩
                refine hK.out _ _ (fun _ => Blk.kp hHeld hk (fun h => h)) (fun hHeld' => ?_)
                have hHeld := hHeld' (by decide)
                clear hHeld' hK K'
                replace O1 := Lib.hid (own_tell O1.out hk)
                replace KY := Lib.hid (KY.out.trans hk)
                clear hk
                refine wpK_take (i := 42) (v := ?_) rfl (by kernel_rfl) (fun _ _ _ h => h) (Or.inl ⟨by kernel_rfl, ?_⟩) hHeld ?_
                rotate_left
                · intro w hSw; (try dsimp only at hSw); have z3 := Blk.cell hSw 3 (.int .i64 s.state) rfl; have z4 := Blk.cell hSw 4 (.slice ao s.l.length ac) rfl; have z5 := Blk.cell hSw 5 (.int .i64 s.rw) rfl; have z6 := Blk.cell hSw 6 (.int .i64 s.hits) rfl; have z7 := Blk.cell hSw 7 (.int .i64 s.deopts) rfl; clear hSw; go_simp; (try with_reducible rfl)
                simp only [Act.put, List.setIfInBounds_toArray, List.set_cons_zero, List.set_cons_succ]
                refine wpK_take (i := 43) (v := ?_) rfl (by kernel_rfl) (fun _ _ _ h => h) (Or.inl ⟨by kernel_rfl, ?_⟩) hHeld ?_
                rotate_left
                · intro w hSw; (try dsimp only at hSw); have z3 := Blk.cell hSw 3 (.int .i64 s.state) rfl; have z4 := Blk.cell hSw 4 (.slice ao s.l.length ac) rfl; have z5 := Blk.cell hSw 5 (.int .i64 s.rw) rfl; have z6 := Blk.cell hSw 6 (.int .i64 s.hits) rfl; have z7 := Blk.cell hSw 7 (.int .i64 s.deopts) rfl; clear hSw; go_simp; (try with_reducible rfl)
                simp only [Act.put, List.setIfInBounds_toArray, List.set_cons_zero, List.set_cons_succ]
                refine wpK_done (by kernel_rfl) ?_ _
                clear hHeld
                go_wp2
                go_roundw
                case rel => exact ⟨j + 1, by go_num, by omega, KY.out⟩
                case measure => simp [intOf]; omega
              · have hfin : Lap (fun k => B ≤ k) w6 p m b bs b' bs' (i + 1) lz n2 wr := ⟨(HT.out.tell ky).mono (fun _ h => h.1), HZ.out, by show 0 ≤ n2; omega, by show n2 ≤ ((i + 1 : Nat) : Int); omega, HFW.out, KL.out.trans (ky.mono (fun _ _ h => h.elim))⟩
                have HFIN := Lib.hid hfin
                clear hfin ky
                go_wp2
                go_roundw
                case rel => exact ⟨i + 1, lz, n2, by go_num, by omega, HFIN.out⟩
                case measure => simp [intOf]; omega
          | true =>
            obtain ⟨j, hj, hj4⟩ := inR_mem hin
            have hjn : id.toNat = j := by omega
            have hin2 := hin
            generalize hbj : bs.getD j 0 = bj
            generalize hbj' : bs'.getD j 0 = bj'
            have HE1 := Lib.hid (show atPtr bs id l.length = .pointer (some ⟨bj, 0, none⟩) by unfold atPtr; rw [hin, hjn, hbj]; rfl)
            have HE2 := Lib.hid (show atPtr bs' id l.length = .pointer (some ⟨bj', 0, none⟩) by unfold atPtr; rw [hin, hjn, hbj']; rfl)
            have HBJ := Lib.hid hbj; have HBJ' := Lib.hid hbj'
            have hj2 : j < l2.length := by omega
            clear hin hin2 hbj hbj' hjn hj
            go_wp2_with fail
            generalize wr.alloc (.cells #[.int .i64 id, .int .i64 sh] 73) = wq at *
            refine wp_region_K (S := fun w' => Blk w' wr.heap.size 73 #[.int .i64 id, .int .i64 sh]) (K := 10) (by kernel_rfl) ?_
            have hHeld : (fun w' => Blk w' wr.heap.size 73 #[.int .i64 id, .int .i64 sh]) (World.drew _) := HX.out.drew
            replace KL := Lib.hid KL.out.drew
            replace HT := Lib.hid (HT.out.tell (Kp.refl _ _).drew)
            replace HP := Lib.hid (show ∀ k, (World.drew wq).heap.size ≤ k → B ≤ k ∧ k ≠ wr.heap.size from fun k hk => HP.out k hk)
            generalize World.drew wq = wq at *
            refine wpK_take (i := 0) (v := ?_) rfl (by kernel_rfl) (fun _ _ _ h => h) (Or.inl ⟨by kernel_rfl, ?_⟩) hHeld ?_
            rotate_left
            · intro w hSw; (try dsimp only at hSw); have y0 := Blk.cell hSw 0 (.int .i64 id) rfl; have y1 := Blk.cell hSw 1 (.int .i64 sh) rfl; clear hSw; go_simp; (try with_reducible rfl)
            simp only [Act.put, List.setIfInBounds_toArray, List.set_cons_zero, List.set_cons_succ]
            refine wpK_take (i := 1) (v := ?_) rfl (by kernel_rfl) (fun _ _ _ h => h) (Or.inl ⟨by kernel_rfl, ?_⟩) hHeld ?_
            rotate_left
            · intro w hSw; (try dsimp only at hSw); have y0 := Blk.cell hSw 0 (.int .i64 id) rfl; have y1 := Blk.cell hSw 1 (.int .i64 sh) rfl; clear hSw; go_simp; (try with_reducible rfl)
            simp only [Act.put, List.setIfInBounds_toArray, List.set_cons_zero, List.set_cons_succ]
            refine wpK_take (i := 2) (v := ?_) rfl (by kernel_rfl) (fun _ _ _ h => h) (Or.inl ⟨by kernel_rfl, ?_⟩) hHeld ?_
            rotate_left
            · intro w hSw; (try dsimp only at hSw); have y0 := Blk.cell hSw 0 (.int .i64 id) rfl; have y1 := Blk.cell hSw 1 (.int .i64 sh) rfl; clear hSw; go_simp; (try with_reducible rfl)
            simp only [Act.put, List.setIfInBounds_toArray, List.set_cons_zero, List.set_cons_succ]
            refine wpK_take (i := 4) (v := ?_) rfl (by kernel_rfl) (fun _ _ _ h => h) (Or.inl ⟨by kernel_rfl, ?_⟩) hHeld ?_
            rotate_left
            · intro w hSw; (try dsimp only at hSw); have y0 := Blk.cell hSw 0 (.int .i64 id) rfl; have y1 := Blk.cell hSw 1 (.int .i64 sh) rfl; clear hSw; go_simp; (try with_reducible rfl)
            simp only [Act.put, List.setIfInBounds_toArray, List.set_cons_zero, List.set_cons_succ]
            refine wpK_take (i := 5) (v := ?_) rfl (by kernel_rfl) (fun _ _ _ h => h) (Or.inl ⟨by kernel_rfl, ?_⟩) hHeld ?_
            rotate_left
            · intro w hSw; (try dsimp only at hSw); have y0 := Blk.cell hSw 0 (.int .i64 id) rfl; have y1 := Blk.cell hSw 1 (.int .i64 sh) rfl; clear hSw; go_simp; (try with_reducible rfl)
            simp only [Act.put, List.setIfInBounds_toArray, List.set_cons_zero, List.set_cons_succ]
            refine wpK_take (i := 6) (v := ?_) rfl (by kernel_rfl) (fun _ _ _ h => h) (Or.inl ⟨by kernel_rfl, ?_⟩) hHeld ?_
            rotate_left
            · intro w hSw; (try dsimp only at hSw); have y0 := Blk.cell hSw 0 (.int .i64 id) rfl; have y1 := Blk.cell hSw 1 (.int .i64 sh) rfl; clear hSw; go_simp; (try with_reducible rfl)
            simp only [Act.put, List.setIfInBounds_toArray, List.set_cons_zero, List.set_cons_succ]
            refine wpK_one (i := 3) (by kernel_rfl) rfl (fun K' hK => ?_)
            go_simp
            refine (at_duo HT.out id HP.out (by simp only [hlen]; omega) hevl ⟨hn0, by show n ≤ 1000000; omega⟩).mono ?_
            simp only [HE1.out, A1.out]
            rintro _ wq ⟨rfl, hT, hk⟩
            refine hK.out _ _ (fun _ => Blk.kp hHeld hk (fun h => h.2 rfl)) (fun hHeld' => ?_)
            have hHeld := hHeld' (by decide)
            clear hHeld' hK K'
            replace HT := Lib.hid hT
            replace HP := Lib.hid (le_of_kp hk HP.out)
            replace KL := Lib.hid (KL.out.trans (hk.mono (fun _ _ h => h.1)))
            clear hT hk
            refine wpK_one (i := 7) (by kernel_rfl) rfl (fun K' hK => ?_)
            go_simp
            refine (rat_duo HT.out id HP.out (by simp only [hlen]; omega) hevl ⟨hn0, by show n ≤ 1000000; omega⟩).mono ?_
            simp only [HE2.out, A1.out]
            rintro _ wq ⟨rfl, hT, hk⟩
            refine hK.out _ _ (fun _ => Blk.kp hHeld hk (fun h => h.2 rfl)) (fun hHeld' => ?_)
            have hHeld := hHeld' (by decide)
            clear hHeld' hK K'
            replace HT := Lib.hid hT
            replace HP := Lib.hid (le_of_kp hk HP.out)
            replace KL := Lib.hid (KL.out.trans (hk.mono (fun _ _ h => h.1)))
            clear hT hk
            refine wpK_take (i := 8) (v := ?_) rfl (by kernel_rfl) (fun _ _ _ h => h) (Or.inl ⟨by kernel_rfl, ?_⟩) hHeld ?_
            rotate_left
            · intro w hSw; (try dsimp only at hSw); have y0 := Blk.cell hSw 0 (.int .i64 id) rfl; have y1 := Blk.cell hSw 1 (.int .i64 sh) rfl; clear hSw; go_simp; (try with_reducible rfl)
            simp only [Act.put, List.setIfInBounds_toArray, List.set_cons_zero, List.set_cons_succ]
            refine wpK_take (i := 9) (v := ?_) rfl (by kernel_rfl) (fun _ _ _ h => h) (Or.inl ⟨by kernel_rfl, ?_⟩) hHeld ?_
            rotate_left
            · intro w hSw; (try dsimp only at hSw); have y0 := Blk.cell hSw 0 (.int .i64 id) rfl; have y1 := Blk.cell hSw 1 (.int .i64 sh) rfl; clear hSw; go_simp; (try with_reducible rfl)
            simp only [Act.put, List.setIfInBounds_toArray, List.set_cons_zero, List.set_cons_succ]
            refine wpK_done (by kernel_rfl) ?_ _
            obtain ⟨ev, lv, hbb, _, _⟩ := HT.out.rcells
            have hbb0 := hbb.lt
            go_wp2_with fail
            refine wp_region_K (S := fun w' => Blk w' b' 85 (Ss.cells ⟨p, l2, n2⟩ ev lv) ∧ Blk w' wr.heap.size 73 #[.int .i64 id, .int .i64 sh]) (K := 14) (by kernel_rfl) ?_
            have hHeld : (fun w' => Blk w' b' 85 (Ss.cells ⟨p, l2, n2⟩ ev lv) ∧ Blk w' wr.heap.size 73 #[.int .i64 id, .int .i64 sh]) (World.drew _) := ⟨hbb.drew, hHeld.drew⟩
            replace KL := Lib.hid KL.out.drew
            replace HT := Lib.hid (HT.out.tell (Kp.refl _ _).drew)
            replace HP := Lib.hid (show ∀ k, (World.drew wq).heap.size ≤ k → B ≤ k ∧ k ≠ wr.heap.size from fun k hk => HP.out k hk)
            clear hbb
            generalize World.drew wq = wq at *
            refine wpK_take (i := 0) (v := ?_) rfl (by kernel_rfl) (fun _ _ _ h => h) (Or.inl ⟨by kernel_rfl, ?_⟩) hHeld ?_
            rotate_left
            · intro w hSw; (try dsimp only at hSw); have z2 := Blk.cell hSw.1 6 (.int .i64 n2) rfl; clear hSw; go_simp; (try with_reducible rfl)
            simp only [Act.put, List.setIfInBounds_toArray, List.set_cons_zero, List.set_cons_succ]
            refine wpK_take (i := 1) (v := ?_) rfl (by kernel_rfl) (fun _ _ _ h => h) (Or.inl ⟨by kernel_rfl, ?_⟩) hHeld ?_
            rotate_left
            · intro w hSw; (try dsimp only at hSw); have z2 := Blk.cell hSw.1 6 (.int .i64 n2) rfl; clear hSw; go_simp; (try with_reducible rfl)
            simp only [Act.put, List.setIfInBounds_toArray, List.set_cons_zero, List.set_cons_succ]
            refine wpK_take (i := 2) (v := ?_) rfl (by kernel_rfl) (fun _ _ _ h => h) (Or.inl ⟨by kernel_rfl, ?_⟩) hHeld ?_
            rotate_left
            · intro w hSw; (try dsimp only at hSw); have z2 := Blk.cell hSw.1 6 (.int .i64 n2) rfl; clear hSw; go_simp; (try with_reducible rfl)
            simp only [Act.put, List.setIfInBounds_toArray, List.set_cons_zero, List.set_cons_succ]
            refine wpK_take (i := 3) (v := ?_) rfl (by kernel_rfl) (fun _ _ _ h => h) (Or.inl ⟨by kernel_rfl, ?_⟩) hHeld ?_
            rotate_left
            · intro w hSw; (try dsimp only at hSw); have z2 := Blk.cell hSw.1 6 (.int .i64 n2) rfl; clear hSw; go_simp; (try with_reducible rfl)
            simp only [Act.put, List.setIfInBounds_toArray, List.set_cons_zero, List.set_cons_succ]
            refine wpK_take (i := 4) (v := ?_) rfl (by kernel_rfl) (fun _ _ _ h => h) (Or.inl ⟨by kernel_rfl, ?_⟩) hHeld ?_
            rotate_left
            · intro w hSw; (try dsimp only at hSw); have z2 := Blk.cell hSw.1 6 (.int .i64 n2) rfl; clear hSw; go_simp; (try with_reducible rfl)
            simp only [Act.put, List.setIfInBounds_toArray, List.set_cons_zero, List.set_cons_succ]
            refine wpK_take (i := 5) (v := ?_) rfl (by kernel_rfl) (fun _ _ _ h => h) (Or.inl ⟨by kernel_rfl, ?_⟩) hHeld ?_
            rotate_left
            · intro w hSw; (try dsimp only at hSw); have z2 := Blk.cell hSw.1 6 (.int .i64 n2) rfl; clear hSw; go_simp; (try with_reducible rfl)
            simp only [Act.put, List.setIfInBounds_toArray, List.set_cons_zero, List.set_cons_succ]
            refine wpK_take (i := 6) (v := ?_) rfl (by kernel_rfl) (fun _ _ _ h => h) (Or.inl ⟨by kernel_rfl, ?_⟩) hHeld ?_
            rotate_left
            · intro w hSw; (try dsimp only at hSw); have z2 := Blk.cell hSw.1 6 (.int .i64 n2) rfl; clear hSw; go_simp; (try with_reducible rfl)
            simp only [Act.put, List.setIfInBounds_toArray, List.set_cons_zero, List.set_cons_succ]
            refine wpK_take (i := 8) (v := ?_) rfl (by kernel_rfl) (fun _ _ _ h => h) (Or.inl ⟨by kernel_rfl, ?_⟩) hHeld ?_
            rotate_left
            · intro w hSw; (try dsimp only at hSw); have z2 := Blk.cell hSw.1 6 (.int .i64 n2) rfl; clear hSw; go_simp; (try with_reducible rfl)
            simp only [Act.put, List.setIfInBounds_toArray, List.set_cons_zero, List.set_cons_succ]
            refine wpK_take (i := 9) (v := ?_) rfl (by kernel_rfl) (fun _ _ _ h => h) (Or.inl ⟨by kernel_rfl, ?_⟩) hHeld ?_
            rotate_left
            · intro w hSw; (try dsimp only at hSw); have z2 := Blk.cell hSw.1 6 (.int .i64 n2) rfl; clear hSw; go_simp; (try with_reducible rfl)
            simp only [Act.put, List.setIfInBounds_toArray, List.set_cons_zero, List.set_cons_succ]
            refine wpK_take (i := 10) (v := ?_) rfl (by kernel_rfl) (fun _ _ _ h => h) (Or.inl ⟨by kernel_rfl, ?_⟩) hHeld ?_
            rotate_left
            · intro w hSw; (try dsimp only at hSw); have z2 := Blk.cell hSw.1 6 (.int .i64 n2) rfl; clear hSw; go_simp; (try with_reducible rfl)
            simp only [Act.put, List.setIfInBounds_toArray, List.set_cons_zero, List.set_cons_succ]
            refine wpK_take (i := 11) (v := ?_) rfl (by kernel_rfl) (fun _ _ _ h => h) (Or.inl ⟨by kernel_rfl, ?_⟩) hHeld ?_
            rotate_left
            · intro w hSw; (try dsimp only at hSw); have z2 := Blk.cell hSw.1 6 (.int .i64 n2) rfl; clear hSw; go_simp; (try with_reducible rfl)
            simp only [Act.put, List.setIfInBounds_toArray, List.set_cons_zero, List.set_cons_succ]
            refine wpK_one (i := 7) (by kernel_rfl) rfl (fun K' hK => ?_)
            go_simp
            refine (accesses_owns HT.out.owns).mono ?_
            rintro _ wq ⟨rfl, hk⟩
            refine hK.out _ _ (fun _ => ⟨Blk.kp hHeld.1 hk (fun h => h), Blk.kp hHeld.2 hk (fun h => h)⟩) (fun hHeld' => ?_)
            have hHeld := hHeld' (by decide)
            clear hHeld' hK K'
            replace HT := Lib.hid (HT.out.tell hk)
            replace HP := Lib.hid (fun k h => HP.out k (Nat.le_trans hk.size h))
            replace KL := Lib.hid (KL.out.trans (hk.mono (fun _ _ h => h.elim)))
            clear hk
            refine wpK_take (i := 12) (v := ?_) rfl (by kernel_rfl) (fun _ _ _ h => h) (Or.inl ⟨by kernel_rfl, ?_⟩) hHeld ?_
            rotate_left
            · intro w hSw; (try dsimp only at hSw); have z2 := Blk.cell hSw.1 6 (.int .i64 n2) rfl; clear hSw; go_simp; (try with_reducible rfl)
            simp only [Act.put, List.setIfInBounds_toArray, List.set_cons_zero, List.set_cons_succ]
            refine wpK_take (i := 13) (v := ?_) rfl (by kernel_rfl) (fun _ _ _ h => h) (Or.inl ⟨by kernel_rfl, ?_⟩) hHeld ?_
            rotate_left
            · intro w hSw; (try dsimp only at hSw); have z2 := Blk.cell hSw.1 6 (.int .i64 n2) rfl; clear hSw; go_simp; (try with_reducible rfl)
            simp only [Act.put, List.setIfInBounds_toArray, List.set_cons_zero, List.set_cons_succ]
            refine wpK_done (by kernel_rfl) ?_ _
            have y1 := Blk.cell hHeld.2 1 (.int .i64 sh) rfl
            have HH := Lib.hid hHeld.2
            clear hHeld
            go_wp2_with fail
            rw [← HBJ.out]
            refine (ask_duo HT.out hj2 sh 1 HP.out (by have := (FEW.out _ (List.getElem_mem hj2)).2; show l2[j].hits < _; omega)).mono ?_
            rintro _ wl ⟨rfl, hT, hk⟩
            rw [HBJ.out]
            replace HT := Lib.hid hT
            replace HP := Lib.hid (le_of_kp hk HP.out)
            replace KL := Lib.hid (KL.out.trans (hk.mono (fun _ _ h => h.1)))
            replace HH := Lib.hid (Blk.kp HH.out hk (fun h => h.2 rfl))
            clear hT hk y1
            have y1 := Blk.cell HH.out 1 (.int .i64 sh) rfl
            go_wp2_with fail
            rw [← HBJ'.out]
            refine (rask_duo HT.out hj2 sh 1 HP.out (by have := (FEW.out _ (List.getElem_mem hj2)).2; show l2[j].hits < _; omega)).mono ?_
            rintro _ wl ⟨rfl, hT, hk⟩
            rw [HBJ'.out]
            replace HT := Lib.hid hT
            replace HP := Lib.hid (le_of_kp hk HP.out)
            replace KL := Lib.hid (KL.out.trans (hk.mono (fun _ _ h => h.1)))
            replace HH := Lib.hid (Blk.kp HH.out hk (fun h => h.2 rfl))
            clear hT hk y1
            have y1 := Blk.cell HH.out 1 (.int .i64 sh) rfl
            have few3 := few_ask hj2 sh 1 FEW.out
            have l3m : (l2.set j (l2[j].asked sh 1)).length = m := by simp [hl2m]
            dsimp only at HT ⊢
            generalize l2[j].askN sh 1 = uu at *
            generalize hai : l2[j].askIs sh 1 = ai at *
            clear hai
            generalize l2.set j (l2[j].asked sh 1) = l3 at *
            have FEW3 := Lib.hid few3
            clear few3
            cases ai with
            | true =>
              have HZ := Lib.hid l3m
              have HFW := Lib.hid (show Few (2 * ((i + 1 : Nat) : Int)) l3 from fun s hs => by have := FEW3.out s hs; omega)
              obtain ⟨lz, hlz⟩ : ∃ lz, lz = l3 := ⟨_, rfl⟩
              subst hlz
              go_wp2_with fail
              clear y1
              refine (all_owns HT.out.owns (by rw [HT.out.owns.len]; show lz.length ≤ 100000; rw [HZ.out]; omega)).mono ?_
              rintro _ wy ⟨vy, rfl, hr, hnw, hk⟩
              have hl1 : bs.length = m := by rw [HT.out.owns.len]; exact HZ.out
              rw [hl1] at hr
              obtain ⟨gy, gc, rfl⟩ := row_form hr
              replace HT := Lib.hid (HT.out.tell hk)
              replace KL := Lib.hid (KL.out.trans (hk.mono (fun _ _ h => h.elim)))
              have HRY := Lib.hid hr
              obtain ⟨ev, lv, hbb, hrw, hbl⟩ := HT.out.rcells
              have hl2 : bs'.length = m := by rw [hbl]; exact HZ.out
              rw [hl2] at hrw
              obtain ⟨lo, lc, rfl⟩ := row_form hrw
              have c5 := Blk.cell hbb 5 (.slice lo m lc) rfl
              have hbbl := hbb.lt
              have HL1 := Lib.hid hl1; have HL2 := Lib.hid hl2
              clear hk hr hnw hbb hrw hbl hl1 hl2
              go_wp2_with fail
              clear c5
              go_loopw [133] (fun iv wr => ∃ j : Nat, iv = .int .i64 j ∧ j ≤ m ∧ Kp (fun _ => False) wy wr) (fun iv _ => m - (intOf iv).toNat)
              case atStart => exact ⟨0, rfl, by omega, Kp.refl _ _⟩
              case round =>
                obtain ⟨j, rfl, hj, ky⟩ := hrel
                by_cases hlt3 : (j : Int) < m
                · have hl1 := HL1.out
                  have hl2 := HL2.out
                  have hjl : j < lz.length := by rw [HZ.out]; omega
                  have hry := row_kp HRY.out ky (fun _ _ h => h)
                  obtain ⟨gz, gcz, hga⟩ := row_some hry (by omega)
                  simp only [Value.slice.injEq] at hga
                  obtain ⟨rfl, _, rfl⟩ := hga
                  have d0 := (World.ownsRow.cellAt hry j (by omega)).trans (ptrs_at bs j (by omega))
                  have hgy := (hry.lt gz rfl).2
                  have HT3 := Lib.hid (HT.out.tell ky)
                  obtain ⟨ev, lv, hbb, hrw, hbl⟩ := HT3.out.rcells
                  rw [hl2] at hrw
                  obtain ⟨go, lc, rfl⟩ := row_some hrw (by omega)
                  have c5 := Blk.cell hbb 5 (.slice (some ⟨go, 0, none⟩) m lc) rfl
                  have d1 := (World.ownsRow.cellAt hrw j (by omega)).trans (ptrs_at bs' j (by omega))
                  have hgo := (hrw.lt go rfl).2
                  have hbbl := hbb.lt
                  have o1 := HT3.out.owns.site (i := j) hjl
                  obtain ⟨ao, ac, o2⟩ := HT3.out.rsite (i := j) hjl
                  dsimp only at o1 o2
                  have hlb2 := o2.lt
                  generalize lz[j] = s at *
                  generalize hb1 : bs.getD j 0 = b1 at *
                  generalize hb2 : bs'.getD j 0 = b2 at *
                  have O1 := Lib.hid o1; have O2 := Lib.hid o2; have KY := Lib.hid ky
                  clear hb1 hb2 o1 o2 ky hry hbb hrw hbl hl1 hl2 HT3
                  go_wp2_with fail
                  refine wp_region_K (S := fun w' => Blk w' b2 46 (s.cells (.slice ao s.l.length ac))) (K := 44) (by kernel_rfl) ?_
                  have hHeld : (fun w' => Blk w' b2 46 (s.cells (.slice ao s.l.length ac))) (World.drew _) := O2.out.drew
                  replace O1 := Lib.hid (own_tell O1.out (Kp.refl _ _).drew)
                  replace KY := Lib.hid KY.out.drew
                  refine wpK_take (i := 0) (v := ?_) rfl (by kernel_rfl) (fun _ _ _ h => h) (Or.inl ⟨by kernel_rfl, ?_⟩) hHeld ?_
                  rotate_left
                  · intro w hSw; (try dsimp only at hSw); have z3 := Blk.cell hSw 3 (.int .i64 s.state) rfl; have z4 := Blk.cell hSw 4 (.slice ao s.l.length ac) rfl; have z5 := Blk.cell hSw 5 (.int .i64 s.rw) rfl; have z6 := Blk.cell hSw 6 (.int .i64 s.hits) rfl; have z7 := Blk.cell hSw 7 (.int .i64 s.deopts) rfl; clear hSw; go_simp; (try with_reducible rfl)
                  simp only [Act.put, List.setIfInBounds_toArray, List.set_cons_zero, List.set_cons_succ]
                  refine wpK_take (i := 2) (v := ?_) rfl (by kernel_rfl) (fun _ _ _ h => h) (Or.inl ⟨by kernel_rfl, ?_⟩) hHeld ?_
                  rotate_left
                  · intro w hSw; (try dsimp only at hSw); have z3 := Blk.cell hSw 3 (.int .i64 s.state) rfl; have z4 := Blk.cell hSw 4 (.slice ao s.l.length ac) rfl; have z5 := Blk.cell hSw 5 (.int .i64 s.rw) rfl; have z6 := Blk.cell hSw 6 (.int .i64 s.hits) rfl; have z7 := Blk.cell hSw 7 (.int .i64 s.deopts) rfl; clear hSw; go_simp; (try with_reducible rfl)
                  simp only [Act.put, List.setIfInBounds_toArray, List.set_cons_zero, List.set_cons_succ]
                  refine wpK_take (i := 3) (v := ?_) rfl (by kernel_rfl) (fun _ _ _ h => h) (Or.inl ⟨by kernel_rfl, ?_⟩) hHeld ?_
                  rotate_left
                  · intro w hSw; (try dsimp only at hSw); have z3 := Blk.cell hSw 3 (.int .i64 s.state) rfl; have z4 := Blk.cell hSw 4 (.slice ao s.l.length ac) rfl; have z5 := Blk.cell hSw 5 (.int .i64 s.rw) rfl; have z6 := Blk.cell hSw 6 (.int .i64 s.hits) rfl; have z7 := Blk.cell hSw 7 (.int .i64 s.deopts) rfl; clear hSw; go_simp; (try with_reducible rfl)
                  simp only [Act.put, List.setIfInBounds_toArray, List.set_cons_zero, List.set_cons_succ]
                  refine wpK_take (i := 4) (v := ?_) rfl (by kernel_rfl) (fun _ _ _ h => h) (Or.inl ⟨by kernel_rfl, ?_⟩) hHeld ?_
                  rotate_left
                  · intro w hSw; (try dsimp only at hSw); have z3 := Blk.cell hSw 3 (.int .i64 s.state) rfl; have z4 := Blk.cell hSw 4 (.slice ao s.l.length ac) rfl; have z5 := Blk.cell hSw 5 (.int .i64 s.rw) rfl; have z6 := Blk.cell hSw 6 (.int .i64 s.hits) rfl; have z7 := Blk.cell hSw 7 (.int .i64 s.deopts) rfl; clear hSw; go_simp; (try with_reducible rfl)
                  simp only [Act.put, List.setIfInBounds_toArray, List.set_cons_zero, List.set_cons_succ]
                  refine wpK_take (i := 5) (v := ?_) rfl (by kernel_rfl) (fun _ _ _ h => h) (Or.inl ⟨by kernel_rfl, ?_⟩) hHeld ?_
                  rotate_left
                  · intro w hSw; (try dsimp only at hSw); have z3 := Blk.cell hSw 3 (.int .i64 s.state) rfl; have z4 := Blk.cell hSw 4 (.slice ao s.l.length ac) rfl; have z5 := Blk.cell hSw 5 (.int .i64 s.rw) rfl; have z6 := Blk.cell hSw 6 (.int .i64 s.hits) rfl; have z7 := Blk.cell hSw 7 (.int .i64 s.deopts) rfl; clear hSw; go_simp; (try with_reducible rfl)
                  simp only [Act.put, List.setIfInBounds_toArray, List.set_cons_zero, List.set_cons_succ]
                  refine wpK_one (i := 1) (by kernel_rfl) rfl (fun K' hK => ?_)
                  go_simp
                  refine (state_own O1.out).mono ?_
                  rintro _ wt ⟨rfl, hk⟩
                  refine hK.out _ _ (fun _ => Blk.kp hHeld hk (fun h => h)) (fun hHeld' => ?_)
                  have hHeld := hHeld' (by decide)
                  clear hHeld' hK K'
                  replace O1 := Lib.hid (own_tell O1.out hk)
                  replace KY := Lib.hid (KY.out.trans hk)
                  clear hk
                  refine wpK_take (i := 6) (v := ?_) rfl (by kernel_rfl) (fun _ _ _ h => h) (Or.inl ⟨by kernel_rfl, ?_⟩) hHeld ?_
                  rotate_left
                  · intro w hSw; (try dsimp only at hSw); have z3 := Blk.cell hSw 3 (.int .i64 s.state) rfl; have z4 := Blk.cell hSw 4 (.slice ao s.l.length ac) rfl; have z5 := Blk.cell hSw 5 (.int .i64 s.rw) rfl; have z6 := Blk.cell hSw 6 (.int .i64 s.hits) rfl; have z7 := Blk.cell hSw 7 (.int .i64 s.deopts) rfl; clear hSw; go_simp; (try with_reducible rfl)
                  simp only [Act.put, List.setIfInBounds_toArray, List.set_cons_zero, List.set_cons_succ]
                  refine wpK_take (i := 7) (v := ?_) rfl (by kernel_rfl) (fun _ _ _ h => h) (Or.inl ⟨by kernel_rfl, ?_⟩) hHeld ?_
                  rotate_left
                  · intro w hSw; (try dsimp only at hSw); have z3 := Blk.cell hSw 3 (.int .i64 s.state) rfl; have z4 := Blk.cell hSw 4 (.slice ao s.l.length ac) rfl; have z5 := Blk.cell hSw 5 (.int .i64 s.rw) rfl; have z6 := Blk.cell hSw 6 (.int .i64 s.hits) rfl; have z7 := Blk.cell hSw 7 (.int .i64 s.deopts) rfl; clear hSw; go_simp; (try with_reducible rfl)
                  simp only [Act.put, List.setIfInBounds_toArray, List.set_cons_zero, List.set_cons_succ]
                  refine wpK_take (i := 8) (v := ?_) rfl (by kernel_rfl) (fun _ _ _ h => h) (Or.inl ⟨by kernel_rfl, ?_⟩) hHeld ?_
                  rotate_left
                  · intro w hSw; (try dsimp only at hSw); have z3 := Blk.cell hSw 3 (.int .i64 s.state) rfl; have z4 := Blk.cell hSw 4 (.slice ao s.l.length ac) rfl; have z5 := Blk.cell hSw 5 (.int .i64 s.rw) rfl; have z6 := Blk.cell hSw 6 (.int .i64 s.hits) rfl; have z7 := Blk.cell hSw 7 (.int .i64 s.deopts) rfl; clear hSw; go_simp; (try with_reducible rfl)
                  simp only [Act.put, List.setIfInBounds_toArray, List.set_cons_zero, List.set_cons_succ]
                  refine wpK_take (i := 10) (v := ?_) rfl (by kernel_rfl) (fun _ _ _ h => h) (Or.inl ⟨by kernel_rfl, ?_⟩) hHeld ?_
                  rotate_left
                  · intro w hSw; (try dsimp only at hSw); have z3 := Blk.cell hSw 3 (.int .i64 s.state) rfl; have z4 := Blk.cell hSw 4 (.slice ao s.l.length ac) rfl; have z5 := Blk.cell hSw 5 (.int .i64 s.rw) rfl; have z6 := Blk.cell hSw 6 (.int .i64 s.hits) rfl; have z7 := Blk.cell hSw 7 (.int .i64 s.deopts) rfl; clear hSw; go_simp; (try with_reducible rfl)
                  simp only [Act.put, List.setIfInBounds_toArray, List.set_cons_zero, List.set_cons_succ]
                  refine wpK_take (i := 11) (v := ?_) rfl (by kernel_rfl) (fun _ _ _ h => h) (Or.inl ⟨by kernel_rfl, ?_⟩) hHeld ?_
                  rotate_left
                  · intro w hSw; (try dsimp only at hSw); have z3 := Blk.cell hSw 3 (.int .i64 s.state) rfl; have z4 := Blk.cell hSw 4 (.slice ao s.l.length ac) rfl; have z5 := Blk.cell hSw 5 (.int .i64 s.rw) rfl; have z6 := Blk.cell hSw 6 (.int .i64 s.hits) rfl; have z7 := Blk.cell hSw 7 (.int .i64 s.deopts) rfl; clear hSw; go_simp; (try with_reducible rfl)
                  simp only [Act.put, List.setIfInBounds_toArray, List.set_cons_zero, List.set_cons_succ]
                  refine wpK_take (i := 12) (v := ?_) rfl (by kernel_rfl) (fun _ _ _ h => h) (Or.inl ⟨by kernel_rfl, ?_⟩) hHeld ?_
                  rotate_left
                  · intro w hSw; (try dsimp only at hSw); have z3 := Blk.cell hSw 3 (.int .i64 s.state) rfl; have z4 := Blk.cell hSw 4 (.slice ao s.l.length ac) rfl; have z5 := Blk.cell hSw 5 (.int .i64 s.rw) rfl; have z6 := Blk.cell hSw 6 (.int .i64 s.hits) rfl; have z7 := Blk.cell hSw 7 (.int .i64 s.deopts) rfl; clear hSw; go_simp; (try with_reducible rfl)
                  simp only [Act.put, List.setIfInBounds_toArray, List.set_cons_zero, List.set_cons_succ]
                  refine wpK_take (i := 13) (v := ?_) rfl (by kernel_rfl) (fun _ _ _ h => h) (Or.inl ⟨by kernel_rfl, ?_⟩) hHeld ?_
                  rotate_left
                  · intro w hSw; (try dsimp only at hSw); have z3 := Blk.cell hSw 3 (.int .i64 s.state) rfl; have z4 := Blk.cell hSw 4 (.slice ao s.l.length ac) rfl; have z5 := Blk.cell hSw 5 (.int .i64 s.rw) rfl; have z6 := Blk.cell hSw 6 (.int .i64 s.hits) rfl; have z7 := Blk.cell hSw 7 (.int .i64 s.deopts) rfl; clear hSw; go_simp; (try with_reducible rfl)
                  simp only [Act.put, List.setIfInBounds_toArray, List.set_cons_zero, List.set_cons_succ]
                  refine wpK_take (i := 14) (v := ?_) rfl (by kernel_rfl) (fun _ _ _ h => h) (Or.inl ⟨by kernel_rfl, ?_⟩) hHeld ?_
                  rotate_left
                  · intro w hSw; (try dsimp only at hSw); have z3 := Blk.cell hSw 3 (.int .i64 s.state) rfl; have z4 := Blk.cell hSw 4 (.slice ao s.l.length ac) rfl; have z5 := Blk.cell hSw 5 (.int .i64 s.rw) rfl; have z6 := Blk.cell hSw 6 (.int .i64 s.hits) rfl; have z7 := Blk.cell hSw 7 (.int .i64 s.deopts) rfl; clear hSw; go_simp; (try with_reducible rfl)
                  simp only [Act.put, List.setIfInBounds_toArray, List.set_cons_zero, List.set_cons_succ]
                  refine wpK_one (i := 9) (by kernel_rfl) rfl (fun K' hK => ?_)
                  go_simp
                  refine (len_own O1.out).mono ?_
                  rintro _ wt ⟨rfl, hk⟩
                  refine hK.out _ _ (fun _ => Blk.kp hHeld hk (fun h => h)) (fun hHeld' => ?_)
                  have hHeld := hHeld' (by decide)
                  clear hHeld' hK K'
                  replace O1 := Lib.hid (own_tell O1.out hk)
                  replace KY := Lib.hid (KY.out.trans hk)
                  clear hk
                  refine wpK_take (i := 15) (v := ?_) rfl (by kernel_rfl) (fun _ _ _ h => h) (Or.inl ⟨by kernel_rfl, ?_⟩) hHeld ?_
                  rotate_left
                  · intro w hSw; (try dsimp only at hSw); have z3 := Blk.cell hSw 3 (.int .i64 s.state) rfl; have z4 := Blk.cell hSw 4 (.slice ao s.l.length ac) rfl; have z5 := Blk.cell hSw 5 (.int .i64 s.rw) rfl; have z6 := Blk.cell hSw 6 (.int .i64 s.hits) rfl; have z7 := Blk.cell hSw 7 (.int .i64 s.deopts) rfl; clear hSw; go_simp; (try with_reducible rfl)
                  simp only [Act.put, List.setIfInBounds_toArray, List.set_cons_zero, List.set_cons_succ]
                  refine wpK_take (i := 16) (v := ?_) rfl (by kernel_rfl) (fun _ _ _ h => h) (Or.inl ⟨by kernel_rfl, ?_⟩) hHeld ?_
                  rotate_left
                  · intro w hSw; (try dsimp only at hSw); have z3 := Blk.cell hSw 3 (.int .i64 s.state) rfl; have z4 := Blk.cell hSw 4 (.slice ao s.l.length ac) rfl; have z5 := Blk.cell hSw 5 (.int .i64 s.rw) rfl; have z6 := Blk.cell hSw 6 (.int .i64 s.hits) rfl; have z7 := Blk.cell hSw 7 (.int .i64 s.deopts) rfl; clear hSw; go_simp; (try with_reducible rfl)
                  simp only [Act.put, List.setIfInBounds_toArray, List.set_cons_zero, List.set_cons_succ]
                  refine wpK_take (i := 17) (v := ?_) rfl (by kernel_rfl) (fun _ _ _ h => h) (Or.inl ⟨by kernel_rfl, ?_⟩) hHeld ?_
                  rotate_left
                  · intro w hSw; (try dsimp only at hSw); have z3 := Blk.cell hSw 3 (.int .i64 s.state) rfl; have z4 := Blk.cell hSw 4 (.slice ao s.l.length ac) rfl; have z5 := Blk.cell hSw 5 (.int .i64 s.rw) rfl; have z6 := Blk.cell hSw 6 (.int .i64 s.hits) rfl; have z7 := Blk.cell hSw 7 (.int .i64 s.deopts) rfl; clear hSw; go_simp; (try with_reducible rfl)
                  simp only [Act.put, List.setIfInBounds_toArray, List.set_cons_zero, List.set_cons_succ]
                  refine wpK_take (i := 18) (v := ?_) rfl (by kernel_rfl) (fun _ _ _ h => h) (Or.inl ⟨by kernel_rfl, ?_⟩) hHeld ?_
                  rotate_left
                  · intro w hSw; (try dsimp only at hSw); have z3 := Blk.cell hSw 3 (.int .i64 s.state) rfl; have z4 := Blk.cell hSw 4 (.slice ao s.l.length ac) rfl; have z5 := Blk.cell hSw 5 (.int .i64 s.rw) rfl; have z6 := Blk.cell hSw 6 (.int .i64 s.hits) rfl; have z7 := Blk.cell hSw 7 (.int .i64 s.deopts) rfl; clear hSw; go_simp; (try with_reducible rfl)
                  simp only [Act.put, List.setIfInBounds_toArray, List.set_cons_zero, List.set_cons_succ]
                  refine wpK_take (i := 20) (v := ?_) rfl (by kernel_rfl) (fun _ _ _ h => h) (Or.inl ⟨by kernel_rfl, ?_⟩) hHeld ?_
                  rotate_left
                  · intro w hSw; (try dsimp only at hSw); have z3 := Blk.cell hSw 3 (.int .i64 s.state) rfl; have z4 := Blk.cell hSw 4 (.slice ao s.l.length ac) rfl; have z5 := Blk.cell hSw 5 (.int .i64 s.rw) rfl; have z6 := Blk.cell hSw 6 (.int .i64 s.hits) rfl; have z7 := Blk.cell hSw 7 (.int .i64 s.deopts) rfl; clear hSw; go_simp; (try with_reducible rfl)
                  simp only [Act.put, List.setIfInBounds_toArray, List.set_cons_zero, List.set_cons_succ]
                  refine wpK_take (i := 21) (v := ?_) rfl (by kernel_rfl) (fun _ _ _ h => h) (Or.inl ⟨by kernel_rfl, ?_⟩) hHeld ?_
                  rotate_left
                  · intro w hSw; (try dsimp only at hSw); have z3 := Blk.cell hSw 3 (.int .i64 s.state) rfl; have z4 := Blk.cell hSw 4 (.slice ao s.l.length ac) rfl; have z5 := Blk.cell hSw 5 (.int .i64 s.rw) rfl; have z6 := Blk.cell hSw 6 (.int .i64 s.hits) rfl; have z7 := Blk.cell hSw 7 (.int .i64 s.deopts) rfl; clear hSw; go_simp; (try with_reducible rfl)
                  simp only [Act.put, List.setIfInBounds_toArray, List.set_cons_zero, List.set_cons_succ]
                  refine wpK_take (i := 22) (v := ?_) rfl (by kernel_rfl) (fun _ _ _ h => h) (Or.inl ⟨by kernel_rfl, ?_⟩) hHeld ?_
                  rotate_left
                  · intro w hSw; (try dsimp only at hSw); have z3 := Blk.cell hSw 3 (.int .i64 s.state) rfl; have z4 := Blk.cell hSw 4 (.slice ao s.l.length ac) rfl; have z5 := Blk.cell hSw 5 (.int .i64 s.rw) rfl; have z6 := Blk.cell hSw 6 (.int .i64 s.hits) rfl; have z7 := Blk.cell hSw 7 (.int .i64 s.deopts) rfl; clear hSw; go_simp; (try with_reducible rfl)
                  simp only [Act.put, List.setIfInBounds_toArray, List.set_cons_zero, List.set_cons_succ]
                  refine wpK_take (i := 23) (v := ?_) rfl (by kernel_rfl) (fun _ _ _ h => h) (Or.inl ⟨by kernel_rfl, ?_⟩) hHeld ?_
                  rotate_left
                  · intro w hSw; (try dsimp only at hSw); have z3 := Blk.cell hSw 3 (.int .i64 s.state) rfl; have z4 := Blk.cell hSw 4 (.slice ao s.l.length ac) rfl; have z5 := Blk.cell hSw 5 (.int .i64 s.rw) rfl; have z6 := Blk.cell hSw 6 (.int .i64 s.hits) rfl; have z7 := Blk.cell hSw 7 (.int .i64 s.deopts) rfl; clear hSw; go_simp; (try with_reducible rfl)
                  simp only [Act.put, List.setIfInBounds_toArray, List.set_cons_zero, List.set_cons_succ]
                  refine wpK_one (i := 19) (by kernel_rfl) rfl (fun K' hK => ?_)
                  go_simp
                  refine (rewrites_own O1.out).mono ?_
                  rintro _ wt ⟨rfl, hk⟩
                  refine hK.out _ _ (fun _ => Blk.kp hHeld hk (fun h => h)) (fun hHeld' => ?_)
                  have hHeld := hHeld' (by decide)
                  clear hHeld' hK K'
                  replace O1 := Lib.hid (own_tell O1.out hk)
                  replace KY := Lib.hid (KY.out.trans hk)
                  clear hk
                  refine wpK_take (i := 24) (v := ?_) rfl (by kernel_rfl) (fun _ _ _ h => h) (Or.inl ⟨by kernel_rfl, ?_⟩) hHeld ?_
                  rotate_left
                  · intro w hSw; (try dsimp only at hSw); have z3 := Blk.cell hSw 3 (.int .i64 s.state) rfl; have z4 := Blk.cell hSw 4 (.slice ao s.l.length ac) rfl; have z5 := Blk.cell hSw 5 (.int .i64 s.rw) rfl; have z6 := Blk.cell hSw 6 (.int .i64 s.hits) rfl; have z7 := Blk.cell hSw 7 (.int .i64 s.deopts) rfl; clear hSw; go_simp; (try with_reducible rfl)
                  simp only [Act.put, List.setIfInBounds_toArray, List.set_cons_zero, List.set_cons_succ]
                  refine wpK_take (i := 25) (v := ?_) rfl (by kernel_rfl) (fun _ _ _ h => h) (Or.inl ⟨by kernel_rfl, ?_⟩) hHeld ?_
                  rotate_left
                  · intro w hSw; (try dsimp only at hSw); have z3 := Blk.cell hSw 3 (.int .i64 s.state) rfl; have z4 := Blk.cell hSw 4 (.slice ao s.l.length ac) rfl; have z5 := Blk.cell hSw 5 (.int .i64 s.rw) rfl; have z6 := Blk.cell hSw 6 (.int .i64 s.hits) rfl; have z7 := Blk.cell hSw 7 (.int .i64 s.deopts) rfl; clear hSw; go_simp; (try with_reducible rfl)
                  simp only [Act.put, List.setIfInBounds_toArray, List.set_cons_zero, List.set_cons_succ]
                  refine wpK_take (i := 26) (v := ?_) rfl (by kernel_rfl) (fun _ _ _ h => h) (Or.inl ⟨by kernel_rfl, ?_⟩) hHeld ?_
                  rotate_left
                  · intro w hSw; (try dsimp only at hSw); have z3 := Blk.cell hSw 3 (.int .i64 s.state) rfl; have z4 := Blk.cell hSw 4 (.slice ao s.l.length ac) rfl; have z5 := Blk.cell hSw 5 (.int .i64 s.rw) rfl; have z6 := Blk.cell hSw 6 (.int .i64 s.hits) rfl; have z7 := Blk.cell hSw 7 (.int .i64 s.deopts) rfl; clear hSw; go_simp; (try with_reducible rfl)
                  simp only [Act.put, List.setIfInBounds_toArray, List.set_cons_zero, List.set_cons_succ]
                  refine wpK_take (i := 27) (v := ?_) rfl (by kernel_rfl) (fun _ _ _ h => h) (Or.inl ⟨by kernel_rfl, ?_⟩) hHeld ?_
                  rotate_left
                  · intro w hSw; (try dsimp only at hSw); have z3 := Blk.cell hSw 3 (.int .i64 s.state) rfl; have z4 := Blk.cell hSw 4 (.slice ao s.l.length ac) rfl; have z5 := Blk.cell hSw 5 (.int .i64 s.rw) rfl; have z6 := Blk.cell hSw 6 (.int .i64 s.hits) rfl; have z7 := Blk.cell hSw 7 (.int .i64 s.deopts) rfl; clear hSw; go_simp; (try with_reducible rfl)
                  simp only [Act.put, List.setIfInBounds_toArray, List.set_cons_zero, List.set_cons_succ]
                  refine wpK_take (i := 29) (v := ?_) rfl (by kernel_rfl) (fun _ _ _ h => h) (Or.inl ⟨by kernel_rfl, ?_⟩) hHeld ?_
                  rotate_left
                  · intro w hSw; (try dsimp only at hSw); have z3 := Blk.cell hSw 3 (.int .i64 s.state) rfl; have z4 := Blk.cell hSw 4 (.slice ao s.l.length ac) rfl; have z5 := Blk.cell hSw 5 (.int .i64 s.rw) rfl; have z6 := Blk.cell hSw 6 (.int .i64 s.hits) rfl; have z7 := Blk.cell hSw 7 (.int .i64 s.deopts) rfl; clear hSw; go_simp; (try with_reducible rfl)
                  simp only [Act.put, List.setIfInBounds_toArray, List.set_cons_zero, List.set_cons_succ]
                  refine wpK_take (i := 30) (v := ?_) rfl (by kernel_rfl) (fun _ _ _ h => h) (Or.inl ⟨by kernel_rfl, ?_⟩) hHeld ?_
                  rotate_left
                  · intro w hSw; (try dsimp only at hSw); have z3 := Blk.cell hSw 3 (.int .i64 s.state) rfl; have z4 := Blk.cell hSw 4 (.slice ao s.l.length ac) rfl; have z5 := Blk.cell hSw 5 (.int .i64 s.rw) rfl; have z6 := Blk.cell hSw 6 (.int .i64 s.hits) rfl; have z7 := Blk.cell hSw 7 (.int .i64 s.deopts) rfl; clear hSw; go_simp; (try with_reducible rfl)
                  simp only [Act.put, List.setIfInBounds_toArray, List.set_cons_zero, List.set_cons_succ]
                  refine wpK_take (i := 31) (v := ?_) rfl (by kernel_rfl) (fun _ _ _ h => h) (Or.inl ⟨by kernel_rfl, ?_⟩) hHeld ?_
                  rotate_left
                  · intro w hSw; (try dsimp only at hSw); have z3 := Blk.cell hSw 3 (.int .i64 s.state) rfl; have z4 := Blk.cell hSw 4 (.slice ao s.l.length ac) rfl; have z5 := Blk.cell hSw 5 (.int .i64 s.rw) rfl; have z6 := Blk.cell hSw 6 (.int .i64 s.hits) rfl; have z7 := Blk.cell hSw 7 (.int .i64 s.deopts) rfl; clear hSw; go_simp; (try with_reducible rfl)
                  simp only [Act.put, List.setIfInBounds_toArray, List.set_cons_zero, List.set_cons_succ]
                  refine wpK_take (i := 32) (v := ?_) rfl (by kernel_rfl) (fun _ _ _ h => h) (Or.inl ⟨by kernel_rfl, ?_⟩) hHeld ?_
                  rotate_left
                  · intro w hSw; (try dsimp only at hSw); have z3 := Blk.cell hSw 3 (.int .i64 s.state) rfl; have z4 := Blk.cell hSw 4 (.slice ao s.l.length ac) rfl; have z5 := Blk.cell hSw 5 (.int .i64 s.rw) rfl; have z6 := Blk.cell hSw 6 (.int .i64 s.hits) rfl; have z7 := Blk.cell hSw 7 (.int .i64 s.deopts) rfl; clear hSw; go_simp; (try with_reducible rfl)
                  simp only [Act.put, List.setIfInBounds_toArray, List.set_cons_zero, List.set_cons_succ]
                  refine wpK_one (i := 28) (by kernel_rfl) rfl (fun K' hK => ?_)
                  go_simp
                  refine (hits_own O1.out).mono ?_
                  rintro _ wt ⟨rfl, hk⟩
                  refine hK.out _ _ (fun _ => Blk.kp hHeld hk (fun h => h)) (fun hHeld' => ?_)
                  have hHeld := hHeld' (by decide)
                  clear hHeld' hK K'
                  replace O1 := Lib.hid (own_tell O1.out hk)
                  replace KY := Lib.hid (KY.out.trans hk)
                  clear hk
                  refine wpK_take (i := 33) (v := ?_) rfl (by kernel_rfl) (fun _ _ _ h => h) (Or.inl ⟨by kernel_rfl, ?_⟩) hHeld ?_
                  rotate_left
                  · intro w hSw; (try dsimp only at hSw); have z3 := Blk.cell hSw 3 (.int .i64 s.state) rfl; have z4 := Blk.cell hSw 4 (.slice ao s.l.length ac) rfl; have z5 := Blk.cell hSw 5 (.int .i64 s.rw) rfl; have z6 := Blk.cell hSw 6 (.int .i64 s.hits) rfl; have z7 := Blk.cell hSw 7 (.int .i64 s.deopts) rfl; clear hSw; go_simp; (try with_reducible rfl)
                  simp only [Act.put, List.setIfInBounds_toArray, List.set_cons_zero, List.set_cons_succ]
                  refine wpK_take (i := 34) (v := ?_) rfl (by kernel_rfl) (fun _ _ _ h => h) (Or.inl ⟨by kernel_rfl, ?_⟩) hHeld ?_
                  rotate_left
                  · intro w hSw; (try dsimp only at hSw); have z3 := Blk.cell hSw 3 (.int .i64 s.state) rfl; have z4 := Blk.cell hSw 4 (.slice ao s.l.length ac) rfl; have z5 := Blk.cell hSw 5 (.int .i64 s.rw) rfl; have z6 := Blk.cell hSw 6 (.int .i64 s.hits) rfl; have z7 := Blk.cell hSw 7 (.int .i64 s.deopts) rfl; clear hSw; go_simp; (try with_reducible rfl)
                  simp only [Act.put, List.setIfInBounds_toArray, List.set_cons_zero, List.set_cons_succ]
                  refine wpK_take (i := 35) (v := ?_) rfl (by kernel_rfl) (fun _ _ _ h => h) (Or.inl ⟨by kernel_rfl, ?_⟩) hHeld ?_
                  rotate_left
                  · intro w hSw; (try dsimp only at hSw); have z3 := Blk.cell hSw 3 (.int .i64 s.state) rfl; have z4 := Blk.cell hSw 4 (.slice ao s.l.length ac) rfl; have z5 := Blk.cell hSw 5 (.int .i64 s.rw) rfl; have z6 := Blk.cell hSw 6 (.int .i64 s.hits) rfl; have z7 := Blk.cell hSw 7 (.int .i64 s.deopts) rfl; clear hSw; go_simp; (try with_reducible rfl)
                  simp only [Act.put, List.setIfInBounds_toArray, List.set_cons_zero, List.set_cons_succ]
                  refine wpK_take (i := 36) (v := ?_) rfl (by kernel_rfl) (fun _ _ _ h => h) (Or.inl ⟨by kernel_rfl, ?_⟩) hHeld ?_
                  rotate_left
                  · intro w hSw; (try dsimp only at hSw); have z3 := Blk.cell hSw 3 (.int .i64 s.state) rfl; have z4 := Blk.cell hSw 4 (.slice ao s.l.length ac) rfl; have z5 := Blk.cell hSw 5 (.int .i64 s.rw) rfl; have z6 := Blk.cell hSw 6 (.int .i64 s.hits) rfl; have z7 := Blk.cell hSw 7 (.int .i64 s.deopts) rfl; clear hSw; go_simp; (try with_reducible rfl)
                  simp only [Act.put, List.setIfInBounds_toArray, List.set_cons_zero, List.set_cons_succ]
                  refine wpK_take (i := 38) (v := ?_) rfl (by kernel_rfl) (fun _ _ _ h => h) (Or.inl ⟨by kernel_rfl, ?_⟩) hHeld ?_
                  rotate_left
                  · intro w hSw; (try dsimp only at hSw); have z3 := Blk.cell hSw 3 (.int .i64 s.state) rfl; have z4 := Blk.cell hSw 4 (.slice ao s.l.length ac) rfl; have z5 := Blk.cell hSw 5 (.int .i64 s.rw) rfl; have z6 := Blk.cell hSw 6 (.int .i64 s.hits) rfl; have z7 := Blk.cell hSw 7 (.int .i64 s.deopts) rfl; clear hSw; go_simp; (try with_reducible rfl)
                  simp only [Act.put, List.setIfInBounds_toArray, List.set_cons_zero, List.set_cons_succ]
                  refine wpK_take (i := 39) (v := ?_) rfl (by kernel_rfl) (fun _ _ _ h => h) (Or.inl ⟨by kernel_rfl, ?_⟩) hHeld ?_
                  rotate_left
                  · intro w hSw; (try dsimp only at hSw); have z3 := Blk.cell hSw 3 (.int .i64 s.state) rfl; have z4 := Blk.cell hSw 4 (.slice ao s.l.length ac) rfl; have z5 := Blk.cell hSw 5 (.int .i64 s.rw) rfl; have z6 := Blk.cell hSw 6 (.int .i64 s.hits) rfl; have z7 := Blk.cell hSw 7 (.int .i64 s.deopts) rfl; clear hSw; go_simp; (try with_reducible rfl)
                  simp only [Act.put, List.setIfInBounds_toArray, List.set_cons_zero, List.set_cons_succ]
                  refine wpK_take (i := 40) (v := ?_) rfl (by kernel_rfl) (fun _ _ _ h => h) (Or.inl ⟨by kernel_rfl, ?_⟩) hHeld ?_
                  rotate_left
                  · intro w hSw; (try dsimp only at hSw); have z3 := Blk.cell hSw 3 (.int .i64 s.state) rfl; have z4 := Blk.cell hSw 4 (.slice ao s.l.length ac) rfl; have z5 := Blk.cell hSw 5 (.int .i64 s.rw) rfl; have z6 := Blk.cell hSw 6 (.int .i64 s.hits) rfl; have z7 := Blk.cell hSw 7 (.int .i64 s.deopts) rfl; clear hSw; go_simp; (try with_reducible rfl)
                  simp only [Act.put, List.setIfInBounds_toArray, List.set_cons_zero, List.set_cons_succ]
                  refine wpK_take (i := 41) (v := ?_) rfl (by kernel_rfl) (fun _ _ _ h => h) (Or.inl ⟨by kernel_rfl, ?_⟩) hHeld ?_
                  rotate_left
                  · intro w hSw; (try dsimp only at hSw); have z3 := Blk.cell hSw 3 (.int .i64 s.state) rfl; have z4 := Blk.cell hSw 4 (.slice ao s.l.length ac) rfl; have z5 := Blk.cell hSw 5 (.int .i64 s.rw) rfl; have z6 := Blk.cell hSw 6 (.int .i64 s.hits) rfl; have z7 := Blk.cell hSw 7 (.int .i64 s.deopts) rfl; clear hSw; go_simp; (try with_reducible rfl)
                  simp only [Act.put, List.setIfInBounds_toArray, List.set_cons_zero, List.set_cons_succ]
                  refine wpK_one (i := 37) (by kernel_rfl) rfl (fun K' hK => ?_)
                  go_simp
                  refine (deopts_own O1.out).mono ?_
                  rintro _ wt ⟨rfl, hk⟩
                  refine hK.out _ _ (fun _ => Blk.kp hHeld hk (fun h => h)) (fun hHeld' => ?_)
                  have hHeld := hHeld' (by decide)
                  clear hHeld' hK K'
                  replace O1 := Lib.hid (own_tell O1.out hk)
                  replace KY := Lib.hid (KY.out.trans hk)
                  clear hk
                  refine wpK_take (i := 42) (v := ?_) rfl (by kernel_rfl) (fun _ _ _ h => h) (Or.inl ⟨by kernel_rfl, ?_⟩) hHeld ?_
                  rotate_left
                  · intro w hSw; (try dsimp only at hSw); have z3 := Blk.cell hSw 3 (.int .i64 s.state) rfl; have z4 := Blk.cell hSw 4 (.slice ao s.l.length ac) rfl; have z5 := Blk.cell hSw 5 (.int .i64 s.rw) rfl; have z6 := Blk.cell hSw 6 (.int .i64 s.hits) rfl; have z7 := Blk.cell hSw 7 (.int .i64 s.deopts) rfl; clear hSw; go_simp; (try with_reducible rfl)
                  simp only [Act.put, List.setIfInBounds_toArray, List.set_cons_zero, List.set_cons_succ]
                  refine wpK_take (i := 43) (v := ?_) rfl (by kernel_rfl) (fun _ _ _ h => h) (Or.inl ⟨by kernel_rfl, ?_⟩) hHeld ?_
                  rotate_left
                  · intro w hSw; (try dsimp only at hSw); have z3 := Blk.cell hSw 3 (.int .i64 s.state) rfl; have z4 := Blk.cell hSw 4 (.slice ao s.l.length ac) rfl; have z5 := Blk.cell hSw 5 (.int .i64 s.rw) rfl; have z6 := Blk.cell hSw 6 (.int .i64 s.hits) rfl; have z7 := Blk.cell hSw 7 (.int .i64 s.deopts) rfl; clear hSw; go_simp; (try with_reducible rfl)
                  simp only [Act.put, List.setIfInBounds_toArray, List.set_cons_zero, List.set_cons_succ]
                  refine wpK_done (by kernel_rfl) ?_ _
                  clear hHeld
                  go_wp2
                  go_roundw
                  case rel => exact ⟨j + 1, by go_num, by omega, KY.out⟩
                  case measure => simp [intOf]; omega
                · have hfin : Lap (fun k => B ≤ k) w6 p m b bs b' bs' (i + 1) lz n2 wr := ⟨(HT.out.tell ky).mono (fun _ h => h.1), HZ.out, by show 0 ≤ n2; omega, by show n2 ≤ ((i + 1 : Nat) : Int); omega, HFW.out, KL.out.trans (ky.mono (fun _ _ h => h.elim))⟩
                  have HFIN := Lib.hid hfin
                  clear hfin ky
                  go_wp2
                  go_roundw
                  case rel => exact ⟨i + 1, lz, n2, by go_num, by omega, HFIN.out⟩
                  case measure => simp [intOf]; omega
            | false =>
              have hj3 : j < l3.length := by omega
              go_wp2_with fail
              rw [← HBJ.out]
              refine (learn_duo HT.out hj3 ⟨sh, 3, 1⟩ HP.out (by have := (FEW3.out _ (List.getElem_mem hj3)).1; show l3[j].rw < _; omega)).mono ?_
              rintro _ wl ⟨rfl, hT, hk⟩
              rw [HBJ.out]
              replace HT := Lib.hid hT
              replace HP := Lib.hid (le_of_kp hk HP.out)
              replace KL := Lib.hid (KL.out.trans (hk.mono (fun _ _ h => h.1)))
              replace HH := Lib.hid (Blk.kp HH.out hk (fun h => h.2 rfl))
              clear hT hk y1
              have y1 := Blk.cell HH.out 1 (.int .i64 sh) rfl
              go_wp2_with fail
              rw [← HBJ'.out]
              refine (rlearn_duo HT.out hj3 ⟨sh, 3, 1⟩ HP.out (by have := (FEW3.out _ (List.getElem_mem hj3)).1; show l3[j].rw < _; omega)).mono ?_
              rintro _ wl ⟨rfl, hT, hk⟩
              rw [HBJ'.out]
              replace HT := Lib.hid hT
              replace HP := Lib.hid (le_of_kp hk HP.out)
              replace KL := Lib.hid (KL.out.trans (hk.mono (fun _ _ h => h.1)))
              clear hT hk y1
              have few4 := few_learn hj3 ⟨sh, 3, 1⟩ FEW3.out
              have l4m : (l3.set j (l3[j].learn ⟨sh, 3, 1⟩)).length = m := by simp [l3m]
              dsimp only at HT ⊢
              generalize l3.set j (l3[j].learn ⟨sh, 3, 1⟩) = lz at *
              have HZ := Lib.hid l4m
              have HFW := Lib.hid (show Few (2 * ((i + 1 : Nat) : Int)) lz from fun s hs => by have := few4 s hs; omega)
              clear few4 l4m
              go_wp2_with fail
              refine (all_owns HT.out.owns (by rw [HT.out.owns.len]; show lz.length ≤ 100000; rw [HZ.out]; omega)).mono ?_
              rintro _ wy ⟨vy, rfl, hr, hnw, hk⟩
              have hl1 : bs.length = m := by rw [HT.out.owns.len]; exact HZ.out
              rw [hl1] at hr
              obtain ⟨gy, gc, rfl⟩ := row_form hr
              replace HT := Lib.hid (HT.out.tell hk)
              replace KL := Lib.hid (KL.out.trans (hk.mono (fun _ _ h => h.elim)))
              have HRY := Lib.hid hr
              obtain ⟨ev, lv, hbb, hrw, hbl⟩ := HT.out.rcells
              have hl2 : bs'.length = m := by rw [hbl]; exact HZ.out
              rw [hl2] at hrw
              obtain ⟨lo, lc, rfl⟩ := row_form hrw
              have c5 := Blk.cell hbb 5 (.slice lo m lc) rfl
              have hbbl := hbb.lt
              have HL1 := Lib.hid hl1; have HL2 := Lib.hid hl2
              clear hk hr hnw hbb hrw hbl hl1 hl2
              go_wp2_with fail
              clear c5
              go_loopw [133] (fun iv wr => ∃ j : Nat, iv = .int .i64 j ∧ j ≤ m ∧ Kp (fun _ => False) wy wr) (fun iv _ => m - (intOf iv).toNat)
              case atStart => exact ⟨0, rfl, by omega, Kp.refl _ _⟩
              case round =>
                obtain ⟨j, rfl, hj, ky⟩ := hrel
                by_cases hlt3 : (j : Int) < m
                · have hl1 := HL1.out
                  have hl2 := HL2.out
                  have hjl : j < lz.length := by rw [HZ.out]; omega
                  have hry := row_kp HRY.out ky (fun _ _ h => h)
                  obtain ⟨gz, gcz, hga⟩ := row_some hry (by omega)
                  simp only [Value.slice.injEq] at hga
                  obtain ⟨rfl, _, rfl⟩ := hga
                  have d0 := (World.ownsRow.cellAt hry j (by omega)).trans (ptrs_at bs j (by omega))
                  have hgy := (hry.lt gz rfl).2
                  have HT3 := Lib.hid (HT.out.tell ky)
                  obtain ⟨ev, lv, hbb, hrw, hbl⟩ := HT3.out.rcells
                  rw [hl2] at hrw
                  obtain ⟨go, lc, rfl⟩ := row_some hrw (by omega)
                  have c5 := Blk.cell hbb 5 (.slice (some ⟨go, 0, none⟩) m lc) rfl
                  have d1 := (World.ownsRow.cellAt hrw j (by omega)).trans (ptrs_at bs' j (by omega))
                  have hgo := (hrw.lt go rfl).2
                  have hbbl := hbb.lt
                  have o1 := HT3.out.owns.site (i := j) hjl
                  obtain ⟨ao, ac, o2⟩ := HT3.out.rsite (i := j) hjl
                  dsimp only at o1 o2
                  have hlb2 := o2.lt
                  generalize lz[j] = s at *
                  generalize hb1 : bs.getD j 0 = b1 at *
                  generalize hb2 : bs'.getD j 0 = b2 at *
                  have O1 := Lib.hid o1; have O2 := Lib.hid o2; have KY := Lib.hid ky
                  clear hb1 hb2 o1 o2 ky hry hbb hrw hbl hl1 hl2 HT3
                  go_wp2_with fail
                  refine wp_region_K (S := fun w' => Blk w' b2 46 (s.cells (.slice ao s.l.length ac))) (K := 44) (by kernel_rfl) ?_
                  have hHeld : (fun w' => Blk w' b2 46 (s.cells (.slice ao s.l.length ac))) (World.drew _) := O2.out.drew
                  replace O1 := Lib.hid (own_tell O1.out (Kp.refl _ _).drew)
                  replace KY := Lib.hid KY.out.drew
                  refine wpK_take (i := 0) (v := ?_) rfl (by kernel_rfl) (fun _ _ _ h => h) (Or.inl ⟨by kernel_rfl, ?_⟩) hHeld ?_
                  rotate_left
                  · intro w hSw; (try dsimp only at hSw); have z3 := Blk.cell hSw 3 (.int .i64 s.state) rfl; have z4 := Blk.cell hSw 4 (.slice ao s.l.length ac) rfl; have z5 := Blk.cell hSw 5 (.int .i64 s.rw) rfl; have z6 := Blk.cell hSw 6 (.int .i64 s.hits) rfl; have z7 := Blk.cell hSw 7 (.int .i64 s.deopts) rfl; clear hSw; go_simp; (try with_reducible rfl)
                  simp only [Act.put, List.setIfInBounds_toArray, List.set_cons_zero, List.set_cons_succ]
                  refine wpK_take (i := 2) (v := ?_) rfl (by kernel_rfl) (fun _ _ _ h => h) (Or.inl ⟨by kernel_rfl, ?_⟩) hHeld ?_
                  rotate_left
                  · intro w hSw; (try dsimp only at hSw); have z3 := Blk.cell hSw 3 (.int .i64 s.state) rfl; have z4 := Blk.cell hSw 4 (.slice ao s.l.length ac) rfl; have z5 := Blk.cell hSw 5 (.int .i64 s.rw) rfl; have z6 := Blk.cell hSw 6 (.int .i64 s.hits) rfl; have z7 := Blk.cell hSw 7 (.int .i64 s.deopts) rfl; clear hSw; go_simp; (try with_reducible rfl)
                  simp only [Act.put, List.setIfInBounds_toArray, List.set_cons_zero, List.set_cons_succ]
                  refine wpK_take (i := 3) (v := ?_) rfl (by kernel_rfl) (fun _ _ _ h => h) (Or.inl ⟨by kernel_rfl, ?_⟩) hHeld ?_
                  rotate_left
                  · intro w hSw; (try dsimp only at hSw); have z3 := Blk.cell hSw 3 (.int .i64 s.state) rfl; have z4 := Blk.cell hSw 4 (.slice ao s.l.length ac) rfl; have z5 := Blk.cell hSw 5 (.int .i64 s.rw) rfl; have z6 := Blk.cell hSw 6 (.int .i64 s.hits) rfl; have z7 := Blk.cell hSw 7 (.int .i64 s.deopts) rfl; clear hSw; go_simp; (try with_reducible rfl)
                  simp only [Act.put, List.setIfInBounds_toArray, List.set_cons_zero, List.set_cons_succ]
                  refine wpK_take (i := 4) (v := ?_) rfl (by kernel_rfl) (fun _ _ _ h => h) (Or.inl ⟨by kernel_rfl, ?_⟩) hHeld ?_
                  rotate_left
                  · intro w hSw; (try dsimp only at hSw); have z3 := Blk.cell hSw 3 (.int .i64 s.state) rfl; have z4 := Blk.cell hSw 4 (.slice ao s.l.length ac) rfl; have z5 := Blk.cell hSw 5 (.int .i64 s.rw) rfl; have z6 := Blk.cell hSw 6 (.int .i64 s.hits) rfl; have z7 := Blk.cell hSw 7 (.int .i64 s.deopts) rfl; clear hSw; go_simp; (try with_reducible rfl)
                  simp only [Act.put, List.setIfInBounds_toArray, List.set_cons_zero, List.set_cons_succ]
                  refine wpK_take (i := 5) (v := ?_) rfl (by kernel_rfl) (fun _ _ _ h => h) (Or.inl ⟨by kernel_rfl, ?_⟩) hHeld ?_
                  rotate_left
                  · intro w hSw; (try dsimp only at hSw); have z3 := Blk.cell hSw 3 (.int .i64 s.state) rfl; have z4 := Blk.cell hSw 4 (.slice ao s.l.length ac) rfl; have z5 := Blk.cell hSw 5 (.int .i64 s.rw) rfl; have z6 := Blk.cell hSw 6 (.int .i64 s.hits) rfl; have z7 := Blk.cell hSw 7 (.int .i64 s.deopts) rfl; clear hSw; go_simp; (try with_reducible rfl)
                  simp only [Act.put, List.setIfInBounds_toArray, List.set_cons_zero, List.set_cons_succ]
                  refine wpK_one (i := 1) (by kernel_rfl) rfl (fun K' hK => ?_)
                  go_simp
                  refine (state_own O1.out).mono ?_
                  rintro _ wt ⟨rfl, hk⟩
                  refine hK.out _ _ (fun _ => Blk.kp hHeld hk (fun h => h)) (fun hHeld' => ?_)
                  have hHeld := hHeld' (by decide)
                  clear hHeld' hK K'
                  replace O1 := Lib.hid (own_tell O1.out hk)
                  replace KY := Lib.hid (KY.out.trans hk)
                  clear hk
                  refine wpK_take (i := 6) (v := ?_) rfl (by kernel_rfl) (fun _ _ _ h => h) (Or.inl ⟨by kernel_rfl, ?_⟩) hHeld ?_
                  rotate_left
                  · intro w hSw; (try dsimp only at hSw); have z3 := Blk.cell hSw 3 (.int .i64 s.state) rfl; have z4 := Blk.cell hSw 4 (.slice ao s.l.length ac) rfl; have z5 := Blk.cell hSw 5 (.int .i64 s.rw) rfl; have z6 := Blk.cell hSw 6 (.int .i64 s.hits) rfl; have z7 := Blk.cell hSw 7 (.int .i64 s.deopts) rfl; clear hSw; go_simp; (try with_reducible rfl)
                  simp only [Act.put, List.setIfInBounds_toArray, List.set_cons_zero, List.set_cons_succ]
                  refine wpK_take (i := 7) (v := ?_) rfl (by kernel_rfl) (fun _ _ _ h => h) (Or.inl ⟨by kernel_rfl, ?_⟩) hHeld ?_
                  rotate_left
                  · intro w hSw; (try dsimp only at hSw); have z3 := Blk.cell hSw 3 (.int .i64 s.state) rfl; have z4 := Blk.cell hSw 4 (.slice ao s.l.length ac) rfl; have z5 := Blk.cell hSw 5 (.int .i64 s.rw) rfl; have z6 := Blk.cell hSw 6 (.int .i64 s.hits) rfl; have z7 := Blk.cell hSw 7 (.int .i64 s.deopts) rfl; clear hSw; go_simp; (try with_reducible rfl)
                  simp only [Act.put, List.setIfInBounds_toArray, List.set_cons_zero, List.set_cons_succ]
                  refine wpK_take (i := 8) (v := ?_) rfl (by kernel_rfl) (fun _ _ _ h => h) (Or.inl ⟨by kernel_rfl, ?_⟩) hHeld ?_
                  rotate_left
                  · intro w hSw; (try dsimp only at hSw); have z3 := Blk.cell hSw 3 (.int .i64 s.state) rfl; have z4 := Blk.cell hSw 4 (.slice ao s.l.length ac) rfl; have z5 := Blk.cell hSw 5 (.int .i64 s.rw) rfl; have z6 := Blk.cell hSw 6 (.int .i64 s.hits) rfl; have z7 := Blk.cell hSw 7 (.int .i64 s.deopts) rfl; clear hSw; go_simp; (try with_reducible rfl)
                  simp only [Act.put, List.setIfInBounds_toArray, List.set_cons_zero, List.set_cons_succ]
                  refine wpK_take (i := 10) (v := ?_) rfl (by kernel_rfl) (fun _ _ _ h => h) (Or.inl ⟨by kernel_rfl, ?_⟩) hHeld ?_
                  rotate_left
                  · intro w hSw; (try dsimp only at hSw); have z3 := Blk.cell hSw 3 (.int .i64 s.state) rfl; have z4 := Blk.cell hSw 4 (.slice ao s.l.length ac) rfl; have z5 := Blk.cell hSw 5 (.int .i64 s.rw) rfl; have z6 := Blk.cell hSw 6 (.int .i64 s.hits) rfl; have z7 := Blk.cell hSw 7 (.int .i64 s.deopts) rfl; clear hSw; go_simp; (try with_reducible rfl)
                  simp only [Act.put, List.setIfInBounds_toArray, List.set_cons_zero, List.set_cons_succ]
                  refine wpK_take (i := 11) (v := ?_) rfl (by kernel_rfl) (fun _ _ _ h => h) (Or.inl ⟨by kernel_rfl, ?_⟩) hHeld ?_
                  rotate_left
                  · intro w hSw; (try dsimp only at hSw); have z3 := Blk.cell hSw 3 (.int .i64 s.state) rfl; have z4 := Blk.cell hSw 4 (.slice ao s.l.length ac) rfl; have z5 := Blk.cell hSw 5 (.int .i64 s.rw) rfl; have z6 := Blk.cell hSw 6 (.int .i64 s.hits) rfl; have z7 := Blk.cell hSw 7 (.int .i64 s.deopts) rfl; clear hSw; go_simp; (try with_reducible rfl)
                  simp only [Act.put, List.setIfInBounds_toArray, List.set_cons_zero, List.set_cons_succ]
                  refine wpK_take (i := 12) (v := ?_) rfl (by kernel_rfl) (fun _ _ _ h => h) (Or.inl ⟨by kernel_rfl, ?_⟩) hHeld ?_
                  rotate_left
                  · intro w hSw; (try dsimp only at hSw); have z3 := Blk.cell hSw 3 (.int .i64 s.state) rfl; have z4 := Blk.cell hSw 4 (.slice ao s.l.length ac) rfl; have z5 := Blk.cell hSw 5 (.int .i64 s.rw) rfl; have z6 := Blk.cell hSw 6 (.int .i64 s.hits) rfl; have z7 := Blk.cell hSw 7 (.int .i64 s.deopts) rfl; clear hSw; go_simp; (try with_reducible rfl)
                  simp only [Act.put, List.setIfInBounds_toArray, List.set_cons_zero, List.set_cons_succ]
                  refine wpK_take (i := 13) (v := ?_) rfl (by kernel_rfl) (fun _ _ _ h => h) (Or.inl ⟨by kernel_rfl, ?_⟩) hHeld ?_
                  rotate_left
                  · intro w hSw; (try dsimp only at hSw); have z3 := Blk.cell hSw 3 (.int .i64 s.state) rfl; have z4 := Blk.cell hSw 4 (.slice ao s.l.length ac) rfl; have z5 := Blk.cell hSw 5 (.int .i64 s.rw) rfl; have z6 := Blk.cell hSw 6 (.int .i64 s.hits) rfl; have z7 := Blk.cell hSw 7 (.int .i64 s.deopts) rfl; clear hSw; go_simp; (try with_reducible rfl)
                  simp only [Act.put, List.setIfInBounds_toArray, List.set_cons_zero, List.set_cons_succ]
                  refine wpK_take (i := 14) (v := ?_) rfl (by kernel_rfl) (fun _ _ _ h => h) (Or.inl ⟨by kernel_rfl, ?_⟩) hHeld ?_
                  rotate_left
                  · intro w hSw; (try dsimp only at hSw); have z3 := Blk.cell hSw 3 (.int .i64 s.state) rfl; have z4 := Blk.cell hSw 4 (.slice ao s.l.length ac) rfl; have z5 := Blk.cell hSw 5 (.int .i64 s.rw) rfl; have z6 := Blk.cell hSw 6 (.int .i64 s.hits) rfl; have z7 := Blk.cell hSw 7 (.int .i64 s.deopts) rfl; clear hSw; go_simp; (try with_reducible rfl)
                  simp only [Act.put, List.setIfInBounds_toArray, List.set_cons_zero, List.set_cons_succ]
                  refine wpK_one (i := 9) (by kernel_rfl) rfl (fun K' hK => ?_)
                  go_simp
                  refine (len_own O1.out).mono ?_
                  rintro _ wt ⟨rfl, hk⟩
                  refine hK.out _ _ (fun _ => Blk.kp hHeld hk (fun h => h)) (fun hHeld' => ?_)
                  have hHeld := hHeld' (by decide)
                  clear hHeld' hK K'
                  replace O1 := Lib.hid (own_tell O1.out hk)
                  replace KY := Lib.hid (KY.out.trans hk)
                  clear hk
                  refine wpK_take (i := 15) (v := ?_) rfl (by kernel_rfl) (fun _ _ _ h => h) (Or.inl ⟨by kernel_rfl, ?_⟩) hHeld ?_
                  rotate_left
                  · intro w hSw; (try dsimp only at hSw); have z3 := Blk.cell hSw 3 (.int .i64 s.state) rfl; have z4 := Blk.cell hSw 4 (.slice ao s.l.length ac) rfl; have z5 := Blk.cell hSw 5 (.int .i64 s.rw) rfl; have z6 := Blk.cell hSw 6 (.int .i64 s.hits) rfl; have z7 := Blk.cell hSw 7 (.int .i64 s.deopts) rfl; clear hSw; go_simp; (try with_reducible rfl)
                  simp only [Act.put, List.setIfInBounds_toArray, List.set_cons_zero, List.set_cons_succ]
                  refine wpK_take (i := 16) (v := ?_) rfl (by kernel_rfl) (fun _ _ _ h => h) (Or.inl ⟨by kernel_rfl, ?_⟩) hHeld ?_
                  rotate_left
                  · intro w hSw; (try dsimp only at hSw); have z3 := Blk.cell hSw 3 (.int .i64 s.state) rfl; have z4 := Blk.cell hSw 4 (.slice ao s.l.length ac) rfl; have z5 := Blk.cell hSw 5 (.int .i64 s.rw) rfl; have z6 := Blk.cell hSw 6 (.int .i64 s.hits) rfl; have z7 := Blk.cell hSw 7 (.int .i64 s.deopts) rfl; clear hSw; go_simp; (try with_reducible rfl)
                  simp only [Act.put, List.setIfInBounds_toArray, List.set_cons_zero, List.set_cons_succ]
                  refine wpK_take (i := 17) (v := ?_) rfl (by kernel_rfl) (fun _ _ _ h => h) (Or.inl ⟨by kernel_rfl, ?_⟩) hHeld ?_
                  rotate_left
                  · intro w hSw; (try dsimp only at hSw); have z3 := Blk.cell hSw 3 (.int .i64 s.state) rfl; have z4 := Blk.cell hSw 4 (.slice ao s.l.length ac) rfl; have z5 := Blk.cell hSw 5 (.int .i64 s.rw) rfl; have z6 := Blk.cell hSw 6 (.int .i64 s.hits) rfl; have z7 := Blk.cell hSw 7 (.int .i64 s.deopts) rfl; clear hSw; go_simp; (try with_reducible rfl)
                  simp only [Act.put, List.setIfInBounds_toArray, List.set_cons_zero, List.set_cons_succ]
                  refine wpK_take (i := 18) (v := ?_) rfl (by kernel_rfl) (fun _ _ _ h => h) (Or.inl ⟨by kernel_rfl, ?_⟩) hHeld ?_
                  rotate_left
                  · intro w hSw; (try dsimp only at hSw); have z3 := Blk.cell hSw 3 (.int .i64 s.state) rfl; have z4 := Blk.cell hSw 4 (.slice ao s.l.length ac) rfl; have z5 := Blk.cell hSw 5 (.int .i64 s.rw) rfl; have z6 := Blk.cell hSw 6 (.int .i64 s.hits) rfl; have z7 := Blk.cell hSw 7 (.int .i64 s.deopts) rfl; clear hSw; go_simp; (try with_reducible rfl)
                  simp only [Act.put, List.setIfInBounds_toArray, List.set_cons_zero, List.set_cons_succ]
                  refine wpK_take (i := 20) (v := ?_) rfl (by kernel_rfl) (fun _ _ _ h => h) (Or.inl ⟨by kernel_rfl, ?_⟩) hHeld ?_
                  rotate_left
                  · intro w hSw; (try dsimp only at hSw); have z3 := Blk.cell hSw 3 (.int .i64 s.state) rfl; have z4 := Blk.cell hSw 4 (.slice ao s.l.length ac) rfl; have z5 := Blk.cell hSw 5 (.int .i64 s.rw) rfl; have z6 := Blk.cell hSw 6 (.int .i64 s.hits) rfl; have z7 := Blk.cell hSw 7 (.int .i64 s.deopts) rfl; clear hSw; go_simp; (try with_reducible rfl)
                  simp only [Act.put, List.setIfInBounds_toArray, List.set_cons_zero, List.set_cons_succ]
                  refine wpK_take (i := 21) (v := ?_) rfl (by kernel_rfl) (fun _ _ _ h => h) (Or.inl ⟨by kernel_rfl, ?_⟩) hHeld ?_
                  rotate_left
                  · intro w hSw; (try dsimp only at hSw); have z3 := Blk.cell hSw 3 (.int .i64 s.state) rfl; have z4 := Blk.cell hSw 4 (.slice ao s.l.length ac) rfl; have z5 := Blk.cell hSw 5 (.int .i64 s.rw) rfl; have z6 := Blk.cell hSw 6 (.int .i64 s.hits) rfl; have z7 := Blk.cell hSw 7 (.int .i64 s.deopts) rfl; clear hSw; go_simp; (try with_reducible rfl)
                  simp only [Act.put, List.setIfInBounds_toArray, List.set_cons_zero, List.set_cons_succ]
                  refine wpK_take (i := 22) (v := ?_) rfl (by kernel_rfl) (fun _ _ _ h => h) (Or.inl ⟨by kernel_rfl, ?_⟩) hHeld ?_
                  rotate_left
                  · intro w hSw; (try dsimp only at hSw); have z3 := Blk.cell hSw 3 (.int .i64 s.state) rfl; have z4 := Blk.cell hSw 4 (.slice ao s.l.length ac) rfl; have z5 := Blk.cell hSw 5 (.int .i64 s.rw) rfl; have z6 := Blk.cell hSw 6 (.int .i64 s.hits) rfl; have z7 := Blk.cell hSw 7 (.int .i64 s.deopts) rfl; clear hSw; go_simp; (try with_reducible rfl)
                  simp only [Act.put, List.setIfInBounds_toArray, List.set_cons_zero, List.set_cons_succ]
                  refine wpK_take (i := 23) (v := ?_) rfl (by kernel_rfl) (fun _ _ _ h => h) (Or.inl ⟨by kernel_rfl, ?_⟩) hHeld ?_
                  rotate_left
                  · intro w hSw; (try dsimp only at hSw); have z3 := Blk.cell hSw 3 (.int .i64 s.state) rfl; have z4 := Blk.cell hSw 4 (.slice ao s.l.length ac) rfl; have z5 := Blk.cell hSw 5 (.int .i64 s.rw) rfl; have z6 := Blk.cell hSw 6 (.int .i64 s.hits) rfl; have z7 := Blk.cell hSw 7 (.int .i64 s.deopts) rfl; clear hSw; go_simp; (try with_reducible rfl)
                  simp only [Act.put, List.setIfInBounds_toArray, List.set_cons_zero, List.set_cons_succ]
                  refine wpK_one (i := 19) (by kernel_rfl) rfl (fun K' hK => ?_)
                  go_simp
                  refine (rewrites_own O1.out).mono ?_
                  rintro _ wt ⟨rfl, hk⟩
                  refine hK.out _ _ (fun _ => Blk.kp hHeld hk (fun h => h)) (fun hHeld' => ?_)
                  have hHeld := hHeld' (by decide)
                  clear hHeld' hK K'
                  replace O1 := Lib.hid (own_tell O1.out hk)
                  replace KY := Lib.hid (KY.out.trans hk)
                  clear hk
                  refine wpK_take (i := 24) (v := ?_) rfl (by kernel_rfl) (fun _ _ _ h => h) (Or.inl ⟨by kernel_rfl, ?_⟩) hHeld ?_
                  rotate_left
                  · intro w hSw; (try dsimp only at hSw); have z3 := Blk.cell hSw 3 (.int .i64 s.state) rfl; have z4 := Blk.cell hSw 4 (.slice ao s.l.length ac) rfl; have z5 := Blk.cell hSw 5 (.int .i64 s.rw) rfl; have z6 := Blk.cell hSw 6 (.int .i64 s.hits) rfl; have z7 := Blk.cell hSw 7 (.int .i64 s.deopts) rfl; clear hSw; go_simp; (try with_reducible rfl)
                  simp only [Act.put, List.setIfInBounds_toArray, List.set_cons_zero, List.set_cons_succ]
                  refine wpK_take (i := 25) (v := ?_) rfl (by kernel_rfl) (fun _ _ _ h => h) (Or.inl ⟨by kernel_rfl, ?_⟩) hHeld ?_
                  rotate_left
                  · intro w hSw; (try dsimp only at hSw); have z3 := Blk.cell hSw 3 (.int .i64 s.state) rfl; have z4 := Blk.cell hSw 4 (.slice ao s.l.length ac) rfl; have z5 := Blk.cell hSw 5 (.int .i64 s.rw) rfl; have z6 := Blk.cell hSw 6 (.int .i64 s.hits) rfl; have z7 := Blk.cell hSw 7 (.int .i64 s.deopts) rfl; clear hSw; go_simp; (try with_reducible rfl)
                  simp only [Act.put, List.setIfInBounds_toArray, List.set_cons_zero, List.set_cons_succ]
                  refine wpK_take (i := 26) (v := ?_) rfl (by kernel_rfl) (fun _ _ _ h => h) (Or.inl ⟨by kernel_rfl, ?_⟩) hHeld ?_
                  rotate_left
                  · intro w hSw; (try dsimp only at hSw); have z3 := Blk.cell hSw 3 (.int .i64 s.state) rfl; have z4 := Blk.cell hSw 4 (.slice ao s.l.length ac) rfl; have z5 := Blk.cell hSw 5 (.int .i64 s.rw) rfl; have z6 := Blk.cell hSw 6 (.int .i64 s.hits) rfl; have z7 := Blk.cell hSw 7 (.int .i64 s.deopts) rfl; clear hSw; go_simp; (try with_reducible rfl)
                  simp only [Act.put, List.setIfInBounds_toArray, List.set_cons_zero, List.set_cons_succ]
                  refine wpK_take (i := 27) (v := ?_) rfl (by kernel_rfl) (fun _ _ _ h => h) (Or.inl ⟨by kernel_rfl, ?_⟩) hHeld ?_
                  rotate_left
                  · intro w hSw; (try dsimp only at hSw); have z3 := Blk.cell hSw 3 (.int .i64 s.state) rfl; have z4 := Blk.cell hSw 4 (.slice ao s.l.length ac) rfl; have z5 := Blk.cell hSw 5 (.int .i64 s.rw) rfl; have z6 := Blk.cell hSw 6 (.int .i64 s.hits) rfl; have z7 := Blk.cell hSw 7 (.int .i64 s.deopts) rfl; clear hSw; go_simp; (try with_reducible rfl)
                  simp only [Act.put, List.setIfInBounds_toArray, List.set_cons_zero, List.set_cons_succ]
                  refine wpK_take (i := 29) (v := ?_) rfl (by kernel_rfl) (fun _ _ _ h => h) (Or.inl ⟨by kernel_rfl, ?_⟩) hHeld ?_
                  rotate_left
                  · intro w hSw; (try dsimp only at hSw); have z3 := Blk.cell hSw 3 (.int .i64 s.state) rfl; have z4 := Blk.cell hSw 4 (.slice ao s.l.length ac) rfl; have z5 := Blk.cell hSw 5 (.int .i64 s.rw) rfl; have z6 := Blk.cell hSw 6 (.int .i64 s.hits) rfl; have z7 := Blk.cell hSw 7 (.int .i64 s.deopts) rfl; clear hSw; go_simp; (try with_reducible rfl)
                  simp only [Act.put, List.setIfInBounds_toArray, List.set_cons_zero, List.set_cons_succ]
                  refine wpK_take (i := 30) (v := ?_) rfl (by kernel_rfl) (fun _ _ _ h => h) (Or.inl ⟨by kernel_rfl, ?_⟩) hHeld ?_
                  rotate_left
                  · intro w hSw; (try dsimp only at hSw); have z3 := Blk.cell hSw 3 (.int .i64 s.state) rfl; have z4 := Blk.cell hSw 4 (.slice ao s.l.length ac) rfl; have z5 := Blk.cell hSw 5 (.int .i64 s.rw) rfl; have z6 := Blk.cell hSw 6 (.int .i64 s.hits) rfl; have z7 := Blk.cell hSw 7 (.int .i64 s.deopts) rfl; clear hSw; go_simp; (try with_reducible rfl)
                  simp only [Act.put, List.setIfInBounds_toArray, List.set_cons_zero, List.set_cons_succ]
                  refine wpK_take (i := 31) (v := ?_) rfl (by kernel_rfl) (fun _ _ _ h => h) (Or.inl ⟨by kernel_rfl, ?_⟩) hHeld ?_
                  rotate_left
                  · intro w hSw; (try dsimp only at hSw); have z3 := Blk.cell hSw 3 (.int .i64 s.state) rfl; have z4 := Blk.cell hSw 4 (.slice ao s.l.length ac) rfl; have z5 := Blk.cell hSw 5 (.int .i64 s.rw) rfl; have z6 := Blk.cell hSw 6 (.int .i64 s.hits) rfl; have z7 := Blk.cell hSw 7 (.int .i64 s.deopts) rfl; clear hSw; go_simp; (try with_reducible rfl)
                  simp only [Act.put, List.setIfInBounds_toArray, List.set_cons_zero, List.set_cons_succ]
                  refine wpK_take (i := 32) (v := ?_) rfl (by kernel_rfl) (fun _ _ _ h => h) (Or.inl ⟨by kernel_rfl, ?_⟩) hHeld ?_
                  rotate_left
                  · intro w hSw; (try dsimp only at hSw); have z3 := Blk.cell hSw 3 (.int .i64 s.state) rfl; have z4 := Blk.cell hSw 4 (.slice ao s.l.length ac) rfl; have z5 := Blk.cell hSw 5 (.int .i64 s.rw) rfl; have z6 := Blk.cell hSw 6 (.int .i64 s.hits) rfl; have z7 := Blk.cell hSw 7 (.int .i64 s.deopts) rfl; clear hSw; go_simp; (try with_reducible rfl)
                  simp only [Act.put, List.setIfInBounds_toArray, List.set_cons_zero, List.set_cons_succ]
                  refine wpK_one (i := 28) (by kernel_rfl) rfl (fun K' hK => ?_)
                  go_simp
                  refine (hits_own O1.out).mono ?_
                  rintro _ wt ⟨rfl, hk⟩
                  refine hK.out _ _ (fun _ => Blk.kp hHeld hk (fun h => h)) (fun hHeld' => ?_)
                  have hHeld := hHeld' (by decide)
                  clear hHeld' hK K'
                  replace O1 := Lib.hid (own_tell O1.out hk)
                  replace KY := Lib.hid (KY.out.trans hk)
                  clear hk
                  refine wpK_take (i := 33) (v := ?_) rfl (by kernel_rfl) (fun _ _ _ h => h) (Or.inl ⟨by kernel_rfl, ?_⟩) hHeld ?_
                  rotate_left
                  · intro w hSw; (try dsimp only at hSw); have z3 := Blk.cell hSw 3 (.int .i64 s.state) rfl; have z4 := Blk.cell hSw 4 (.slice ao s.l.length ac) rfl; have z5 := Blk.cell hSw 5 (.int .i64 s.rw) rfl; have z6 := Blk.cell hSw 6 (.int .i64 s.hits) rfl; have z7 := Blk.cell hSw 7 (.int .i64 s.deopts) rfl; clear hSw; go_simp; (try with_reducible rfl)
                  simp only [Act.put, List.setIfInBounds_toArray, List.set_cons_zero, List.set_cons_succ]
                  refine wpK_take (i := 34) (v := ?_) rfl (by kernel_rfl) (fun _ _ _ h => h) (Or.inl ⟨by kernel_rfl, ?_⟩) hHeld ?_
                  rotate_left
                  · intro w hSw; (try dsimp only at hSw); have z3 := Blk.cell hSw 3 (.int .i64 s.state) rfl; have z4 := Blk.cell hSw 4 (.slice ao s.l.length ac) rfl; have z5 := Blk.cell hSw 5 (.int .i64 s.rw) rfl; have z6 := Blk.cell hSw 6 (.int .i64 s.hits) rfl; have z7 := Blk.cell hSw 7 (.int .i64 s.deopts) rfl; clear hSw; go_simp; (try with_reducible rfl)
                  simp only [Act.put, List.setIfInBounds_toArray, List.set_cons_zero, List.set_cons_succ]
                  refine wpK_take (i := 35) (v := ?_) rfl (by kernel_rfl) (fun _ _ _ h => h) (Or.inl ⟨by kernel_rfl, ?_⟩) hHeld ?_
                  rotate_left
                  · intro w hSw; (try dsimp only at hSw); have z3 := Blk.cell hSw 3 (.int .i64 s.state) rfl; have z4 := Blk.cell hSw 4 (.slice ao s.l.length ac) rfl; have z5 := Blk.cell hSw 5 (.int .i64 s.rw) rfl; have z6 := Blk.cell hSw 6 (.int .i64 s.hits) rfl; have z7 := Blk.cell hSw 7 (.int .i64 s.deopts) rfl; clear hSw; go_simp; (try with_reducible rfl)
                  simp only [Act.put, List.setIfInBounds_toArray, List.set_cons_zero, List.set_cons_succ]
                  refine wpK_take (i := 36) (v := ?_) rfl (by kernel_rfl) (fun _ _ _ h => h) (Or.inl ⟨by kernel_rfl, ?_⟩) hHeld ?_
                  rotate_left
                  · intro w hSw; (try dsimp only at hSw); have z3 := Blk.cell hSw 3 (.int .i64 s.state) rfl; have z4 := Blk.cell hSw 4 (.slice ao s.l.length ac) rfl; have z5 := Blk.cell hSw 5 (.int .i64 s.rw) rfl; have z6 := Blk.cell hSw 6 (.int .i64 s.hits) rfl; have z7 := Blk.cell hSw 7 (.int .i64 s.deopts) rfl; clear hSw; go_simp; (try with_reducible rfl)
                  simp only [Act.put, List.setIfInBounds_toArray, List.set_cons_zero, List.set_cons_succ]
                  refine wpK_take (i := 38) (v := ?_) rfl (by kernel_rfl) (fun _ _ _ h => h) (Or.inl ⟨by kernel_rfl, ?_⟩) hHeld ?_
                  rotate_left
                  · intro w hSw; (try dsimp only at hSw); have z3 := Blk.cell hSw 3 (.int .i64 s.state) rfl; have z4 := Blk.cell hSw 4 (.slice ao s.l.length ac) rfl; have z5 := Blk.cell hSw 5 (.int .i64 s.rw) rfl; have z6 := Blk.cell hSw 6 (.int .i64 s.hits) rfl; have z7 := Blk.cell hSw 7 (.int .i64 s.deopts) rfl; clear hSw; go_simp; (try with_reducible rfl)
                  simp only [Act.put, List.setIfInBounds_toArray, List.set_cons_zero, List.set_cons_succ]
                  refine wpK_take (i := 39) (v := ?_) rfl (by kernel_rfl) (fun _ _ _ h => h) (Or.inl ⟨by kernel_rfl, ?_⟩) hHeld ?_
                  rotate_left
                  · intro w hSw; (try dsimp only at hSw); have z3 := Blk.cell hSw 3 (.int .i64 s.state) rfl; have z4 := Blk.cell hSw 4 (.slice ao s.l.length ac) rfl; have z5 := Blk.cell hSw 5 (.int .i64 s.rw) rfl; have z6 := Blk.cell hSw 6 (.int .i64 s.hits) rfl; have z7 := Blk.cell hSw 7 (.int .i64 s.deopts) rfl; clear hSw; go_simp; (try with_reducible rfl)
                  simp only [Act.put, List.setIfInBounds_toArray, List.set_cons_zero, List.set_cons_succ]
                  refine wpK_take (i := 40) (v := ?_) rfl (by kernel_rfl) (fun _ _ _ h => h) (Or.inl ⟨by kernel_rfl, ?_⟩) hHeld ?_
                  rotate_left
                  · intro w hSw; (try dsimp only at hSw); have z3 := Blk.cell hSw 3 (.int .i64 s.state) rfl; have z4 := Blk.cell hSw 4 (.slice ao s.l.length ac) rfl; have z5 := Blk.cell hSw 5 (.int .i64 s.rw) rfl; have z6 := Blk.cell hSw 6 (.int .i64 s.hits) rfl; have z7 := Blk.cell hSw 7 (.int .i64 s.deopts) rfl; clear hSw; go_simp; (try with_reducible rfl)
                  simp only [Act.put, List.setIfInBounds_toArray, List.set_cons_zero, List.set_cons_succ]
                  refine wpK_take (i := 41) (v := ?_) rfl (by kernel_rfl) (fun _ _ _ h => h) (Or.inl ⟨by kernel_rfl, ?_⟩) hHeld ?_
                  rotate_left
                  · intro w hSw; (try dsimp only at hSw); have z3 := Blk.cell hSw 3 (.int .i64 s.state) rfl; have z4 := Blk.cell hSw 4 (.slice ao s.l.length ac) rfl; have z5 := Blk.cell hSw 5 (.int .i64 s.rw) rfl; have z6 := Blk.cell hSw 6 (.int .i64 s.hits) rfl; have z7 := Blk.cell hSw 7 (.int .i64 s.deopts) rfl; clear hSw; go_simp; (try with_reducible rfl)
                  simp only [Act.put, List.setIfInBounds_toArray, List.set_cons_zero, List.set_cons_succ]
                  refine wpK_one (i := 37) (by kernel_rfl) rfl (fun K' hK => ?_)
                  go_simp
                  refine (deopts_own O1.out).mono ?_
                  rintro _ wt ⟨rfl, hk⟩
                  refine hK.out _ _ (fun _ => Blk.kp hHeld hk (fun h => h)) (fun hHeld' => ?_)
                  have hHeld := hHeld' (by decide)
                  clear hHeld' hK K'
                  replace O1 := Lib.hid (own_tell O1.out hk)
                  replace KY := Lib.hid (KY.out.trans hk)
                  clear hk
                  refine wpK_take (i := 42) (v := ?_) rfl (by kernel_rfl) (fun _ _ _ h => h) (Or.inl ⟨by kernel_rfl, ?_⟩) hHeld ?_
                  rotate_left
                  · intro w hSw; (try dsimp only at hSw); have z3 := Blk.cell hSw 3 (.int .i64 s.state) rfl; have z4 := Blk.cell hSw 4 (.slice ao s.l.length ac) rfl; have z5 := Blk.cell hSw 5 (.int .i64 s.rw) rfl; have z6 := Blk.cell hSw 6 (.int .i64 s.hits) rfl; have z7 := Blk.cell hSw 7 (.int .i64 s.deopts) rfl; clear hSw; go_simp; (try with_reducible rfl)
                  simp only [Act.put, List.setIfInBounds_toArray, List.set_cons_zero, List.set_cons_succ]
                  refine wpK_take (i := 43) (v := ?_) rfl (by kernel_rfl) (fun _ _ _ h => h) (Or.inl ⟨by kernel_rfl, ?_⟩) hHeld ?_
                  rotate_left
                  · intro w hSw; (try dsimp only at hSw); have z3 := Blk.cell hSw 3 (.int .i64 s.state) rfl; have z4 := Blk.cell hSw 4 (.slice ao s.l.length ac) rfl; have z5 := Blk.cell hSw 5 (.int .i64 s.rw) rfl; have z6 := Blk.cell hSw 6 (.int .i64 s.hits) rfl; have z7 := Blk.cell hSw 7 (.int .i64 s.deopts) rfl; clear hSw; go_simp; (try with_reducible rfl)
                  simp only [Act.put, List.setIfInBounds_toArray, List.set_cons_zero, List.set_cons_succ]
                  refine wpK_done (by kernel_rfl) ?_ _
                  clear hHeld
                  go_wp2
                  go_roundw
                  case rel => exact ⟨j + 1, by go_num, by omega, KY.out⟩
                  case measure => simp [intOf]; omega
                · have hfin : Lap (fun k => B ≤ k) w6 p m b bs b' bs' (i + 1) lz n2 wr := ⟨(HT.out.tell ky).mono (fun _ h => h.1), HZ.out, by show 0 ≤ n2; omega, by show n2 ≤ ((i + 1 : Nat) : Int); omega, HFW.out, KL.out.trans (ky.mono (fun _ _ h => h.elim))⟩
                  have HFIN := Lib.hid hfin
                  clear hfin ky
                  go_wp2
                  go_roundw
                  case rel => exact ⟨i + 1, lz, n2, by go_num, by omega, HFIN.out⟩
                  case measure => simp [intOf]; omega
        · have HF := Lib.hid (kw.below (Nat.le_refl _) (fun _ h => by omega))
          clear kw hL
          go_wp2
          go_returns
          exact ⟨rfl, HF.out⟩
end Go.Proofs.Ytcdofhfneiednaa
