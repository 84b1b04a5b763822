/- selkielaw20.CoroPlays: the walk. -/
import Derived.Test.YtbmbfgcdbpanjaaCrU
import Derived.Deep.DeepCutAuto
import Derived.Deep.LoopGhost
import Derived.Deep.RegionHeld
namespace Go.Proofs.Ytbmbfgcdbpanjaa
set_option linter.unusedSimpArgs false
set_option linter.unusedVariables false
open Go.RowKit

/-- What the loop keeps: the two sides agree, over blocks apart. -/
def InPlays (w : World) (b c : Nat) (j : Nat) (wr : World) : Prop :=
  ∃ (B : Bk) (F G : Nat → Prop), Book wr b B F ∧ RBook wr c B G ∧ (∀ k, F k → G k → False) ∧ (∀ k, F k → w.heap.size ≤ k) ∧ (∀ k, G k → w.heap.size ≤ k) ∧ B.ended.length ≤ j + 1 ∧ B.wait.length ≤ j + 1 ∧ Kp (fun k => w.heap.size ≤ k) w wr

set_option maxRecDepth 100000 in
theorem plays_many (sa : Option Addr) (len cap : Nat) (w : World) (hl : 500 < len) (hl2 : len ≤ 140737488351232) :
    Calls Try.prog 5 #[.slice sa len cap] w fun e w' => e = .returned (.bool true) ∧ Below w.heap.size w w' := by
  go_enter Try.func5, Try.ntmps5
  go_wp2_with fail
  refine (alive_any _).mono ?_
  rintro e w1 ⟨rfl, hk⟩
  go_wp2
  go_returns
  exact ⟨rfl, hk⟩
set_option maxRecDepth 100000 in
set_option maxHeartbeats 4000000 in
theorem plays_any (sa : Option Addr) (len cap : Nat) (w : World) (hl : len ≤ 500) (ho : len ≤ 0 ∨ ∃ ob off os, sa = some ⟨ob, off, none⟩ ∧ Cops w ob off len os) :
    Calls Try.prog 5 #[.slice sa len cap] w fun e w' => e = .returned (.bool true) ∧ Below w.heap.size w w' := by
  have HO := Lib.hid ho; clear ho
  go_enter Try.func5, Try.ntmps5
  go_wp2_with fail
  refine (alive_any _).mono ?_
  rintro e w1 ⟨rfl, hk⟩
  have kk : Kp (fun k => w.heap.size ≤ k) w w1 := Kp.of_below hk
  have hs1 := hk.size
  clear hk
  go_wp2_with fail
  refine (newb_any _).mono ?_
  rintro e w2 ⟨b, F0, rfl, hB0, hF0, hk⟩
  replace kk := kk.trans (Kp.of_below hk)
  have hs2 := hk.size
  clear hk
  go_wp2_with fail
  refine (rnewb_any _).mono ?_
  rintro e w3 ⟨c, G0, rfl, hR0, hG0, hk⟩
  have hI : InPlays w b c 0 w3 := ⟨⟨[0], [false]⟩, _, G0, hB0.old.kp (Kp.of_below hk (S := fun _ => False)) (fun _ _ _ h => h), hR0, fun k h1 h2 => by have := h1.2; have := hG0 k h2; omega, fun k hk => by have := hF0 k hk.1; omega, fun k hk => by have := hG0 k hk; omega, by simp, by simp, kk.trans (Kp.of_below hk)⟩
  clear hB0 hF0 hR0 hG0 kk hk hs1 hs2
  go_wp2_with fail
  go_loopw [17] (fun iv wr => ∃ j : Nat, iv = .int .i64 j ∧ j ≤ len ∧ InPlays w b c j wr) (fun iv _ => len - (intOf iv).toNat)
  case atStart => exact ⟨0, rfl, by omega, hI⟩
  case round =>
    clear hI
    obtain ⟨j, rfl, hj, B, F, G, hS, hR, hFG, hF, hG, he, hw, kk⟩ := hrel
    by_cases hlt : (j : Int) < len
    · obtain ⟨ob, off, os, rfl, ho⟩ := HO.out.resolve_left (by omega)
      replace ho := ho.kp kk (by have := ho.lt; omega)
      have c0 := ho.k j (by omega)
      have c1 := ho.a j (by omega)
      have hol := ho.lt
      clear ho
      generalize os j = o at *
      have HS := Lib.hid hS; have HR := Lib.hid hR; have HFG := Lib.hid hFG; have HF := Lib.hid hF; have HG := Lib.hid hG; have KK := Lib.hid kk
      clear hS hR hFG hF hG kk
      go_wp2_with fail
      have hsr := KK.out.size
      have k0 : Kp (fun _ => False) wr ((wr.alloc (.cells #[.int .i64 o.k, .int .i64 o.a] 34)).drew) := ((Kp.refl _ _).alloc _).drew
      have X0 : Blk ((wr.alloc (.cells #[.int .i64 o.k, .int .i64 o.a] 34)).drew) wr.heap.size 34 #[.int .i64 o.k, .int .i64 o.a] := (Blk.new rfl).drew
      have K0 := Lib.hid k0; have HX := Lib.hid X0; clear k0 X0
      have hg := act_grows B o
      have hlw : (B.act o).wait.length ≤ j + 1 + 1 ∧ (B.act o).ended.length ≤ j + 1 + 1 := by
        have h2 := hg.2
        split at h2 <;> omega
      clear hg
      refine wp_region_K (S := fun w' => Blk w' wr.heap.size 34 #[.int .i64 o.k, .int .i64 o.a]) (K := 21) (by kernel_rfl) ?_
      have hHeld : (fun w' => Blk w' wr.heap.size 34 #[.int .i64 o.k, .int .i64 o.a]) (World.drew _) := HX.out
      refine wpK_take (i := 0) (v := ?_) rfl (by kernel_rfl) (fun _ _ _ h => h) (Or.inl ⟨by kernel_rfl, ?_⟩) hHeld ?_
      rotate_left
      · intro w hSw; (try dsimp only at hSw); have y0 := Blk.cell hSw 0 (.int .i64 o.k) rfl; have y1 := Blk.cell hSw 1 (.int .i64 o.a) rfl; clear hSw; go_simp; (try with_reducible rfl)
      simp only [Act.put, List.setIfInBounds_toArray, List.set_cons_zero, List.set_cons_succ]
      refine wpK_take (i := 1) (v := ?_) rfl (by kernel_rfl) (fun _ _ _ h => h) (Or.inl ⟨by kernel_rfl, ?_⟩) hHeld ?_
      rotate_left
      · intro w hSw; (try dsimp only at hSw); have y0 := Blk.cell hSw 0 (.int .i64 o.k) rfl; have y1 := Blk.cell hSw 1 (.int .i64 o.a) rfl; clear hSw; go_simp; (try with_reducible rfl)
      simp only [Act.put, List.setIfInBounds_toArray, List.set_cons_zero, List.set_cons_succ]
      refine wpK_take (i := 3) (v := ?_) rfl (by kernel_rfl) (fun _ _ _ h => h) (Or.inl ⟨by kernel_rfl, ?_⟩) hHeld ?_
      rotate_left
      · intro w hSw; (try dsimp only at hSw); have y0 := Blk.cell hSw 0 (.int .i64 o.k) rfl; have y1 := Blk.cell hSw 1 (.int .i64 o.a) rfl; clear hSw; go_simp; (try with_reducible rfl)
      simp only [Act.put, List.setIfInBounds_toArray, List.set_cons_zero, List.set_cons_succ]
      refine wpK_take (i := 4) (v := ?_) rfl (by kernel_rfl) (fun _ _ _ h => h) (Or.inl ⟨by kernel_rfl, ?_⟩) hHeld ?_
      rotate_left
      · intro w hSw; (try dsimp only at hSw); have y0 := Blk.cell hSw 0 (.int .i64 o.k) rfl; have y1 := Blk.cell hSw 1 (.int .i64 o.a) rfl; clear hSw; go_simp; (try with_reducible rfl)
      simp only [Act.put, List.setIfInBounds_toArray, List.set_cons_zero, List.set_cons_succ]
      refine wpK_one (i := 2) (by kernel_rfl) rfl (fun K' hK => ?_)
      go_simp
      refine (do_book b B o (fun k => F k ∧ k < wr.heap.size) _ (HS.out.old.kp K0.out (fun _ _ _ h => h)) (by omega) (by omega)).mono ?_
      rintro e wa ⟨he, F', hs', hka, hF'⟩
      unfold Bk.ans at he
      obtain rfl := he
      refine hK.out _ _ (fun _ => Blk.kp HX.out hka (fun h => by have := h.2; omega)) (fun hHeld' => ?_)
      have hHeld := hHeld' (by decide)
      clear hHeld' hK K'
      have kA : Kp (fun k => F k ∧ k < wr.heap.size) wr wa := (K0.out.mono (S' := fun k => F k ∧ k < wr.heap.size) (fun _ _ h => h.elim)).trans' hka (fun _ _ h => h)
      have hFa : ∀ k, F' k → (F k ∧ k < wr.heap.size) ∨ wr.heap.size < k := fun k hk => (hF' k hk).imp id (fun h => by simp at h; omega)
      have KA := Lib.hid kA; have HSA := Lib.hid hs'; have HFA := Lib.hid hFa; have hsa := kA.size
      have hxa := Blk.lt hHeld
      clear kA hs' hFa hka hF'
      refine wpK_one (i := 5) (by kernel_rfl) rfl (fun K' hK => ?_)
      go_simp
      refine (rdo_book c B o (fun k => G k ∧ k < wr.heap.size) _ (HR.out.old.kp KA.out (fun k _ hG hF => HFG.out k hF.1 hG.1)) (by omega) (by omega)).mono ?_
      rintro e wb ⟨he, G', hr', hkb, hG'⟩
      unfold Bk.ans at he
      obtain rfl := he
      refine hK.out _ _ (fun _ => Blk.kp hHeld hkb (fun h => by have := h.2; omega)) (fun hHeld' => ?_)
      have hHeld := hHeld' (by decide)
      clear hHeld' hK K'
      have kB : Kp (fun k => w.heap.size ≤ k) w wb := (KK.out.trans' KA.out (fun k _ h => HF.out k h.1)).trans' hkb (fun k _ h => HG.out k h.1)
      have hsB : Book wb b (B.act o) (fun k => F' k ∧ k < wa.heap.size) := HSA.out.old.kp hkb (fun k _ hF hG => by
        rcases HFA.out k hF.1 with h | h
        · exact HFG.out k h.1 hG.1
        · have := hG.2; omega)
      have hd : ∀ k, (F' k ∧ k < wa.heap.size) → G' k → False := fun k h1 h2 => by
        rcases hG' k h2 with h | h
        · rcases HFA.out k h1.1 with h3 | h3
          · exact HFG.out k h3.1 h.1
          · have := h.2; omega
        · omega
      have hf' : ∀ k, (F' k ∧ k < wa.heap.size) → w.heap.size ≤ k := fun k h1 => by
        rcases HFA.out k h1.1 with h3 | h3
        · exact HF.out k h3.1
        · omega
      have hg' : ∀ k, G' k → w.heap.size ≤ k := fun k h1 => by
        rcases hG' k h1 with h3 | h3
        · exact HG.out k h3.1
        · omega
      have KB := Lib.hid kB; have HSB := Lib.hid hsB; have HRB := Lib.hid hr'; have HD := Lib.hid hd; have HF2 := Lib.hid hf'; have HG2 := Lib.hid hg'
      have hsw : wr.heap.size ≤ wb.heap.size := by have := hkb.size; omega
      clear kB hsB hr' hd hf' hg' hkb hG'
      generalize hsp : B.act o = B' at *
      clear hsp
      generalize B.ansN o = N0 at *
      generalize B.ansE o = E0 at *
      generalize B.ansS o = S0 at *
      refine wpK_take (i := 6) (v := ?_) rfl (by kernel_rfl) (fun _ _ _ h => h) (Or.inl ⟨by kernel_rfl, ?_⟩) hHeld ?_
      rotate_left
      · intro w hSw; (try dsimp only at hSw); have y0 := Blk.cell hSw 0 (.int .i64 o.k) rfl; have y1 := Blk.cell hSw 1 (.int .i64 o.a) rfl; clear hSw; go_simp; (try with_reducible rfl)
      simp only [Act.put, List.setIfInBounds_toArray, List.set_cons_zero, List.set_cons_succ]
      refine wpK_take (i := 7) (v := ?_) rfl (by kernel_rfl) (fun _ _ _ h => h) (Or.inl ⟨by kernel_rfl, ?_⟩) hHeld ?_
      rotate_left
      · intro w hSw; (try dsimp only at hSw); have y0 := Blk.cell hSw 0 (.int .i64 o.k) rfl; have y1 := Blk.cell hSw 1 (.int .i64 o.a) rfl; clear hSw; go_simp; (try with_reducible rfl)
      simp only [Act.put, List.setIfInBounds_toArray, List.set_cons_zero, List.set_cons_succ]
      refine wpK_take (i := 8) (v := ?_) rfl (by kernel_rfl) (fun _ _ _ h => h) (Or.inl ⟨by kernel_rfl, ?_⟩) hHeld ?_
      rotate_left
      · intro w hSw; (try dsimp only at hSw); have y0 := Blk.cell hSw 0 (.int .i64 o.k) rfl; have y1 := Blk.cell hSw 1 (.int .i64 o.a) rfl; clear hSw; go_simp; (try with_reducible rfl)
      simp only [Act.put, List.setIfInBounds_toArray, List.set_cons_zero, List.set_cons_succ]
      refine wpK_take (i := 10) (v := ?_) rfl (by kernel_rfl) (fun _ _ _ h => h) (Or.inl ⟨by kernel_rfl, ?_⟩) hHeld ?_
      rotate_left
      · intro w hSw; (try dsimp only at hSw); have y0 := Blk.cell hSw 0 (.int .i64 o.k) rfl; have y1 := Blk.cell hSw 1 (.int .i64 o.a) rfl; clear hSw; go_simp; (try with_reducible rfl)
      simp only [Act.put, List.setIfInBounds_toArray, List.set_cons_zero, List.set_cons_succ]
      refine wpK_one (i := 9) (by kernel_rfl) rfl (fun K' hK => ?_)
      go_simp
      refine (running_book b B' _ _ HSB.out).mono ?_
      rintro _ wb ⟨rfl, hk⟩
      refine hK.out _ _ (fun _ => Blk.kp hHeld hk (fun h => h)) (fun hHeld' => ?_)
      have hHeld := hHeld' (by decide)
      clear hHeld' hK K'
      replace HSB := Lib.hid (HSB.out.kp hk (fun _ _ _ h => h))
      replace HRB := Lib.hid (HRB.out.kp hk (fun _ _ _ h => h))
      replace KB := Lib.hid (kp_tell KB.out hk)
      clear hk
      refine wpK_one (i := 11) (by kernel_rfl) rfl (fun K' hK => ?_)
      go_simp
      refine (rrunning_book c B' _ _ HRB.out).mono ?_
      rintro _ wb ⟨rfl, hk⟩
      refine hK.out _ _ (fun _ => Blk.kp hHeld hk (fun h => h)) (fun hHeld' => ?_)
      have hHeld := hHeld' (by decide)
      clear hHeld' hK K'
      replace HSB := Lib.hid (HSB.out.kp hk (fun _ _ _ h => h))
      replace HRB := Lib.hid (HRB.out.kp hk (fun _ _ _ h => h))
      replace KB := Lib.hid (kp_tell KB.out hk)
      clear hk
      refine wpK_take (i := 12) (v := ?_) rfl (by kernel_rfl) (fun _ _ _ h => h) (Or.inl ⟨by kernel_rfl, ?_⟩) hHeld ?_
      rotate_left
      · intro w hSw; (try dsimp only at hSw); have y0 := Blk.cell hSw 0 (.int .i64 o.k) rfl; have y1 := Blk.cell hSw 1 (.int .i64 o.a) rfl; clear hSw; go_simp; (try with_reducible rfl)
      simp only [Act.put, List.setIfInBounds_toArray, List.set_cons_zero, List.set_cons_succ]
      refine wpK_take (i := 13) (v := ?_) rfl (by kernel_rfl) (fun _ _ _ h => h) (Or.inl ⟨by kernel_rfl, ?_⟩) hHeld ?_
      rotate_left
      · intro w hSw; (try dsimp only at hSw); have y0 := Blk.cell hSw 0 (.int .i64 o.k) rfl; have y1 := Blk.cell hSw 1 (.int .i64 o.a) rfl; clear hSw; go_simp; (try with_reducible rfl)
      simp only [Act.put, List.setIfInBounds_toArray, List.set_cons_zero, List.set_cons_succ]
      refine wpK_take (i := 14) (v := ?_) rfl (by kernel_rfl) (fun _ _ _ h => h) (Or.inl ⟨by kernel_rfl, ?_⟩) hHeld ?_
      rotate_left
      · intro w hSw; (try dsimp only at hSw); have y0 := Blk.cell hSw 0 (.int .i64 o.k) rfl; have y1 := Blk.cell hSw 1 (.int .i64 o.a) rfl; clear hSw; go_simp; (try with_reducible rfl)
      simp only [Act.put, List.setIfInBounds_toArray, List.set_cons_zero, List.set_cons_succ]
      refine wpK_take (i := 15) (v := ?_) rfl (by kernel_rfl) (fun _ _ _ h => h) (Or.inl ⟨by kernel_rfl, ?_⟩) hHeld ?_
      rotate_left
      · intro w hSw; (try dsimp only at hSw); have y0 := Blk.cell hSw 0 (.int .i64 o.k) rfl; have y1 := Blk.cell hSw 1 (.int .i64 o.a) rfl; clear hSw; go_simp; (try with_reducible rfl)
      simp only [Act.put, List.setIfInBounds_toArray, List.set_cons_zero, List.set_cons_succ]
      refine wpK_take (i := 17) (v := ?_) rfl (by kernel_rfl) (fun _ _ _ h => h) (Or.inl ⟨by kernel_rfl, ?_⟩) hHeld ?_
      rotate_left
      · intro w hSw; (try dsimp only at hSw); have y0 := Blk.cell hSw 0 (.int .i64 o.k) rfl; have y1 := Blk.cell hSw 1 (.int .i64 o.a) rfl; clear hSw; go_simp; (try with_reducible rfl)
      simp only [Act.put, List.setIfInBounds_toArray, List.set_cons_zero, List.set_cons_succ]
      refine wpK_one (i := 16) (by kernel_rfl) rfl (fun K' hK => ?_)
      go_simp
      refine (deep_book b B' _ _ HSB.out).mono ?_
      rintro _ wb ⟨rfl, hk⟩
      refine hK.out _ _ (fun _ => Blk.kp hHeld hk (fun h => h)) (fun hHeld' => ?_)
      have hHeld := hHeld' (by decide)
      clear hHeld' hK K'
      replace HSB := Lib.hid (HSB.out.kp hk (fun _ _ _ h => h))
      replace HRB := Lib.hid (HRB.out.kp hk (fun _ _ _ h => h))
      replace KB := Lib.hid (kp_tell KB.out hk)
      clear hk
      refine wpK_one (i := 18) (by kernel_rfl) rfl (fun K' hK => ?_)
      go_simp
      refine (rdeep_book c B' _ _ HRB.out).mono ?_
      rintro _ wb ⟨rfl, hk⟩
      refine hK.out _ _ (fun _ => Blk.kp hHeld hk (fun h => h)) (fun hHeld' => ?_)
      have hHeld := hHeld' (by decide)
      clear hHeld' hK K'
      replace HSB := Lib.hid (HSB.out.kp hk (fun _ _ _ h => h))
      replace HRB := Lib.hid (HRB.out.kp hk (fun _ _ _ h => h))
      replace KB := Lib.hid (kp_tell KB.out hk)
      clear hk
      refine wpK_take (i := 19) (v := ?_) rfl (by kernel_rfl) (fun _ _ _ h => h) (Or.inl ⟨by kernel_rfl, ?_⟩) hHeld ?_
      rotate_left
      · intro w hSw; (try dsimp only at hSw); have y0 := Blk.cell hSw 0 (.int .i64 o.k) rfl; have y1 := Blk.cell hSw 1 (.int .i64 o.a) rfl; clear hSw; go_simp; (try with_reducible rfl)
      simp only [Act.put, List.setIfInBounds_toArray, List.set_cons_zero, List.set_cons_succ]
      refine wpK_take (i := 20) (v := ?_) rfl (by kernel_rfl) (fun _ _ _ h => h) (Or.inl ⟨by kernel_rfl, ?_⟩) hHeld ?_
      rotate_left
      · intro w hSw; (try dsimp only at hSw); have y0 := Blk.cell hSw 0 (.int .i64 o.k) rfl; have y1 := Blk.cell hSw 1 (.int .i64 o.a) rfl; clear hSw; go_simp; (try with_reducible rfl)
      simp only [Act.put, List.setIfInBounds_toArray, List.set_cons_zero, List.set_cons_succ]
      refine wpK_done (by kernel_rfl) ?_ _
      clear hHeld
      obtain ⟨vl, vb, by', g1, g2, _⟩ := HRB.out
      obtain ⟨ao, ac, rfl⟩ := row_form g2
      have G1 := Lib.hid g1
      have hsm := HRB.out.ok.small
      clear g1 g2
      go_wp2_with fail
      go_loopw [7] (fun iv wx => ∃ i : Nat, iv = .int .i64 ((i : Int) - 1) ∧ i ≤ B'.ended.length + 2 ∧ Kp (fun _ => False) wb wx) (fun iv _ => B'.ended.length + 2 - (intOf iv + 1).toNat)
      case atStart => exact ⟨0, rfl, by omega, Kp.refl _ _⟩
      case round =>
        obtain ⟨i, rfl, hi, kx⟩ := hrel
        have hgx := Blk.kp G1.out kx (fun h => h)
        have d0 := hgx.cell 0 (.slice ao B'.ended.length ac) rfl
        have lb := hgx.lt
        have KX := Lib.hid kx
        clear kx hgx
        obtain ⟨z, hz⟩ : ∃ z : Int, z = (i : Int) - 1 := ⟨_, rfl⟩
        rw [← hz]
        have hzl : -1 ≤ z ∧ z ≤ B'.ended.length + 1 := by omega
        have HZ := Lib.hid hz; clear hz
        by_cases hlt2 : z ≤ B'.ended.length
        · go_wp2_with fail
          refine (status_book b B' _ z _ (HSB.out.kp KX.out (fun _ _ _ h => h))).mono ?_
          rintro e wy ⟨rfl, hk⟩
          have KY := Lib.hid (KX.out.trans hk)
          clear hk
          go_wp2_with fail
          refine (rstatus_book c B' _ z _ (HRB.out.kp KY.out (fun _ _ _ h => h))).mono ?_
          rintro e wz ⟨rfl, hk⟩
          have KZ := Lib.hid (KY.out.trans hk)
          clear hk d0
          generalize word (B'.code z) = S at *
          go_wp2
          go_roundw
          case rel => exact ⟨i + 1, by rw [HZ.out]; go_num, by have := HZ.out; omega, KZ.out⟩
          case measure => simp [intOf]; have := HZ.out; omega
        · have HI : InPlays w b c (j + 1) wr := ⟨B', _, _, HSB.out.kp KX.out (fun _ _ _ h => h), HRB.out.kp KX.out (fun _ _ _ h => h), HD.out, HF2.out, HG2.out, by omega, by omega, kp_tell KB.out KX.out⟩
          have HII := Lib.hid HI; clear HI
          go_wp2
          go_roundw
          case rel => exact ⟨j + 1, by go_num, by omega, HII.out⟩
          case measure => simp [intOf]; omega
    · go_wp2
      go_returns
      exact ⟨rfl, kk.below (Nat.le_refl _) (fun _ h => by omega)⟩
end Go.Proofs.Ytbmbfgcdbpanjaa
