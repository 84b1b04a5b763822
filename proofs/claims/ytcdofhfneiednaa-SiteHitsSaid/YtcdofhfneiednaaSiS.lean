/- selkielaw17.SitePlays answers true: the walk. -/
import Derived.Test.YtcdofhfneiednaaSiR
import Derived.Deep.DeepCutAuto
import Derived.Deep.LoopGhost
namespace Go.Proofs.Ytcdofhfneiednaa
set_option linter.unusedSimpArgs false
set_option linter.unusedVariables false
open Go.RowKit

theorem act_step (s : SS) (o : Sop) : (s.act o).hits ≤ s.hits + 1 ∧ (s.act o).rw ≤ s.rw + 1 := by
  have h1 := hits_step s o.a o.ep
  have h2 := rw_step s ⟨o.a, o.b, o.ep⟩
  have h3 := rw_deopt s
  unfold SS.act SS.evict SS.flush SS.dep SS.forget
  repeat' split
  all_goals (constructor <;> (try dsimp only) <;> omega)
/-- What the loop keeps: the two sides agree, over blocks apart. -/
def InPlays (w : World) (b c : Nat) (j : Nat) (wr : World) : Prop :=
  ∃ (s : SS) (F G : Nat → Prop), Site wr b s F ∧ RSite wr c s G ∧ (∀ k, F k → G k → False) ∧ (∀ k, F k → w.heap.size ≤ k) ∧ (∀ k, G k → w.heap.size ≤ k) ∧ s.hits ≤ j ∧ s.rw ≤ j ∧ Kp (fun k => w.heap.size ≤ k) w wr
set_option maxRecDepth 100000 in
theorem plays_many (ways warm : Int) (sa : Option Addr) (len cap : Nat) (w : World) (hl : 2000 < len) (hl2 : len ≤ 140737488351232) :
    Calls Try.prog 5 #[.int .i64 ways, .int .i64 warm, .slice sa len cap] w fun e w' => e = .returned (.bool true) ∧ Below w.heap.size w w' := by
  go_enter Try.func5, Try.ntmps5
  go_wp2_with fail
  refine (alive_any _).mono ?_
  rintro e w1 ⟨rfl, hk⟩
  have kk : Kp (fun k => w.heap.size ≤ k) w w1 := Kp.of_below hk
  have hs1 := hk.size
  clear hk
  go_wp2
  go_returns
  exact ⟨rfl, kk.below (Nat.le_refl _) (fun _ h => by omega)⟩
set_option maxRecDepth 100000 in
theorem plays_none (ways warm : Int) (sa : Option Addr) (cap : Nat) (w : World) :
    Calls Try.prog 5 #[.int .i64 ways, .int .i64 warm, .slice sa 0 cap] w fun e w' => e = .returned (.bool true) ∧ Below w.heap.size w w' := by
  go_enter Try.func5, Try.ntmps5
  go_wp2_with fail
  refine (alive_any _).mono ?_
  rintro e w1 ⟨rfl, hk⟩
  have kk : Kp (fun k => w.heap.size ≤ k) w w1 := Kp.of_below hk
  have hs1 := hk.size
  clear hk
  go_wp2_with fail
  refine (new_site ways warm _).mono ?_
  rintro e w2 ⟨b, rfl, hb, hS, hk⟩
  replace kk := kk.trans (Kp.of_below hk)
  clear hk
  have hbl := hS.lt
  go_wp2_with fail
  refine (rnew_site ways warm _).mono ?_
  rintro e w3 ⟨c, rfl, hc, hR, hk⟩
  replace kk := kk.trans (Kp.of_below hk)
  have hS3 := hS.kp (Kp.of_below hk (S := fun _ => False)) (fun _ _ _ h => h)
  clear hk hS
  have hI : InPlays w b c 0 w3 := ⟨SS.new ways warm, _, _, hS3, hR, fun k h1 h2 => by omega, fun k hk => by omega, fun k hk => by omega, by simp [SS.new], by simp [SS.new], kk⟩
  clear hI hR hS3
  go_wp2_with fail
  go_rounds 1
  go_returns
  exact ⟨rfl, kk.below (Nat.le_refl _) (fun _ h => by omega)⟩

set_option maxRecDepth 100000 in
set_option maxHeartbeats 1000000 in
theorem plays_any (ways warm : Int) (ob off len cap : Nat) (os : Nat → Sop) (w : World) (hl : len ≤ 2000) (ho : Sops w ob off len os) :
    Calls Try.prog 5 #[.int .i64 ways, .int .i64 warm, .slice (some ⟨ob, off, none⟩) len cap] w fun e w' => e = .returned (.bool true) ∧ Below w.heap.size w w' := by
  have HO := Lib.hid ho; clear ho
  go_enter Try.func5, Try.ntmps5
  go_wp2_with fail
  refine (alive_any _).mono ?_
  rintro e w1 ⟨rfl, hk⟩
  have kk : Kp (fun k => w.heap.size ≤ k) w w1 := Kp.of_below hk
  have hs1 := hk.size
  clear hk
  go_wp2_with fail
  refine (new_site ways warm _).mono ?_
  rintro e w2 ⟨b, rfl, hb, hS, hk⟩
  replace kk := kk.trans (Kp.of_below hk)
  clear hk
  have hbl := hS.lt
  go_wp2_with fail
  refine (rnew_site ways warm _).mono ?_
  rintro e w3 ⟨c, rfl, hc, hR, hk⟩
  replace kk := kk.trans (Kp.of_below hk)
  have hS3 := hS.kp (Kp.of_below hk (S := fun _ => False)) (fun _ _ _ h => h)
  clear hk hS
  have hI : InPlays w b c 0 w3 := ⟨SS.new ways warm, _, _, hS3, hR, fun k h1 h2 => by omega, fun k hk => by omega, fun k hk => by omega, by simp [SS.new], by simp [SS.new], kk⟩
  clear hR hS3 hs1 hb hc hbl
  go_wp2_with fail
  go_loopw [24] (fun iv wr => ∃ j : Nat, iv = .int .i64 j ∧ j ≤ len ∧ InPlays w b c j wr) (fun iv _ => len - (intOf iv).toNat)
  case atStart => exact ⟨0, rfl, by omega, hI⟩
  case round =>
    clear kk hI
    obtain ⟨j, rfl, hj, s, F, G, hS, hR, hFG, hF, hG, hh, hr, kk⟩ := hrel
    by_cases hlt : (j : Int) < len
    · have ho := HO.out.kp kk (by have := HO.out.lt; omega)
      have c0 := ho.k j (by omega)
      have c1 := ho.a j (by omega)
      have c2 := ho.b' j (by omega)
      have c3 := ho.ep j (by omega)
      have hol := ho.lt
      clear ho
      generalize os j = o at *
      have HS := Lib.hid hS; have HR := Lib.hid hR; have HFG := Lib.hid hFG; have HF := Lib.hid hF; have HG := Lib.hid hG; have KK := Lib.hid kk
      clear hS hR hFG hF hG kk
      go_wp2_with fail
      have hsr := KK.out.size
      have k0 : Kp (fun _ => False) wr ((wr.alloc (.cells #[.int .i64 o.k, .int .i64 o.a, .int .i64 o.b, .int .u64 o.ep] 38)).drew) := ((Kp.refl _ _).alloc _).drew
      have X0 : Blk ((wr.alloc (.cells #[.int .i64 o.k, .int .i64 o.a, .int .i64 o.b, .int .u64 o.ep] 38)).drew) wr.heap.size 38 #[.int .i64 o.k, .int .i64 o.a, .int .i64 o.b, .int .u64 o.ep] := (Blk.new rfl).drew
      have K0 := Lib.hid k0; have HX := Lib.hid X0; clear k0 X0
      refine wp_region_K (S := fun w' => Blk w' wr.heap.size 38 #[.int .i64 o.k, .int .i64 o.a, .int .i64 o.b, .int .u64 o.ep]) (K := 53) (by kernel_rfl) ?_
      have hHeld : (fun w' => Blk w' wr.heap.size 38 #[.int .i64 o.k, .int .i64 o.a, .int .i64 o.b, .int .u64 o.ep]) (World.drew _) := HX.out
      refine wpK_take (i := 0) (v := ?_) rfl (by kernel_rfl) (fun _ _ _ h => h) (Or.inl ⟨by kernel_rfl, ?_⟩) hHeld ?_
      rotate_left
      · intro w hSw; (try dsimp only at hSw); have y0 := Blk.cell hSw 0 (.int .i64 o.k) rfl; have y1 := Blk.cell hSw 1 (.int .i64 o.a) rfl; have y2 := Blk.cell hSw 2 (.int .i64 o.b) rfl; have y3 := Blk.cell hSw 3 (.int .u64 o.ep) rfl; clear hSw; go_simp; (try with_reducible rfl)
      simp only [Act.put, List.setIfInBounds_toArray, List.set_cons_zero, List.set_cons_succ]
      refine wpK_take (i := 1) (v := ?_) rfl (by kernel_rfl) (fun _ _ _ h => h) (Or.inl ⟨by kernel_rfl, ?_⟩) hHeld ?_
      rotate_left
      · intro w hSw; (try dsimp only at hSw); have y0 := Blk.cell hSw 0 (.int .i64 o.k) rfl; have y1 := Blk.cell hSw 1 (.int .i64 o.a) rfl; have y2 := Blk.cell hSw 2 (.int .i64 o.b) rfl; have y3 := Blk.cell hSw 3 (.int .u64 o.ep) rfl; clear hSw; go_simp; (try with_reducible rfl)
      simp only [Act.put, List.setIfInBounds_toArray, List.set_cons_zero, List.set_cons_succ]
      refine wpK_take (i := 3) (v := ?_) rfl (by kernel_rfl) (fun _ _ _ h => h) (Or.inl ⟨by kernel_rfl, ?_⟩) hHeld ?_
      rotate_left
      · intro w hSw; (try dsimp only at hSw); have y0 := Blk.cell hSw 0 (.int .i64 o.k) rfl; have y1 := Blk.cell hSw 1 (.int .i64 o.a) rfl; have y2 := Blk.cell hSw 2 (.int .i64 o.b) rfl; have y3 := Blk.cell hSw 3 (.int .u64 o.ep) rfl; clear hSw; go_simp; (try with_reducible rfl)
      simp only [Act.put, List.setIfInBounds_toArray, List.set_cons_zero, List.set_cons_succ]
      refine wpK_take (i := 4) (v := ?_) rfl (by kernel_rfl) (fun _ _ _ h => h) (Or.inl ⟨by kernel_rfl, ?_⟩) hHeld ?_
      rotate_left
      · intro w hSw; (try dsimp only at hSw); have y0 := Blk.cell hSw 0 (.int .i64 o.k) rfl; have y1 := Blk.cell hSw 1 (.int .i64 o.a) rfl; have y2 := Blk.cell hSw 2 (.int .i64 o.b) rfl; have y3 := Blk.cell hSw 3 (.int .u64 o.ep) rfl; clear hSw; go_simp; (try with_reducible rfl)
      simp only [Act.put, List.setIfInBounds_toArray, List.set_cons_zero, List.set_cons_succ]
      refine wpK_one (i := 2) (by kernel_rfl) rfl (fun K' hK => ?_)
      go_simp
      refine (do_site b s o (fun k => F k ∧ k < wr.heap.size) _ (HS.out.old.kp K0.out (fun _ _ _ h => h)) (by omega) (by omega)).mono ?_
      rintro e wa ⟨he, F', hs', hka, hF'⟩
      unfold SS.ans at he
      obtain rfl := he
      refine hK.out _ _ (fun _ => Blk.kp HX.out hka (fun h => by have := h.2; omega)) (fun hHeld' => ?_)
      have hHeld := hHeld' (by decide)
      clear hHeld' hK K'
      have kA : Kp (fun k => F k ∧ k < wr.heap.size) wr wa := (K0.out.mono (S' := fun k => F k ∧ k < wr.heap.size) (fun _ _ h => h.elim)).trans' hka (fun _ _ h => h)
      have hFa : ∀ k, F' k → (F k ∧ k < wr.heap.size) ∨ wr.heap.size < k := fun k hk => (hF' k hk).imp id (fun h => by simp at h; omega)
      have KA := Lib.hid kA; have HSA := Lib.hid hs'; have HFA := Lib.hid hFa; have hsa := kA.size
      have hxa := Blk.lt hHeld
      clear kA hs' hFa hka hF'
      refine wpK_one (i := 5) (by kernel_rfl) rfl (fun K' hK => ?_)
      go_simp
      refine (rdo_site c s o (fun k => G k ∧ k < wr.heap.size) _ (HR.out.old.kp KA.out (fun k _ hG hF => HFG.out k hF.1 hG.1)) (by omega) (by omega)).mono ?_
      rintro e wb ⟨he, G', hr', hkb, hG'⟩
      unfold SS.ans at he
      obtain rfl := he
      refine hK.out _ _ (fun _ => Blk.kp hHeld hkb (fun h => by have := h.2; omega)) (fun hHeld' => ?_)
      have hHeld := hHeld' (by decide)
      clear hHeld' hK K'
      have kB : Kp (fun k => w.heap.size ≤ k) w wb := (KK.out.trans' KA.out (fun k _ h => HF.out k h.1)).trans' hkb (fun k _ h => HG.out k h.1)
      have hsB : Site wb b (s.act o) (fun k => F' k ∧ k < wa.heap.size) := HSA.out.old.kp hkb (fun k _ hF hG => by
        rcases HFA.out k hF.1 with h | h
        · exact HFG.out k h.1 hG.1
        · have := hG.2; omega)
      have hd : ∀ k, (F' k ∧ k < wa.heap.size) → G' k → False := fun k h1 h2 => by
        rcases hG' k h2 with h | h
        · rcases HFA.out k h1.1 with h3 | h3
          · exact HFG.out k h3.1 h.1
          · have := h.2; omega
        · omega
      have hf' : ∀ k, (F' k ∧ k < wa.heap.size) → w.heap.size ≤ k := fun k h1 => by
        rcases HFA.out k h1.1 with h3 | h3
        · exact HF.out k h3.1
        · omega
      have hg' : ∀ k, G' k → w.heap.size ≤ k := fun k h1 => by
        rcases hG' k h1 with h3 | h3
        · exact HG.out k h3.1
        · omega
      have KB := Lib.hid kB; have HSB := Lib.hid hsB; have HRB := Lib.hid hr'; have HD := Lib.hid hd; have HF2 := Lib.hid hf'; have HG2 := Lib.hid hg'
      clear kB hsB hr' hd hf' hg' hkb hG'
      obtain ⟨v', r1, r2, _⟩ := HRB.out
      obtain ⟨ao, ac, rfl⟩ := r2.form
      clear r2
      generalize hsp : s.act o = s' at *
      have HSP := Lib.hid hsp; clear hsp
      refine wpK_swap (S' := fun w' => Blk w' wr.heap.size 38 #[.int .i64 o.k, .int .i64 o.a, .int .i64 o.b, .int .u64 o.ep] ∧ Blk w' c 46 (s'.cells (.slice ao s'.l.length ac))) (K' := 53) ?_ (by decide) _ _ _ _ ?_
      · intro w h; exact h.1
      have hHeld : (fun w' => Blk w' wr.heap.size 38 #[.int .i64 o.k, .int .i64 o.a, .int .i64 o.b, .int .u64 o.ep] ∧ Blk w' c 46 (s'.cells (.slice ao s'.l.length ac))) _ := ⟨hHeld, r1⟩
      refine wpK_take (i := 6) (v := ?_) rfl (by kernel_rfl) (fun _ _ _ h => h) (Or.inl ⟨by kernel_rfl, ?_⟩) hHeld ?_
      rotate_left
      · intro w hSw; (try dsimp only at hSw); have z3 := Blk.cell hSw.2 3 (.int .i64 s'.state) rfl; have z4 := Blk.cell hSw.2 4 (.slice ao s'.l.length ac) rfl; have z5 := Blk.cell hSw.2 5 (.int .i64 s'.rw) rfl; have z6 := Blk.cell hSw.2 6 (.int .i64 s'.hits) rfl; have z7 := Blk.cell hSw.2 7 (.int .i64 s'.deopts) rfl; clear hSw; go_simp; (try with_reducible rfl)
      simp only [Act.put, List.setIfInBounds_toArray, List.set_cons_zero, List.set_cons_succ]
      refine wpK_take (i := 7) (v := ?_) rfl (by kernel_rfl) (fun _ _ _ h => h) (Or.inl ⟨by kernel_rfl, ?_⟩) hHeld ?_
      rotate_left
      · intro w hSw; (try dsimp only at hSw); have z3 := Blk.cell hSw.2 3 (.int .i64 s'.state) rfl; have z4 := Blk.cell hSw.2 4 (.slice ao s'.l.length ac) rfl; have z5 := Blk.cell hSw.2 5 (.int .i64 s'.rw) rfl; have z6 := Blk.cell hSw.2 6 (.int .i64 s'.hits) rfl; have z7 := Blk.cell hSw.2 7 (.int .i64 s'.deopts) rfl; clear hSw; go_simp; (try with_reducible rfl)
      simp only [Act.put, List.setIfInBounds_toArray, List.set_cons_zero, List.set_cons_succ]
      refine wpK_take (i := 8) (v := ?_) rfl (by kernel_rfl) (fun _ _ _ h => h) (Or.inl ⟨by kernel_rfl, ?_⟩) hHeld ?_
      rotate_left
      · intro w hSw; (try dsimp only at hSw); have z3 := Blk.cell hSw.2 3 (.int .i64 s'.state) rfl; have z4 := Blk.cell hSw.2 4 (.slice ao s'.l.length ac) rfl; have z5 := Blk.cell hSw.2 5 (.int .i64 s'.rw) rfl; have z6 := Blk.cell hSw.2 6 (.int .i64 s'.hits) rfl; have z7 := Blk.cell hSw.2 7 (.int .i64 s'.deopts) rfl; clear hSw; go_simp; (try with_reducible rfl)
      simp only [Act.put, List.setIfInBounds_toArray, List.set_cons_zero, List.set_cons_succ]
      refine wpK_take (i := 10) (v := ?_) rfl (by kernel_rfl) (fun _ _ _ h => h) (Or.inl ⟨by kernel_rfl, ?_⟩) hHeld ?_
      rotate_left
      · intro w hSw; (try dsimp only at hSw); have z3 := Blk.cell hSw.2 3 (.int .i64 s'.state) rfl; have z4 := Blk.cell hSw.2 4 (.slice ao s'.l.length ac) rfl; have z5 := Blk.cell hSw.2 5 (.int .i64 s'.rw) rfl; have z6 := Blk.cell hSw.2 6 (.int .i64 s'.hits) rfl; have z7 := Blk.cell hSw.2 7 (.int .i64 s'.deopts) rfl; clear hSw; go_simp; (try with_reducible rfl)
      simp only [Act.put, List.setIfInBounds_toArray, List.set_cons_zero, List.set_cons_succ]
      refine wpK_take (i := 11) (v := ?_) rfl (by kernel_rfl) (fun _ _ _ h => h) (Or.inl ⟨by kernel_rfl, ?_⟩) hHeld ?_
      rotate_left
      · intro w hSw; (try dsimp only at hSw); have z3 := Blk.cell hSw.2 3 (.int .i64 s'.state) rfl; have z4 := Blk.cell hSw.2 4 (.slice ao s'.l.length ac) rfl; have z5 := Blk.cell hSw.2 5 (.int .i64 s'.rw) rfl; have z6 := Blk.cell hSw.2 6 (.int .i64 s'.hits) rfl; have z7 := Blk.cell hSw.2 7 (.int .i64 s'.deopts) rfl; clear hSw; go_simp; (try with_reducible rfl)
      simp only [Act.put, List.setIfInBounds_toArray, List.set_cons_zero, List.set_cons_succ]
      refine wpK_take (i := 12) (v := ?_) rfl (by kernel_rfl) (fun _ _ _ h => h) (Or.inl ⟨by kernel_rfl, ?_⟩) hHeld ?_
      rotate_left
      · intro w hSw; (try dsimp only at hSw); have z3 := Blk.cell hSw.2 3 (.int .i64 s'.state) rfl; have z4 := Blk.cell hSw.2 4 (.slice ao s'.l.length ac) rfl; have z5 := Blk.cell hSw.2 5 (.int .i64 s'.rw) rfl; have z6 := Blk.cell hSw.2 6 (.int .i64 s'.hits) rfl; have z7 := Blk.cell hSw.2 7 (.int .i64 s'.deopts) rfl; clear hSw; go_simp; (try with_reducible rfl)
      simp only [Act.put, List.setIfInBounds_toArray, List.set_cons_zero, List.set_cons_succ]
      refine wpK_take (i := 13) (v := ?_) rfl (by kernel_rfl) (fun _ _ _ h => h) (Or.inl ⟨by kernel_rfl, ?_⟩) hHeld ?_
      rotate_left
      · intro w hSw; (try dsimp only at hSw); have z3 := Blk.cell hSw.2 3 (.int .i64 s'.state) rfl; have z4 := Blk.cell hSw.2 4 (.slice ao s'.l.length ac) rfl; have z5 := Blk.cell hSw.2 5 (.int .i64 s'.rw) rfl; have z6 := Blk.cell hSw.2 6 (.int .i64 s'.hits) rfl; have z7 := Blk.cell hSw.2 7 (.int .i64 s'.deopts) rfl; clear hSw; go_simp; (try with_reducible rfl)
      simp only [Act.put, List.setIfInBounds_toArray, List.set_cons_zero, List.set_cons_succ]
      refine wpK_one (i := 9) (by kernel_rfl) rfl (fun K' hK => ?_)
      go_simp
      refine (state_site b s' _ _ HSB.out).mono ?_
      rintro _ wb ⟨rfl, hk⟩
      refine hK.out _ _ (fun _ => ⟨Blk.kp hHeld.1 hk (fun h => h), Blk.kp hHeld.2 hk (fun h => h)⟩) (fun hHeld' => ?_)
      have hHeld := hHeld' (by decide)
      clear hHeld' hK K'
      replace HSB := Lib.hid (HSB.out.kp hk (fun _ _ _ h => h))
      replace HRB := Lib.hid (HRB.out.kp hk (fun _ _ _ h => h))
      replace KB := Lib.hid (kp_tell KB.out hk)
      clear hk
      refine wpK_take (i := 14) (v := ?_) rfl (by kernel_rfl) (fun _ _ _ h => h) (Or.inl ⟨by kernel_rfl, ?_⟩) hHeld ?_
      rotate_left
      · intro w hSw; (try dsimp only at hSw); have z3 := Blk.cell hSw.2 3 (.int .i64 s'.state) rfl; have z4 := Blk.cell hSw.2 4 (.slice ao s'.l.length ac) rfl; have z5 := Blk.cell hSw.2 5 (.int .i64 s'.rw) rfl; have z6 := Blk.cell hSw.2 6 (.int .i64 s'.hits) rfl; have z7 := Blk.cell hSw.2 7 (.int .i64 s'.deopts) rfl; clear hSw; go_simp; (try with_reducible rfl)
      simp only [Act.put, List.setIfInBounds_toArray, List.set_cons_zero, List.set_cons_succ]
      refine wpK_take (i := 15) (v := ?_) rfl (by kernel_rfl) (fun _ _ _ h => h) (Or.inl ⟨by kernel_rfl, ?_⟩) hHeld ?_
      rotate_left
      · intro w hSw; (try dsimp only at hSw); have z3 := Blk.cell hSw.2 3 (.int .i64 s'.state) rfl; have z4 := Blk.cell hSw.2 4 (.slice ao s'.l.length ac) rfl; have z5 := Blk.cell hSw.2 5 (.int .i64 s'.rw) rfl; have z6 := Blk.cell hSw.2 6 (.int .i64 s'.hits) rfl; have z7 := Blk.cell hSw.2 7 (.int .i64 s'.deopts) rfl; clear hSw; go_simp; (try with_reducible rfl)
      simp only [Act.put, List.setIfInBounds_toArray, List.set_cons_zero, List.set_cons_succ]
      refine wpK_take (i := 16) (v := ?_) rfl (by kernel_rfl) (fun _ _ _ h => h) (Or.inl ⟨by kernel_rfl, ?_⟩) hHeld ?_
      rotate_left
      · intro w hSw; (try dsimp only at hSw); have z3 := Blk.cell hSw.2 3 (.int .i64 s'.state) rfl; have z4 := Blk.cell hSw.2 4 (.slice ao s'.l.length ac) rfl; have z5 := Blk.cell hSw.2 5 (.int .i64 s'.rw) rfl; have z6 := Blk.cell hSw.2 6 (.int .i64 s'.hits) rfl; have z7 := Blk.cell hSw.2 7 (.int .i64 s'.deopts) rfl; clear hSw; go_simp; (try with_reducible rfl)
      simp only [Act.put, List.setIfInBounds_toArray, List.set_cons_zero, List.set_cons_succ]
      refine wpK_take (i := 17) (v := ?_) rfl (by kernel_rfl) (fun _ _ _ h => h) (Or.inl ⟨by kernel_rfl, ?_⟩) hHeld ?_
      rotate_left
      · intro w hSw; (try dsimp only at hSw); have z3 := Blk.cell hSw.2 3 (.int .i64 s'.state) rfl; have z4 := Blk.cell hSw.2 4 (.slice ao s'.l.length ac) rfl; have z5 := Blk.cell hSw.2 5 (.int .i64 s'.rw) rfl; have z6 := Blk.cell hSw.2 6 (.int .i64 s'.hits) rfl; have z7 := Blk.cell hSw.2 7 (.int .i64 s'.deopts) rfl; clear hSw; go_simp; (try with_reducible rfl)
      simp only [Act.put, List.setIfInBounds_toArray, List.set_cons_zero, List.set_cons_succ]
      refine wpK_take (i := 19) (v := ?_) rfl (by kernel_rfl) (fun _ _ _ h => h) (Or.inl ⟨by kernel_rfl, ?_⟩) hHeld ?_
      rotate_left
      · intro w hSw; (try dsimp only at hSw); have z3 := Blk.cell hSw.2 3 (.int .i64 s'.state) rfl; have z4 := Blk.cell hSw.2 4 (.slice ao s'.l.length ac) rfl; have z5 := Blk.cell hSw.2 5 (.int .i64 s'.rw) rfl; have z6 := Blk.cell hSw.2 6 (.int .i64 s'.hits) rfl; have z7 := Blk.cell hSw.2 7 (.int .i64 s'.deopts) rfl; clear hSw; go_simp; (try with_reducible rfl)
      simp only [Act.put, List.setIfInBounds_toArray, List.set_cons_zero, List.set_cons_succ]
      refine wpK_take (i := 20) (v := ?_) rfl (by kernel_rfl) (fun _ _ _ h => h) (Or.inl ⟨by kernel_rfl, ?_⟩) hHeld ?_
      rotate_left
      · intro w hSw; (try dsimp only at hSw); have z3 := Blk.cell hSw.2 3 (.int .i64 s'.state) rfl; have z4 := Blk.cell hSw.2 4 (.slice ao s'.l.length ac) rfl; have z5 := Blk.cell hSw.2 5 (.int .i64 s'.rw) rfl; have z6 := Blk.cell hSw.2 6 (.int .i64 s'.hits) rfl; have z7 := Blk.cell hSw.2 7 (.int .i64 s'.deopts) rfl; clear hSw; go_simp; (try with_reducible rfl)
      simp only [Act.put, List.setIfInBounds_toArray, List.set_cons_zero, List.set_cons_succ]
      refine wpK_take (i := 21) (v := ?_) rfl (by kernel_rfl) (fun _ _ _ h => h) (Or.inl ⟨by kernel_rfl, ?_⟩) hHeld ?_
      rotate_left
      · intro w hSw; (try dsimp only at hSw); have z3 := Blk.cell hSw.2 3 (.int .i64 s'.state) rfl; have z4 := Blk.cell hSw.2 4 (.slice ao s'.l.length ac) rfl; have z5 := Blk.cell hSw.2 5 (.int .i64 s'.rw) rfl; have z6 := Blk.cell hSw.2 6 (.int .i64 s'.hits) rfl; have z7 := Blk.cell hSw.2 7 (.int .i64 s'.deopts) rfl; clear hSw; go_simp; (try with_reducible rfl)
      simp only [Act.put, List.setIfInBounds_toArray, List.set_cons_zero, List.set_cons_succ]
      refine wpK_take (i := 22) (v := ?_) rfl (by kernel_rfl) (fun _ _ _ h => h) (Or.inl ⟨by kernel_rfl, ?_⟩) hHeld ?_
      rotate_left
      · intro w hSw; (try dsimp only at hSw); have z3 := Blk.cell hSw.2 3 (.int .i64 s'.state) rfl; have z4 := Blk.cell hSw.2 4 (.slice ao s'.l.length ac) rfl; have z5 := Blk.cell hSw.2 5 (.int .i64 s'.rw) rfl; have z6 := Blk.cell hSw.2 6 (.int .i64 s'.hits) rfl; have z7 := Blk.cell hSw.2 7 (.int .i64 s'.deopts) rfl; clear hSw; go_simp; (try with_reducible rfl)
      simp only [Act.put, List.setIfInBounds_toArray, List.set_cons_zero, List.set_cons_succ]
      refine wpK_take (i := 23) (v := ?_) rfl (by kernel_rfl) (fun _ _ _ h => h) (Or.inl ⟨by kernel_rfl, ?_⟩) hHeld ?_
      rotate_left
      · intro w hSw; (try dsimp only at hSw); have z3 := Blk.cell hSw.2 3 (.int .i64 s'.state) rfl; have z4 := Blk.cell hSw.2 4 (.slice ao s'.l.length ac) rfl; have z5 := Blk.cell hSw.2 5 (.int .i64 s'.rw) rfl; have z6 := Blk.cell hSw.2 6 (.int .i64 s'.hits) rfl; have z7 := Blk.cell hSw.2 7 (.int .i64 s'.deopts) rfl; clear hSw; go_simp; (try with_reducible rfl)
      simp only [Act.put, List.setIfInBounds_toArray, List.set_cons_zero, List.set_cons_succ]
      refine wpK_one (i := 18) (by kernel_rfl) rfl (fun K' hK => ?_)
      go_simp
      refine (len_site b s' _ _ HSB.out).mono ?_
      rintro _ wb ⟨rfl, hk⟩
      refine hK.out _ _ (fun _ => ⟨Blk.kp hHeld.1 hk (fun h => h), Blk.kp hHeld.2 hk (fun h => h)⟩) (fun hHeld' => ?_)
      have hHeld := hHeld' (by decide)
      clear hHeld' hK K'
      replace HSB := Lib.hid (HSB.out.kp hk (fun _ _ _ h => h))
      replace HRB := Lib.hid (HRB.out.kp hk (fun _ _ _ h => h))
      replace KB := Lib.hid (kp_tell KB.out hk)
      clear hk
      refine wpK_take (i := 24) (v := ?_) rfl (by kernel_rfl) (fun _ _ _ h => h) (Or.inl ⟨by kernel_rfl, ?_⟩) hHeld ?_
      rotate_left
      · intro w hSw; (try dsimp only at hSw); have z3 := Blk.cell hSw.2 3 (.int .i64 s'.state) rfl; have z4 := Blk.cell hSw.2 4 (.slice ao s'.l.length ac) rfl; have z5 := Blk.cell hSw.2 5 (.int .i64 s'.rw) rfl; have z6 := Blk.cell hSw.2 6 (.int .i64 s'.hits) rfl; have z7 := Blk.cell hSw.2 7 (.int .i64 s'.deopts) rfl; clear hSw; go_simp; (try with_reducible rfl)
      simp only [Act.put, List.setIfInBounds_toArray, List.set_cons_zero, List.set_cons_succ]
      refine wpK_take (i := 25) (v := ?_) rfl (by kernel_rfl) (fun _ _ _ h => h) (Or.inl ⟨by kernel_rfl, ?_⟩) hHeld ?_
      rotate_left
      · intro w hSw; (try dsimp only at hSw); have z3 := Blk.cell hSw.2 3 (.int .i64 s'.state) rfl; have z4 := Blk.cell hSw.2 4 (.slice ao s'.l.length ac) rfl; have z5 := Blk.cell hSw.2 5 (.int .i64 s'.rw) rfl; have z6 := Blk.cell hSw.2 6 (.int .i64 s'.hits) rfl; have z7 := Blk.cell hSw.2 7 (.int .i64 s'.deopts) rfl; clear hSw; go_simp; (try with_reducible rfl)
      simp only [Act.put, List.setIfInBounds_toArray, List.set_cons_zero, List.set_cons_succ]
      refine wpK_take (i := 26) (v := ?_) rfl (by kernel_rfl) (fun _ _ _ h => h) (Or.inl ⟨by kernel_rfl, ?_⟩) hHeld ?_
      rotate_left
      · intro w hSw; (try dsimp only at hSw); have z3 := Blk.cell hSw.2 3 (.int .i64 s'.state) rfl; have z4 := Blk.cell hSw.2 4 (.slice ao s'.l.length ac) rfl; have z5 := Blk.cell hSw.2 5 (.int .i64 s'.rw) rfl; have z6 := Blk.cell hSw.2 6 (.int .i64 s'.hits) rfl; have z7 := Blk.cell hSw.2 7 (.int .i64 s'.deopts) rfl; clear hSw; go_simp; (try with_reducible rfl)
      simp only [Act.put, List.setIfInBounds_toArray, List.set_cons_zero, List.set_cons_succ]
      refine wpK_take (i := 27) (v := ?_) rfl (by kernel_rfl) (fun _ _ _ h => h) (Or.inl ⟨by kernel_rfl, ?_⟩) hHeld ?_
      rotate_left
      · intro w hSw; (try dsimp only at hSw); have z3 := Blk.cell hSw.2 3 (.int .i64 s'.state) rfl; have z4 := Blk.cell hSw.2 4 (.slice ao s'.l.length ac) rfl; have z5 := Blk.cell hSw.2 5 (.int .i64 s'.rw) rfl; have z6 := Blk.cell hSw.2 6 (.int .i64 s'.hits) rfl; have z7 := Blk.cell hSw.2 7 (.int .i64 s'.deopts) rfl; clear hSw; go_simp; (try with_reducible rfl)
      simp only [Act.put, List.setIfInBounds_toArray, List.set_cons_zero, List.set_cons_succ]
      refine wpK_take (i := 29) (v := ?_) rfl (by kernel_rfl) (fun _ _ _ h => h) (Or.inl ⟨by kernel_rfl, ?_⟩) hHeld ?_
      rotate_left
      · intro w hSw; (try dsimp only at hSw); have z3 := Blk.cell hSw.2 3 (.int .i64 s'.state) rfl; have z4 := Blk.cell hSw.2 4 (.slice ao s'.l.length ac) rfl; have z5 := Blk.cell hSw.2 5 (.int .i64 s'.rw) rfl; have z6 := Blk.cell hSw.2 6 (.int .i64 s'.hits) rfl; have z7 := Blk.cell hSw.2 7 (.int .i64 s'.deopts) rfl; clear hSw; go_simp; (try with_reducible rfl)
      simp only [Act.put, List.setIfInBounds_toArray, List.set_cons_zero, List.set_cons_succ]
      refine wpK_take (i := 30) (v := ?_) rfl (by kernel_rfl) (fun _ _ _ h => h) (Or.inl ⟨by kernel_rfl, ?_⟩) hHeld ?_
      rotate_left
      · intro w hSw; (try dsimp only at hSw); have z3 := Blk.cell hSw.2 3 (.int .i64 s'.state) rfl; have z4 := Blk.cell hSw.2 4 (.slice ao s'.l.length ac) rfl; have z5 := Blk.cell hSw.2 5 (.int .i64 s'.rw) rfl; have z6 := Blk.cell hSw.2 6 (.int .i64 s'.hits) rfl; have z7 := Blk.cell hSw.2 7 (.int .i64 s'.deopts) rfl; clear hSw; go_simp; (try with_reducible rfl)
      simp only [Act.put, List.setIfInBounds_toArray, List.set_cons_zero, List.set_cons_succ]
      refine wpK_take (i := 31) (v := ?_) rfl (by kernel_rfl) (fun _ _ _ h => h) (Or.inl ⟨by kernel_rfl, ?_⟩) hHeld ?_
      rotate_left
      · intro w hSw; (try dsimp only at hSw); have z3 := Blk.cell hSw.2 3 (.int .i64 s'.state) rfl; have z4 := Blk.cell hSw.2 4 (.slice ao s'.l.length ac) rfl; have z5 := Blk.cell hSw.2 5 (.int .i64 s'.rw) rfl; have z6 := Blk.cell hSw.2 6 (.int .i64 s'.hits) rfl; have z7 := Blk.cell hSw.2 7 (.int .i64 s'.deopts) rfl; clear hSw; go_simp; (try with_reducible rfl)
      simp only [Act.put, List.setIfInBounds_toArray, List.set_cons_zero, List.set_cons_succ]
      refine wpK_take (i := 32) (v := ?_) rfl (by kernel_rfl) (fun _ _ _ h => h) (Or.inl ⟨by kernel_rfl, ?_⟩) hHeld ?_
      rotate_left
      · intro w hSw; (try dsimp only at hSw); have z3 := Blk.cell hSw.2 3 (.int .i64 s'.state) rfl; have z4 := Blk.cell hSw.2 4 (.slice ao s'.l.length ac) rfl; have z5 := Blk.cell hSw.2 5 (.int .i64 s'.rw) rfl; have z6 := Blk.cell hSw.2 6 (.int .i64 s'.hits) rfl; have z7 := Blk.cell hSw.2 7 (.int .i64 s'.deopts) rfl; clear hSw; go_simp; (try with_reducible rfl)
      simp only [Act.put, List.setIfInBounds_toArray, List.set_cons_zero, List.set_cons_succ]
      refine wpK_one (i := 28) (by kernel_rfl) rfl (fun K' hK => ?_)
      go_simp
      refine (rewrites_site b s' _ _ HSB.out).mono ?_
      rintro _ wb ⟨rfl, hk⟩
      refine hK.out _ _ (fun _ => ⟨Blk.kp hHeld.1 hk (fun h => h), Blk.kp hHeld.2 hk (fun h => h)⟩) (fun hHeld' => ?_)
      have hHeld := hHeld' (by decide)
      clear hHeld' hK K'
      replace HSB := Lib.hid (HSB.out.kp hk (fun _ _ _ h => h))
      replace HRB := Lib.hid (HRB.out.kp hk (fun _ _ _ h => h))
      replace KB := Lib.hid (kp_tell KB.out hk)
      clear hk
      refine wpK_take (i := 33) (v := ?_) rfl (by kernel_rfl) (fun _ _ _ h => h) (Or.inl ⟨by kernel_rfl, ?_⟩) hHeld ?_
      rotate_left
      · intro w hSw; (try dsimp only at hSw); have z3 := Blk.cell hSw.2 3 (.int .i64 s'.state) rfl; have z4 := Blk.cell hSw.2 4 (.slice ao s'.l.length ac) rfl; have z5 := Blk.cell hSw.2 5 (.int .i64 s'.rw) rfl; have z6 := Blk.cell hSw.2 6 (.int .i64 s'.hits) rfl; have z7 := Blk.cell hSw.2 7 (.int .i64 s'.deopts) rfl; clear hSw; go_simp; (try with_reducible rfl)
      simp only [Act.put, List.setIfInBounds_toArray, List.set_cons_zero, List.set_cons_succ]
      refine wpK_take (i := 34) (v := ?_) rfl (by kernel_rfl) (fun _ _ _ h => h) (Or.inl ⟨by kernel_rfl, ?_⟩) hHeld ?_
      rotate_left
      · intro w hSw; (try dsimp only at hSw); have z3 := Blk.cell hSw.2 3 (.int .i64 s'.state) rfl; have z4 := Blk.cell hSw.2 4 (.slice ao s'.l.length ac) rfl; have z5 := Blk.cell hSw.2 5 (.int .i64 s'.rw) rfl; have z6 := Blk.cell hSw.2 6 (.int .i64 s'.hits) rfl; have z7 := Blk.cell hSw.2 7 (.int .i64 s'.deopts) rfl; clear hSw; go_simp; (try with_reducible rfl)
      simp only [Act.put, List.setIfInBounds_toArray, List.set_cons_zero, List.set_cons_succ]
      refine wpK_take (i := 35) (v := ?_) rfl (by kernel_rfl) (fun _ _ _ h => h) (Or.inl ⟨by kernel_rfl, ?_⟩) hHeld ?_
      rotate_left
      · intro w hSw; (try dsimp only at hSw); have z3 := Blk.cell hSw.2 3 (.int .i64 s'.state) rfl; have z4 := Blk.cell hSw.2 4 (.slice ao s'.l.length ac) rfl; have z5 := Blk.cell hSw.2 5 (.int .i64 s'.rw) rfl; have z6 := Blk.cell hSw.2 6 (.int .i64 s'.hits) rfl; have z7 := Blk.cell hSw.2 7 (.int .i64 s'.deopts) rfl; clear hSw; go_simp; (try with_reducible rfl)
      simp only [Act.put, List.setIfInBounds_toArray, List.set_cons_zero, List.set_cons_succ]
      refine wpK_take (i := 36) (v := ?_) rfl (by kernel_rfl) (fun _ _ _ h => h) (Or.inl ⟨by kernel_rfl, ?_⟩) hHeld ?_
      rotate_left
      · intro w hSw; (try dsimp only at hSw); have z3 := Blk.cell hSw.2 3 (.int .i64 s'.state) rfl; have z4 := Blk.cell hSw.2 4 (.slice ao s'.l.length ac) rfl; have z5 := Blk.cell hSw.2 5 (.int .i64 s'.rw) rfl; have z6 := Blk.cell hSw.2 6 (.int .i64 s'.hits) rfl; have z7 := Blk.cell hSw.2 7 (.int .i64 s'.deopts) rfl; clear hSw; go_simp; (try with_reducible rfl)
      simp only [Act.put, List.setIfInBounds_toArray, List.set_cons_zero, List.set_cons_succ]
      refine wpK_take (i := 38) (v := ?_) rfl (by kernel_rfl) (fun _ _ _ h => h) (Or.inl ⟨by kernel_rfl, ?_⟩) hHeld ?_
      rotate_left
      · intro w hSw; (try dsimp only at hSw); have z3 := Blk.cell hSw.2 3 (.int .i64 s'.state) rfl; have z4 := Blk.cell hSw.2 4 (.slice ao s'.l.length ac) rfl; have z5 := Blk.cell hSw.2 5 (.int .i64 s'.rw) rfl; have z6 := Blk.cell hSw.2 6 (.int .i64 s'.hits) rfl; have z7 := Blk.cell hSw.2 7 (.int .i64 s'.deopts) rfl; clear hSw; go_simp; (try with_reducible rfl)
      simp only [Act.put, List.setIfInBounds_toArray, List.set_cons_zero, List.set_cons_succ]
      refine wpK_take (i := 39) (v := ?_) rfl (by kernel_rfl) (fun _ _ _ h => h) (Or.inl ⟨by kernel_rfl, ?_⟩) hHeld ?_
      rotate_left
      · intro w hSw; (try dsimp only at hSw); have z3 := Blk.cell hSw.2 3 (.int .i64 s'.state) rfl; have z4 := Blk.cell hSw.2 4 (.slice ao s'.l.length ac) rfl; have z5 := Blk.cell hSw.2 5 (.int .i64 s'.rw) rfl; have z6 := Blk.cell hSw.2 6 (.int .i64 s'.hits) rfl; have z7 := Blk.cell hSw.2 7 (.int .i64 s'.deopts) rfl; clear hSw; go_simp; (try with_reducible rfl)
      simp only [Act.put, List.setIfInBounds_toArray, List.set_cons_zero, List.set_cons_succ]
      refine wpK_take (i := 40) (v := ?_) rfl (by kernel_rfl) (fun _ _ _ h => h) (Or.inl ⟨by kernel_rfl, ?_⟩) hHeld ?_
      rotate_left
      · intro w hSw; (try dsimp only at hSw); have z3 := Blk.cell hSw.2 3 (.int .i64 s'.state) rfl; have z4 := Blk.cell hSw.2 4 (.slice ao s'.l.length ac) rfl; have z5 := Blk.cell hSw.2 5 (.int .i64 s'.rw) rfl; have z6 := Blk.cell hSw.2 6 (.int .i64 s'.hits) rfl; have z7 := Blk.cell hSw.2 7 (.int .i64 s'.deopts) rfl; clear hSw; go_simp; (try with_reducible rfl)
      simp only [Act.put, List.setIfInBounds_toArray, List.set_cons_zero, List.set_cons_succ]
      refine wpK_take (i := 41) (v := ?_) rfl (by kernel_rfl) (fun _ _ _ h => h) (Or.inl ⟨by kernel_rfl, ?_⟩) hHeld ?_
      rotate_left
      · intro w hSw; (try dsimp only at hSw); have z3 := Blk.cell hSw.2 3 (.int .i64 s'.state) rfl; have z4 := Blk.cell hSw.2 4 (.slice ao s'.l.length ac) rfl; have z5 := Blk.cell hSw.2 5 (.int .i64 s'.rw) rfl; have z6 := Blk.cell hSw.2 6 (.int .i64 s'.hits) rfl; have z7 := Blk.cell hSw.2 7 (.int .i64 s'.deopts) rfl; clear hSw; go_simp; (try with_reducible rfl)
      simp only [Act.put, List.setIfInBounds_toArray, List.set_cons_zero, List.set_cons_succ]
      refine wpK_one (i := 37) (by kernel_rfl) rfl (fun K' hK => ?_)
      go_simp
      refine (hits_site b s' _ _ HSB.out).mono ?_
      rintro _ wb ⟨rfl, hk⟩
      refine hK.out _ _ (fun _ => ⟨Blk.kp hHeld.1 hk (fun h => h), Blk.kp hHeld.2 hk (fun h => h)⟩) (fun hHeld' => ?_)
      have hHeld := hHeld' (by decide)
      clear hHeld' hK K'
      replace HSB := Lib.hid (HSB.out.kp hk (fun _ _ _ h => h))
      replace HRB := Lib.hid (HRB.out.kp hk (fun _ _ _ h => h))
      replace KB := Lib.hid (kp_tell KB.out hk)
      clear hk
      refine wpK_take (i := 42) (v := ?_) rfl (by kernel_rfl) (fun _ _ _ h => h) (Or.inl ⟨by kernel_rfl, ?_⟩) hHeld ?_
      rotate_left
      · intro w hSw; (try dsimp only at hSw); have z3 := Blk.cell hSw.2 3 (.int .i64 s'.state) rfl; have z4 := Blk.cell hSw.2 4 (.slice ao s'.l.length ac) rfl; have z5 := Blk.cell hSw.2 5 (.int .i64 s'.rw) rfl; have z6 := Blk.cell hSw.2 6 (.int .i64 s'.hits) rfl; have z7 := Blk.cell hSw.2 7 (.int .i64 s'.deopts) rfl; clear hSw; go_simp; (try with_reducible rfl)
      simp only [Act.put, List.setIfInBounds_toArray, List.set_cons_zero, List.set_cons_succ]
      refine wpK_take (i := 43) (v := ?_) rfl (by kernel_rfl) (fun _ _ _ h => h) (Or.inl ⟨by kernel_rfl, ?_⟩) hHeld ?_
      rotate_left
      · intro w hSw; (try dsimp only at hSw); have z3 := Blk.cell hSw.2 3 (.int .i64 s'.state) rfl; have z4 := Blk.cell hSw.2 4 (.slice ao s'.l.length ac) rfl; have z5 := Blk.cell hSw.2 5 (.int .i64 s'.rw) rfl; have z6 := Blk.cell hSw.2 6 (.int .i64 s'.hits) rfl; have z7 := Blk.cell hSw.2 7 (.int .i64 s'.deopts) rfl; clear hSw; go_simp; (try with_reducible rfl)
      simp only [Act.put, List.setIfInBounds_toArray, List.set_cons_zero, List.set_cons_succ]
      refine wpK_take (i := 44) (v := ?_) rfl (by kernel_rfl) (fun _ _ _ h => h) (Or.inl ⟨by kernel_rfl, ?_⟩) hHeld ?_
      rotate_left
      · intro w hSw; (try dsimp only at hSw); have z3 := Blk.cell hSw.2 3 (.int .i64 s'.state) rfl; have z4 := Blk.cell hSw.2 4 (.slice ao s'.l.length ac) rfl; have z5 := Blk.cell hSw.2 5 (.int .i64 s'.rw) rfl; have z6 := Blk.cell hSw.2 6 (.int .i64 s'.hits) rfl; have z7 := Blk.cell hSw.2 7 (.int .i64 s'.deopts) rfl; clear hSw; go_simp; (try with_reducible rfl)
      simp only [Act.put, List.setIfInBounds_toArray, List.set_cons_zero, List.set_cons_succ]
      refine wpK_take (i := 45) (v := ?_) rfl (by kernel_rfl) (fun _ _ _ h => h) (Or.inl ⟨by kernel_rfl, ?_⟩) hHeld ?_
      rotate_left
      · intro w hSw; (try dsimp only at hSw); have z3 := Blk.cell hSw.2 3 (.int .i64 s'.state) rfl; have z4 := Blk.cell hSw.2 4 (.slice ao s'.l.length ac) rfl; have z5 := Blk.cell hSw.2 5 (.int .i64 s'.rw) rfl; have z6 := Blk.cell hSw.2 6 (.int .i64 s'.hits) rfl; have z7 := Blk.cell hSw.2 7 (.int .i64 s'.deopts) rfl; clear hSw; go_simp; (try with_reducible rfl)
      simp only [Act.put, List.setIfInBounds_toArray, List.set_cons_zero, List.set_cons_succ]
      refine wpK_take (i := 47) (v := ?_) rfl (by kernel_rfl) (fun _ _ _ h => h) (Or.inl ⟨by kernel_rfl, ?_⟩) hHeld ?_
      rotate_left
      · intro w hSw; (try dsimp only at hSw); have z3 := Blk.cell hSw.2 3 (.int .i64 s'.state) rfl; have z4 := Blk.cell hSw.2 4 (.slice ao s'.l.length ac) rfl; have z5 := Blk.cell hSw.2 5 (.int .i64 s'.rw) rfl; have z6 := Blk.cell hSw.2 6 (.int .i64 s'.hits) rfl; have z7 := Blk.cell hSw.2 7 (.int .i64 s'.deopts) rfl; clear hSw; go_simp; (try with_reducible rfl)
      simp only [Act.put, List.setIfInBounds_toArray, List.set_cons_zero, List.set_cons_succ]
      refine wpK_take (i := 48) (v := ?_) rfl (by kernel_rfl) (fun _ _ _ h => h) (Or.inl ⟨by kernel_rfl, ?_⟩) hHeld ?_
      rotate_left
      · intro w hSw; (try dsimp only at hSw); have z3 := Blk.cell hSw.2 3 (.int .i64 s'.state) rfl; have z4 := Blk.cell hSw.2 4 (.slice ao s'.l.length ac) rfl; have z5 := Blk.cell hSw.2 5 (.int .i64 s'.rw) rfl; have z6 := Blk.cell hSw.2 6 (.int .i64 s'.hits) rfl; have z7 := Blk.cell hSw.2 7 (.int .i64 s'.deopts) rfl; clear hSw; go_simp; (try with_reducible rfl)
      simp only [Act.put, List.setIfInBounds_toArray, List.set_cons_zero, List.set_cons_succ]
      refine wpK_take (i := 49) (v := ?_) rfl (by kernel_rfl) (fun _ _ _ h => h) (Or.inl ⟨by kernel_rfl, ?_⟩) hHeld ?_
      rotate_left
      · intro w hSw; (try dsimp only at hSw); have z3 := Blk.cell hSw.2 3 (.int .i64 s'.state) rfl; have z4 := Blk.cell hSw.2 4 (.slice ao s'.l.length ac) rfl; have z5 := Blk.cell hSw.2 5 (.int .i64 s'.rw) rfl; have z6 := Blk.cell hSw.2 6 (.int .i64 s'.hits) rfl; have z7 := Blk.cell hSw.2 7 (.int .i64 s'.deopts) rfl; clear hSw; go_simp; (try with_reducible rfl)
      simp only [Act.put, List.setIfInBounds_toArray, List.set_cons_zero, List.set_cons_succ]
      refine wpK_take (i := 50) (v := ?_) rfl (by kernel_rfl) (fun _ _ _ h => h) (Or.inl ⟨by kernel_rfl, ?_⟩) hHeld ?_
      rotate_left
      · intro w hSw; (try dsimp only at hSw); have z3 := Blk.cell hSw.2 3 (.int .i64 s'.state) rfl; have z4 := Blk.cell hSw.2 4 (.slice ao s'.l.length ac) rfl; have z5 := Blk.cell hSw.2 5 (.int .i64 s'.rw) rfl; have z6 := Blk.cell hSw.2 6 (.int .i64 s'.hits) rfl; have z7 := Blk.cell hSw.2 7 (.int .i64 s'.deopts) rfl; clear hSw; go_simp; (try with_reducible rfl)
      simp only [Act.put, List.setIfInBounds_toArray, List.set_cons_zero, List.set_cons_succ]
      refine wpK_one (i := 46) (by kernel_rfl) rfl (fun K' hK => ?_)
      go_simp
      refine (deopts_site b s' _ _ HSB.out).mono ?_
      rintro _ wb ⟨rfl, hk⟩
      refine hK.out _ _ (fun _ => ⟨Blk.kp hHeld.1 hk (fun h => h), Blk.kp hHeld.2 hk (fun h => h)⟩) (fun hHeld' => ?_)
      have hHeld := hHeld' (by decide)
      clear hHeld' hK K'
      replace HSB := Lib.hid (HSB.out.kp hk (fun _ _ _ h => h))
      replace HRB := Lib.hid (HRB.out.kp hk (fun _ _ _ h => h))
      replace KB := Lib.hid (kp_tell KB.out hk)
      clear hk
      refine wpK_take (i := 51) (v := ?_) rfl (by kernel_rfl) (fun _ _ _ h => h) (Or.inl ⟨by kernel_rfl, ?_⟩) hHeld ?_
      rotate_left
      · intro w hSw; (try dsimp only at hSw); have z3 := Blk.cell hSw.2 3 (.int .i64 s'.state) rfl; have z4 := Blk.cell hSw.2 4 (.slice ao s'.l.length ac) rfl; have z5 := Blk.cell hSw.2 5 (.int .i64 s'.rw) rfl; have z6 := Blk.cell hSw.2 6 (.int .i64 s'.hits) rfl; have z7 := Blk.cell hSw.2 7 (.int .i64 s'.deopts) rfl; clear hSw; go_simp; (try with_reducible rfl)
      simp only [Act.put, List.setIfInBounds_toArray, List.set_cons_zero, List.set_cons_succ]
      refine wpK_take (i := 52) (v := ?_) rfl (by kernel_rfl) (fun _ _ _ h => h) (Or.inl ⟨by kernel_rfl, ?_⟩) hHeld ?_
      rotate_left
      · intro w hSw; (try dsimp only at hSw); have z3 := Blk.cell hSw.2 3 (.int .i64 s'.state) rfl; have z4 := Blk.cell hSw.2 4 (.slice ao s'.l.length ac) rfl; have z5 := Blk.cell hSw.2 5 (.int .i64 s'.rw) rfl; have z6 := Blk.cell hSw.2 6 (.int .i64 s'.hits) rfl; have z7 := Blk.cell hSw.2 7 (.int .i64 s'.deopts) rfl; clear hSw; go_simp; (try with_reducible rfl)
      simp only [Act.put, List.setIfInBounds_toArray, List.set_cons_zero, List.set_cons_succ]
      refine wpK_done (by kernel_rfl) ?_ _
      have hst : s'.hits ≤ (j : Int) + 1 ∧ s'.rw ≤ (j : Int) + 1 := by
        have := act_step s o
        rw [HSP.out] at this
        omega
      have HI : InPlays w b c (j + 1) wb := ⟨s', _, _, HSB.out, HRB.out, HD.out, HF2.out, HG2.out, by omega, by omega, KB.out⟩
      have HII := Lib.hid HI; clear HI
      go_wp2
      go_roundw
      case rel => exact ⟨j + 1, by go_num, by omega, HII.out⟩
      case measure => simp [intOf]; omega
    · go_wp2
      go_returns
      exact ⟨rfl, kk.below (Nat.le_refl _) (fun _ h => by omega)⟩
end Go.Proofs.Ytcdofhfneiednaa
