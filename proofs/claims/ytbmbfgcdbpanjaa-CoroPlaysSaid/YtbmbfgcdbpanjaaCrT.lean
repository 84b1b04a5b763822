/- The document's book of threads: Resume. -/
import Derived.Test.YtbmbfgcdbpanjaaCrS
import Derived.Deep.RegionHeld
namespace Go.Proofs.Ytbmbfgcdbpanjaa
set_option linter.unusedSimpArgs false
set_option linter.unusedVariables false
open Go.RowKit

set_option maxRecDepth 100000 in
set_option maxHeartbeats 1000000 in
theorem rresume_book (c : Nat) (B : Bk) (F : Nat → Prop) (id : Int) (w : World) (h : RBook w c B F) (hs : B.wait.length < 100000) :
    Calls Try.prog 29 #[.pointer (some ⟨c, 0, none⟩), .int .i64 id] w fun e w' => e = .returned (.tuple #[.string (resS (B.code id)), .int .i64 (resE (B.code id))]) ∧ RThenB c (B.resume id) F w w' := by
  have H := Lib.hid h
  have hsm := h.ok.small
  by_cases hm : B.code id = -1
  · have hF : B.resume id = B := by unfold Bk.resume; rw [hm]; rfl
    have q : (!decide (B.code id = -1)) = false := by simp [hm]
    rw [hF, show resS (B.code id) = ⟨#[]⟩ from by rw [hm]; rfl, show resE (B.code id) = 16 from by rw [hm]; rfl]
    clear hF hm h
    go_enter Try.func29, Try.ntmps29
    go_wp2_with fail
    refine (ris_book c B F id _ H.out).mono ?_
    rw [q]
    rintro e wa ⟨rfl, hka⟩
    have HA := Lib.hid (H.out.kp hka (fun _ _ _ h => h))
    clear q
    go_wp2
    go_returns
    exact ⟨rfl, rthen_book HA.out (hka.mono (fun _ _ h => h.elim))⟩
  obtain ⟨n, rfl, hn⟩ := code_out hm
  have q : (!decide (B.code (n : Nat) = -1)) = true := by simp [hm]
  have hrl := run_lt h.ok
  have hri := run_in h.ok
  have hok := h.ok
  have hcr := fun e => codes_resume (n := n) h.ok e
  have hokr := ok_resume h.ok hs n
  obtain ⟨vl, vb, by', g1, g2, g3, g4, g5, g6, g7, g8, g9⟩ := h
  have hap := row_ne g2 g1 (by decide)
  have hbp := row_ne g3 g1 (by decide)
  obtain ⟨gl, cl, rfl⟩ := row_some g2 g6.lpos
  obtain ⟨gb, cb, rfl⟩ := row_some g3 g6.lpos
  have d4 := row_cell g2 n hn (codes_at hn)
  have d3 := row_cell g2 B.run hrl (codes_at hrl)
  have ll := (g2.lt gl rfl).2
  have lg := (g3.lt gb rfl).2
  have hbl : n < by'.length := by rw [g5.len]; exact hn
  have d5 := row_cell g3 n hn (List.getElem?_eq_getElem hbl)
  have G1 := Lib.hid g1; have D4 := Lib.hid d4; have D3 := Lib.hid d3; have D5 := Lib.hid d5; have G2 := Lib.hid g2; have G3 := Lib.hid g3; have G5 := Lib.hid g5
  have h := hm
  clear g1 g2 g3 g5 d4 d3 d5 hm
  rcases code_in' hn with e0 | e1 | e2 | e3
  · obtain ⟨m, hm, _, hl, hw⟩ := code_zero e0
    obtain rfl : n = m := by omega
    have hF : B.resume n = { B with wait := B.wait ++ [n] } := by unfold Bk.resume; rw [if_pos e0]; simp
    have hcc := hcr e0
    rw [hF] at hokr
    rw [hF, show resS (B.code n) = ⟨#[]⟩ from by rw [e0]; rfl, show resE (B.code n) = 0 from by rw [e0]; rfl]
    have hby := by_resume G5.out hok hn hw
    have hnr : ¬ n = B.run := fun e => hw (e ▸ hri)
    have hnr2 : ¬ B.run = n := fun e => hnr e.symm
    rw [e0] at D4
    have HCC := Lib.hid hcc; have HOK := Lib.hid hokr; have HBY := Lib.hid hby; have HNR := Lib.hid hnr
    have g4' : ¬ gb = gl := fun e => g4 gl rfl (by rw [e]; rfl)
    have g4'' : ¬ gl = gb := fun e => g4' e.symm
    have hlc : ¬ gl = c := fun e => hap (by rw [e]; rfl)
    have hbc : ¬ gb = c := fun e => hbp (by rw [e]; rfl)
    clear hF hcc hokr hby hcr h hok hri hl hw hm e0
    go_enter Try.func29, Try.ntmps29
    go_wp2_with fail
    refine (ris_book c B F n _ H.out).mono ?_
    rw [q]
    rintro e wa ⟨rfl, hka⟩
    have HA := Lib.hid (H.out.kp hka (fun _ _ _ h => h))
    have hg := Blk.kp G1.out hka (fun h => h)
    have d0 := hg.cell 0 (.slice (some ⟨gl, 0, none⟩) B.ended.length cl) rfl
    have d4 := (hka.cell (p := ⟨gl, n, none⟩) ll (fun h => h)).trans D4.out
    have lb := hg.lt
    have ll' := Nat.lt_of_lt_of_le ll hka.size
    have KA := Lib.hid hka
    clear hg q hka
    go_wp2_with fail
    clear d0 d4
    refine (rrunning_book c B F _ HA.out).mono ?_
    rintro e wb ⟨rfl, hkb⟩
    have k0 := KA.out.trans hkb
    have hg := Blk.kp G1.out k0 (fun h => h)
    have d0 := hg.cell 0 (.slice (some ⟨gl, 0, none⟩) B.ended.length cl) rfl
    have d1 := hg.cell 1 (.slice (some ⟨gb, 0, none⟩) B.ended.length cb) rfl
    have d4 := (k0.cell (p := ⟨gl, n, none⟩) ll (fun h => h)).trans D4.out
    have d3 := (k0.cell (p := ⟨gl, B.run, none⟩) ll (fun h => h)).trans D3.out
    have d5 := (k0.cell (p := ⟨gb, n, none⟩) lg (fun h => h)).trans D5.out
    have hr2 := row_kp G2.out k0 (fun _ _ h => h)
    have hr3 := row_kp G3.out k0 (fun _ _ h => h)
    have f1 := World.ownsRow.frozenAt hr2 n
    have f2 := World.ownsRow.frozenAt hr2 B.run
    have f3 := World.ownsRow.frozenAt hr3 n
    have lb' := hg.lt
    have ll2 := Nat.lt_of_lt_of_le ll k0.size
    have lg2 := Nat.lt_of_lt_of_le lg k0.size
    have HG := Lib.hid hg; have HR2 := Lib.hid hr2; have HR3 := Lib.hid hr3; have K0 := Lib.hid k0
    clear hg hr2 hr3 k0 hkb
    generalize by'[n] = y at *
    have d0 : (World.drew wb).cell? ⟨c, 0, none⟩ = some (.slice (some ⟨gl, 0, none⟩) B.ended.length cl) := d0
    have d1 : (World.drew wb).cell? ⟨c, 1, none⟩ = some (.slice (some ⟨gb, 0, none⟩) B.ended.length cb) := d1
    have d4 : (World.drew wb).cell? ⟨gl, n, none⟩ = some (.int .i64 0) := d4
    have d3 : (World.drew wb).cell? ⟨gl, B.run, none⟩ = some (.int .i64 (B.code B.run)) := d3
    have d5 : (World.drew wb).cell? ⟨gb, n, none⟩ = some (.int .i64 y) := d5
    have f1 : (World.drew wb).frozen? ⟨gl, n, none⟩ = false := f1
    have f2 : (World.drew wb).frozen? ⟨gl, B.run, none⟩ = false := f2
    have f3 : (World.drew wb).frozen? ⟨gb, n, none⟩ = false := f3
    have lb' : c < (World.drew wb).heap.size := lb'
    have ll2 : gl < (World.drew wb).heap.size := ll2
    have lg2 : gb < (World.drew wb).heap.size := lg2
    have HG := Lib.hid HG.out.drew; have HR2 := Lib.hid HR2.out.drew; have HR3 := Lib.hid HR3.out.drew; have K0 := Lib.hid K0.out.drew
    go_wp2_with fail
    refine wp_region_D (S := fun w' => w'.cell? ⟨c, 0, none⟩ = some (.slice (some ⟨gl, 0, none⟩) B.ended.length cl) ∧ w'.cell? ⟨c, 1, none⟩ = some (.slice (some ⟨gb, 0, none⟩) B.ended.length cb)) (D := fun i => [3, 8, 13].contains i) (by kernel_rfl) ?_
    have hHeld : (fun w' => w'.cell? ⟨c, 0, none⟩ = some (.slice (some ⟨gl, 0, none⟩) B.ended.length cl) ∧ w'.cell? ⟨c, 1, none⟩ = some (.slice (some ⟨gb, 0, none⟩) B.ended.length cb)) (World.drew _) := ⟨d0, d1⟩
    generalize World.drew wb = wq at *
    clear d0 d1
    refine wpD_free (i := 0) (v := ?_) rfl (by kernel_rfl) (fun _ _ _ h => h) (Or.inl ⟨by kernel_rfl, ?_⟩) ?_
    rotate_left
    · intro w hSw; (try dsimp only at hSw); go_simp; (try with_reducible rfl)
    simp only [Act.put, List.setIfInBounds_toArray, List.set_cons_zero, List.set_cons_succ]
    refine wpD_free (i := 1) (v := ?_) rfl (by kernel_rfl) (fun _ _ _ h => h) (Or.inl ⟨by kernel_rfl, ?_⟩) ?_
    rotate_left
    · intro w hSw; (try dsimp only at hSw); go_simp; (try with_reducible rfl)
    simp only [Act.put, List.setIfInBounds_toArray, List.set_cons_zero, List.set_cons_succ]
    refine wpD_free (i := 2) (v := ?_) rfl (by kernel_rfl) (fun _ _ _ h => h) (Or.inl ⟨by kernel_rfl, ?_⟩) ?_
    rotate_left
    · intro w hSw; (try dsimp only at hSw); go_simp; (try with_reducible rfl)
    simp only [Act.put, List.setIfInBounds_toArray, List.set_cons_zero, List.set_cons_succ]
    refine wpD_free (i := 4) (v := ?_) rfl (by kernel_rfl) (fun _ _ _ h => h) (Or.inl ⟨by kernel_rfl, ?_⟩) ?_
    rotate_left
    · intro w hSw; (try dsimp only at hSw); go_simp; (try with_reducible rfl)
    simp only [Act.put, List.setIfInBounds_toArray, List.set_cons_zero, List.set_cons_succ]
    refine wpD_free (i := 5) (v := ?_) rfl (by kernel_rfl) (fun _ _ _ h => h) (Or.inl ⟨by kernel_rfl, ?_⟩) ?_
    rotate_left
    · intro w hSw; (try dsimp only at hSw); go_simp; (try with_reducible rfl)
    simp only [Act.put, List.setIfInBounds_toArray, List.set_cons_zero, List.set_cons_succ]
    refine wpD_free (i := 6) (v := ?_) rfl (by kernel_rfl) (fun _ _ _ h => h) (Or.inl ⟨by kernel_rfl, ?_⟩) ?_
    rotate_left
    · intro w hSw; (try dsimp only at hSw); go_simp; (try with_reducible rfl)
    simp only [Act.put, List.setIfInBounds_toArray, List.set_cons_zero, List.set_cons_succ]
    refine wpD_free (i := 7) (v := ?_) rfl (by kernel_rfl) (fun _ _ _ h => h) (Or.inl ⟨by kernel_rfl, ?_⟩) ?_
    rotate_left
    · intro w hSw; (try dsimp only at hSw); go_simp; (try with_reducible rfl)
    simp only [Act.put, List.setIfInBounds_toArray, List.set_cons_zero, List.set_cons_succ]
    refine wpD_free (i := 9) (v := ?_) rfl (by kernel_rfl) (fun _ _ _ h => h) (Or.inl ⟨by kernel_rfl, ?_⟩) ?_
    rotate_left
    · intro w hSw; (try dsimp only at hSw); go_simp; (try with_reducible rfl)
    simp only [Act.put, List.setIfInBounds_toArray, List.set_cons_zero, List.set_cons_succ]
    refine wpD_free (i := 10) (v := ?_) rfl (by kernel_rfl) (fun _ _ _ h => h) (Or.inl ⟨by kernel_rfl, ?_⟩) ?_
    rotate_left
    · intro w hSw; (try dsimp only at hSw); go_simp; (try with_reducible rfl)
    simp only [Act.put, List.setIfInBounds_toArray, List.set_cons_zero, List.set_cons_succ]
    refine wpD_free (i := 11) (v := ?_) rfl (by kernel_rfl) (fun _ _ _ h => h) (Or.inl ⟨by kernel_rfl, ?_⟩) ?_
    rotate_left
    · intro w hSw; (try dsimp only at hSw); go_simp; (try with_reducible rfl)
    simp only [Act.put, List.setIfInBounds_toArray, List.set_cons_zero, List.set_cons_succ]
    refine wpD_free (i := 12) (v := ?_) rfl (by kernel_rfl) (fun _ _ _ h => h) (Or.inl ⟨by kernel_rfl, ?_⟩) ?_
    rotate_left
    · intro w hSw; (try dsimp only at hSw); go_simp; (try with_reducible rfl)
    simp only [Act.put, List.setIfInBounds_toArray, List.set_cons_zero, List.set_cons_succ]
    refine wpD_free (i := 14) (v := ?_) rfl (by kernel_rfl) (fun _ _ _ h => h) (Or.inl ⟨by kernel_rfl, ?_⟩) ?_
    rotate_left
    · intro w hSw; (try dsimp only at hSw); go_simp; (try with_reducible rfl)
    simp only [Act.put, List.setIfInBounds_toArray, List.set_cons_zero, List.set_cons_succ]
    refine wpD_free (i := 15) (v := ?_) rfl (by kernel_rfl) (fun _ _ _ h => h) (Or.inl ⟨by kernel_rfl, ?_⟩) ?_
    rotate_left
    · intro w hSw; (try dsimp only at hSw); go_simp; (try with_reducible rfl)
    simp only [Act.put, List.setIfInBounds_toArray, List.set_cons_zero, List.set_cons_succ]
    refine wpD_take (i := 3) (v := ?_) rfl (by kernel_rfl) (fun _ _ _ h => h) (Or.inl ⟨by kernel_rfl, ?_⟩) hHeld ?_
    rotate_left
    · intro w hSw; (try dsimp only at hSw); go_simp; (try with_reducible rfl)
    simp only [Act.put, List.setIfInBounds_toArray, List.set_cons_zero, List.set_cons_succ]
    refine wpD_take (i := 8) (v := ?_) rfl (by kernel_rfl) (fun _ _ _ h => h) (Or.inl ⟨by kernel_rfl, ?_⟩) hHeld ?_
    rotate_left
    · intro w hSw; (try dsimp only at hSw); go_simp; (try with_reducible rfl)
    simp only [Act.put, List.setIfInBounds_toArray, List.set_cons_zero, List.set_cons_succ]
    refine wpD_take (i := 13) (v := ?_) rfl (by kernel_rfl) (fun _ _ _ h => h) (Or.inl ⟨by kernel_rfl, ?_⟩) hHeld ?_
    rotate_left
    · intro w hSw; (try dsimp only at hSw); go_simp; (try with_reducible rfl)
    simp only [Act.put, List.setIfInBounds_toArray, List.set_cons_zero, List.set_cons_succ]
    refine wpD_free (i := 16) (v := ?_) rfl (by kernel_rfl) (fun _ _ _ h => h) (Or.inl ⟨by kernel_rfl, ?_⟩) ?_
    rotate_left
    · intro w hSw; (try dsimp only at hSw); go_simp; (try with_reducible rfl)
    simp only [Act.put, List.setIfInBounds_toArray, List.set_cons_zero, List.set_cons_succ]
    refine wpD_one (i := 17) (by kernel_rfl) rfl (fun K' hK => ?_)
    go_simp
    refine hK.out _ _ (fun h => absurd h (by decide)) (fun _ => ?_)
    clear hK K'
    refine wpD_free (i := 18) (v := ?_) rfl (by kernel_rfl) (fun _ _ _ h => h) (Or.inl ⟨by kernel_rfl, ?_⟩) ?_
    rotate_left
    · intro w hSw; (try dsimp only at hSw); go_simp; (try with_reducible rfl)
    simp only [Act.put, List.setIfInBounds_toArray, List.set_cons_zero, List.set_cons_succ]
    refine wpD_one (i := 19) (by kernel_rfl) rfl (fun K' hK => ?_)
    go_simp
    refine hK.out _ _ (fun h => absurd h (by decide)) (fun _ => ?_)
    clear hK K'
    refine wpD_free (i := 20) (v := ?_) rfl (by kernel_rfl) (fun _ _ _ h => h) (Or.inl ⟨by kernel_rfl, ?_⟩) ?_
    rotate_left
    · intro w hSw; (try dsimp only at hSw); go_simp; (try with_reducible rfl)
    simp only [Act.put, List.setIfInBounds_toArray, List.set_cons_zero, List.set_cons_succ]
    refine wpD_one (i := 21) (by kernel_rfl) rfl (fun K' hK => ?_)
    go_simp
    refine hK.out _ _ (fun h => absurd h (by decide)) (fun _ => ?_)
    clear hK K'
    refine wpD_done (by kernel_rfl) ?_ _
    clear hHeld
    go_wp2
    go_returns
    have k3 : Kp (fun k => k = gl ∨ k = gb) wq (((wq.setCell ⟨gl, B.run, none⟩ (.int .i64 2)).setCell ⟨gl, n, none⟩ (.int .i64 1)).setCell ⟨gb, n, none⟩ (.int .i64 B.run)) :=
      (((Kp.refl (fun k => k = gl ∨ k = gb) wq).setCell (p := ⟨gl, B.run, none⟩) (.inl (.inl rfl)) _).setCell (p := ⟨gl, n, none⟩) (.inl (.inl rfl)) _).setCell (p := ⟨gb, n, none⟩) (.inl (.inr rfl)) _
    refine ⟨rfl, rthen_book ⟨.slice (some ⟨gl, 0, none⟩) B.ended.length cl, .slice (some ⟨gb, 0, none⟩) B.ended.length cb, by'.set n B.run, Blk.kp HG.out k3 (fun e => e.elim (fun e => hlc e.symm) (fun e => hbc e.symm)), ?_, ?_, g4, HBY.out, HOK.out, g7, g8, g9⟩ ?_⟩
    · rw [HCC.out, ← ints_set, ← ints_set]
      have h1 := (World.ownsRow.stored (World.ownsRow.stored HR2.out B.run (.int .i64 2)).1 n (.int .i64 1)).1
      exact row_kp h1 (kp_set _ gb n _) (fun k hk (e : k = gb) => by simp [Value.ownBlock] at hk; omega)
    · rw [← ints_set]
      have h1 := row_kp (row_kp HR3.out (kp_set wq gl B.run (.int .i64 2)) (fun k hk (e : k = gl) => by simp [Value.ownBlock] at hk; omega)) (kp_set _ gl n (.int .i64 1)) (fun k hk (e : k = gl) => by simp [Value.ownBlock] at hk; omega)
      exact (World.ownsRow.stored h1 n (.int .i64 B.run)).1
    · exact (K0.out.mono (fun _ _ h => h.elim)).trans' k3 (fun k _ e => e.elim (fun e => by subst e; exact g8 _ rfl) (fun e => by subst e; exact g9 _ rfl))
  · skip
    have hF : B.resume n = B := by unfold Bk.resume; rw [if_neg (by rw [e1]; decide)]
    rw [hF, show resS (B.code n) = mRes from by rw [e1]; rfl, show resE (B.code n) = 19 from by rw [e1]; rfl]
    clear hF h
    rw [e1] at D4
    go_enter Try.func29, Try.ntmps29
    go_wp2_with fail
    refine (ris_book c B F n _ H.out).mono ?_
    rw [q]
    rintro e wa ⟨rfl, hka⟩
    have HA := Lib.hid (H.out.kp hka (fun _ _ _ h => h))
    have hg := Blk.kp G1.out hka (fun h => h)
    have d0 := hg.cell 0 (.slice (some ⟨gl, 0, none⟩) B.ended.length cl) rfl
    have d4 := (hka.cell (p := ⟨gl, n, none⟩) ll (fun h => h)).trans D4.out
    have lb := hg.lt
    have ll' := Nat.lt_of_lt_of_le ll hka.size
    clear hg q
    go_wp2_with fail
    refine (rfield_running _).mono ?_
    rintro e wb ⟨rfl, hkb⟩
    go_wp2
    go_returns
    exact ⟨rfl, rthen_book (HA.out.kp hkb (fun _ _ _ h => h)) ((hka.trans hkb).mono (fun _ _ h => h.elim))⟩
  · skip
    have hF : B.resume n = B := by unfold Bk.resume; rw [if_neg (by rw [e2]; decide)]
    rw [hF, show resS (B.code n) = mRes from by rw [e2]; rfl, show resE (B.code n) = 19 from by rw [e2]; rfl]
    clear hF h
    rw [e2] at D4
    go_enter Try.func29, Try.ntmps29
    go_wp2_with fail
    refine (ris_book c B F n _ H.out).mono ?_
    rw [q]
    rintro e wa ⟨rfl, hka⟩
    have HA := Lib.hid (H.out.kp hka (fun _ _ _ h => h))
    have hg := Blk.kp G1.out hka (fun h => h)
    have d0 := hg.cell 0 (.slice (some ⟨gl, 0, none⟩) B.ended.length cl) rfl
    have d4 := (hka.cell (p := ⟨gl, n, none⟩) ll (fun h => h)).trans D4.out
    have lb := hg.lt
    have ll' := Nat.lt_of_lt_of_le ll hka.size
    clear hg q
    go_wp2_with fail
    refine (rfield_running _).mono ?_
    rintro e wb ⟨rfl, hkb⟩
    go_wp2
    go_returns
    exact ⟨rfl, rthen_book (HA.out.kp hkb (fun _ _ _ h => h)) ((hka.trans hkb).mono (fun _ _ h => h.elim))⟩
  · skip
    have hF : B.resume n = B := by unfold Bk.resume; rw [if_neg (by rw [e3]; decide)]
    rw [hF, show resS (B.code n) = mDead from by rw [e3]; rfl, show resE (B.code n) = 19 from by rw [e3]; rfl]
    clear hF h
    rw [e3] at D4
    go_enter Try.func29, Try.ntmps29
    go_wp2_with fail
    refine (ris_book c B F n _ H.out).mono ?_
    rw [q]
    rintro e wa ⟨rfl, hka⟩
    have HA := Lib.hid (H.out.kp hka (fun _ _ _ h => h))
    have hg := Blk.kp G1.out hka (fun h => h)
    have d0 := hg.cell 0 (.slice (some ⟨gl, 0, none⟩) B.ended.length cl) rfl
    have d4 := (hka.cell (p := ⟨gl, n, none⟩) ll (fun h => h)).trans D4.out
    have lb := hg.lt
    have ll' := Nat.lt_of_lt_of_le ll hka.size
    clear hg q
    go_wp2_with fail
    refine (rfield_dead _).mono ?_
    rintro e wb ⟨rfl, hkb⟩
    go_wp2
    go_returns
    exact ⟨rfl, rthen_book (HA.out.kp hkb (fun _ _ _ h => h)) ((hka.trans hkb).mono (fun _ _ h => h.elim))⟩
end Go.Proofs.Ytbmbfgcdbpanjaa
