/- The walks of package coro: Finish, Resume, Close. -/
import Derived.Test.YtbmbfgcdbpanjaaCrD
namespace Go.Proofs.Ytbmbfgcdbpanjaa
set_option linter.unusedSimpArgs false
set_option linter.unusedVariables false
open Go.RowKit

/-- A thread is ended. -/
theorem book_end {w : World} {b : Nat} {B : Bk} {F : Nat → Prop} (h : Book w b B F) (n : Nat) (hn : n < B.ended.length) :
    ∃ vw ge ce, Blk w b 52 #[vw, .slice (some ⟨ge, 0, none⟩) B.ended.length ce] ∧ ge < w.heap.size ∧ F ge ∧ w.frozen? ⟨ge, n, none⟩ = false ∧ (∃ x, w.cell? ⟨ge, n, none⟩ = some (.bool x)) ∧
      ∀ W', BOk { wait := W', ended := B.ended.set n true } → W' = B.wait → Book (w.setCell ⟨ge, n, none⟩ (.bool true)) b { wait := W', ended := B.ended.set n true } F := by
  obtain ⟨vw, ve, h1, h2, h3, h4, h5, h6, h7⟩ := h
  have hbe := row_ne h3 h1 (by decide)
  have hap := fun k hk => row_apart h2 h3 (by decide) (k := k) hk
  obtain ⟨ge, ce, rfl⟩ := row_some h3 (by omega)
  refine ⟨vw, ge, ce, h1, (h3.lt ge rfl).2, h7 ge rfl, World.ownsRow.frozenAt h3 n, ⟨_, TAt.cell h3 n hn⟩, ?_⟩
  rintro W' hok rfl
  refine ⟨vw, .slice (some ⟨ge, 0, none⟩) B.ended.length ce, ?_, ?_, ?_, hok, h5, h6, h7⟩
  · exact Blk.kp h1 (kp_set w ge n _) (fun e => hbe (by rw [e]; rfl))
  · exact row_kp h2 (kp_set w ge n _) (fun k hk e => hap k hk (by rw [e]; rfl))
  · have := (World.ownsRow.stored h3 n (.bool true)).1
    unfold TAt
    simp only [List.length_set]
    rw [show bits (B.ended.set n true) = (bits B.ended).set n (.bool true) from by unfold bits; rw [List.map_set]]
    exact this

set_option maxRecDepth 100000 in
theorem finish_book (b : Nat) (B : Bk) (F : Nat → Prop) (w : World) (h : Book w b B F) :
    Calls Try.prog 15 #[.pointer (some ⟨b, 0, none⟩)] w fun e w' => e = .returned (.int .i64 (bkE B)) ∧ Book w' b B.finish F ∧ Kp F w w' := by
  have HB := Lib.hid h
  have hrun : B.run < B.ended.length := by
    refine h.ok.lt _ ?_
    have hne : B.wait ≠ [] := List.ne_nil_of_length_pos h.ok.ne
    unfold Bk.run
    rw [List.getLastD_eq_getLast?, List.getLast?_eq_some_getLast hne]
    exact List.getLast_mem hne
  have hsm := h.ok.small
  have hok := ok_finish h.ok
  by_cases e1 : B.wait.length = 1
  · have q : (!decide (B.wait.length = 1)) = false := by simp [e1]
    have hS : bkE B = 19 := by unfold bkE; simp [e1]
    have hF : B.finish = B.back := by unfold Bk.finish Bk.back; simp [e1]
    rw [hS, hF]
    clear hS e1 h hok hF
    go_enter Try.func15, Try.ntmps15
    go_wp2_with fail
    refine (running_book b B F _ HB.out).mono ?_
    rintro e wa ⟨rfl, hka⟩
    have HA := Lib.hid (HB.out.kp hka (fun _ _ _ h => h))
    go_wp2_with fail
    refine (back_book b B F _ HA.out).mono ?_
    rw [q]
    rintro e wb ⟨rfl, hb, hk⟩
    have HB2 := Lib.hid hb; clear hb
    go_wp2
    go_returns
    exact ⟨rfl, HB2.out, (hka.mono (fun _ _ h => h.elim)).trans hk⟩
  · have q : (!decide (B.wait.length = 1)) = true := by simp [e1]
    have hS : bkE B = 0 := by unfold bkE; simp [e1]
    have hF : B.finish = { wait := B.back.wait, ended := B.ended.set B.run true } := by unfold Bk.finish Bk.back; simp [e1]
    have hE : B.back.ended = B.ended := by unfold Bk.back; split <;> rfl
    rw [hF] at hok
    rw [hS, hF]
    have HOK := Lib.hid hok; have HE := Lib.hid hE
    clear hS e1 h hok hF hE
    go_enter Try.func15, Try.ntmps15
    go_wp2_with fail
    refine (running_book b B F _ HB.out).mono ?_
    rintro e wa ⟨rfl, hka⟩
    have HA := Lib.hid (HB.out.kp hka (fun _ _ _ h => h))
    go_wp2_with fail
    refine (back_book b B F _ HA.out).mono ?_
    rw [q]
    rintro e wb ⟨rfl, hb, hk⟩
    have hlt := hb.lt
    obtain ⟨vw, ge, ce, g1, g2, g3, g4, ⟨x, g5⟩, g6⟩ := book_end hb B.run (by rw [HE.out]; exact hrun)
    have d1 := g1.cell 1 _ rfl
    rw [HE.out] at d1 g6
    have G6 := Lib.hid g6
    clear g6 g1 hb
    go_wp2
    go_returns
    exact ⟨rfl, G6.out _ HOK.out rfl, ((hka.mono (fun _ _ h => h.elim)).trans hk).setCell (p := ⟨ge, B.run, none⟩) (.inl g3) _⟩
set_option maxRecDepth 100000 in
theorem close_book (b : Nat) (B : Bk) (F : Nat → Prop) (id : Int) (w : World) (h : Book w b B F) :
    Calls Try.prog 17 #[.pointer (some ⟨b, 0, none⟩), .int .i64 id] w fun e w' => e = .returned (.tuple #[.string (cloS (B.code id)), .int .i64 (cloE (B.code id))]) ∧ Book w' b (B.close id) F ∧ Kp F w w' := by
  have HB := Lib.hid h
  have hsm := h.ok.small
  have hok := ok_close h.ok id
  rcases code_cases B id with hc | hc | hc | hc | hc
  · have hF : B.close id = B := by unfold Bk.close; rw [hc]; rfl
    rw [hF]; clear hF
    have hw : word (B.code id) = ⟨#[]⟩ := by rw [hc]; rfl
    rw [hc]
    clear h hok hc
    go_enter Try.func17, Try.ntmps17
    go_wp2_with fail
    refine (status_book b B F id _ HB.out).mono ?_
    rw [hw]
    rintro e wa ⟨rfl, hka⟩
    clear hw
    go_wp2
    go_returns
    exact ⟨rfl, HB.out.kp hka (fun _ _ _ h => h), hka.mono (fun _ _ h => h.elim)⟩
  · obtain ⟨n, rfl, hn, hl, hm⟩ := code_zero hc
    have hF : B.close n = { wait := B.wait, ended := B.ended.set n true } := by unfold Bk.close; rw [hc]; simp
    rw [hF] at hok ⊢
    have HOK := Lib.hid hok
    have hw : word (B.code n) = ⟨#[115, 117, 115, 112, 101, 110, 100, 101, 100]⟩ := by rw [hc]; rfl
    rw [hc]
    clear hF h hok hc hl hm
    go_enter Try.func17, Try.ntmps17
    go_wp2_with fail
    refine (status_book b B F n _ HB.out).mono ?_
    rw [hw]
    rintro e wa ⟨rfl, hka⟩
    clear hw
    have hA := HB.out.kp hka (fun _ _ _ h => h)
    have hlt := hA.lt
    obtain ⟨vw, ge, ce, g1, g2, g3, g4, ⟨x, g5⟩, g6⟩ := book_end hA n hn
    have d1 := g1.cell 1 _ rfl
    have G6 := Lib.hid g6
    clear g6 g1 hA
    go_wp2
    go_returns
    exact ⟨rfl, G6.out _ HOK.out rfl, (hka.mono (fun _ _ h => h.elim)).setCell (p := ⟨ge, n, none⟩) (.inl g3) _⟩
  · have hF : B.close id = B := by unfold Bk.close; rw [hc]; rfl
    rw [hF]; clear hF
    have hw : word (B.code id) = ⟨#[114, 117, 110, 110, 105, 110, 103]⟩ := by rw [hc]; rfl
    rw [hc]
    clear h hok hc
    go_enter Try.func17, Try.ntmps17
    go_wp2_with fail
    refine (status_book b B F id _ HB.out).mono ?_
    rw [hw]
    rintro e wa ⟨rfl, hka⟩
    clear hw
    have HA := Lib.hid (HB.out.kp hka (fun _ _ _ h => h))
    go_wp2_with fail
    refine (field_close _).mono ?_
    rintro e wb ⟨rfl, hkb⟩
    go_wp2
    go_returns
    exact ⟨rfl, HA.out.kp hkb (fun _ _ _ h => h), (hka.trans hkb).mono (fun _ _ h => h.elim)⟩
  · have hF : B.close id = B := by unfold Bk.close; rw [hc]; rfl
    rw [hF]; clear hF
    have hw : word (B.code id) = ⟨#[110, 111, 114, 109, 97, 108]⟩ := by rw [hc]; rfl
    rw [hc]
    clear h hok hc
    go_enter Try.func17, Try.ntmps17
    go_wp2_with fail
    refine (status_book b B F id _ HB.out).mono ?_
    rw [hw]
    rintro e wa ⟨rfl, hka⟩
    clear hw
    have HA := Lib.hid (HB.out.kp hka (fun _ _ _ h => h))
    go_wp2_with fail
    refine (field_close _).mono ?_
    rintro e wb ⟨rfl, hkb⟩
    go_wp2
    go_returns
    exact ⟨rfl, HA.out.kp hkb (fun _ _ _ h => h), (hka.trans hkb).mono (fun _ _ h => h.elim)⟩
  · have hF : B.close id = B := by unfold Bk.close; rw [hc]; rfl
    rw [hF]; clear hF
    have hw : word (B.code id) = ⟨#[100, 101, 97, 100]⟩ := by rw [hc]; rfl
    rw [hc]
    clear h hok hc
    go_enter Try.func17, Try.ntmps17
    go_wp2_with fail
    refine (status_book b B F id _ HB.out).mono ?_
    rw [hw]
    rintro e wa ⟨rfl, hka⟩
    clear hw
    go_wp2
    go_returns
    exact ⟨rfl, HB.out.kp hka (fun _ _ _ h => h), hka.mono (fun _ _ h => h.elim)⟩
end Go.Proofs.Ytbmbfgcdbpanjaa
