/- The document's book of threads: Yield, Finish, Close, Resume. -/
import Derived.Test.YtbmbfgcdbpanjaaCrR
namespace Go.Proofs.Ytbmbfgcdbpanjaa
set_option linter.unusedSimpArgs false
set_option linter.unusedVariables false
open Go.RowKit

theorem rthen_book {b : Nat} {B' : Bk} {F : Nat → Prop} {w w' : World} (h : RBook w' b B' F) (k : Kp F w w') : RThenB b B' F w w' := ⟨F, h, k, fun _ h => .inl h⟩
set_option maxRecDepth 100000 in
theorem ryield_book (c : Nat) (B : Bk) (F : Nat → Prop) (w : World) (h : RBook w c B F) :
    Calls Try.prog 30 #[.pointer (some ⟨c, 0, none⟩)] w fun e w' => e = .returned (.tuple #[.string (bkS B), .int .i64 (bkE B)]) ∧ RBook w' c B.back F ∧ Kp F w w' := by
  by_cases e1 : B.wait.length = 1
  · have hS : bkS B = mYield ∧ bkE B = 19 := by unfold bkS bkE; simp [e1]
    have hF : B.back = B := by unfold Bk.back; rw [if_pos e1]
    rw [hS.1, hS.2, hF]
    have HB := Lib.hid (rback_no c B F 0 w h e1)
    have H := Lib.hid h
    clear hS hF e1 h
    go_enter Try.func30, Try.ntmps30
    go_wp2_with fail
    refine HB.out.mono ?_
    rintro e wa ⟨rfl, hk⟩
    go_wp2_with fail
    refine (rfield_yield _).mono ?_
    rintro e wb ⟨rfl, hk2⟩
    go_wp2
    go_returns
    exact ⟨rfl, H.out.kp (hk.trans hk2) (fun _ _ _ h => h), (hk.trans hk2).mono (fun _ _ h => h.elim)⟩
  · have hS : bkS B = wNone ∧ bkE B = 0 := by unfold bkS bkE; simp [e1]
    have hF : B.back = { wait := B.wait.dropLast, ended := B.ended } := by unfold Bk.back; rw [if_neg e1]
    rw [hS.1, hS.2, hF]
    have hb := rback_yes c B F false w h e1
    simp only [Bool.false_eq_true, if_false] at hb
    have HB := Lib.hid hb
    clear hS hF e1 h hb
    go_enter Try.func30, Try.ntmps30
    go_wp2_with fail
    refine HB.out.mono ?_
    rintro e wa ⟨rfl, hb, hk⟩
    have H := Lib.hid hb; clear hb
    go_wp2
    go_returns
    exact ⟨rfl, H.out, hk⟩
set_option maxRecDepth 100000 in
theorem rfinish_book (c : Nat) (B : Bk) (F : Nat → Prop) (w : World) (h : RBook w c B F) :
    Calls Try.prog 31 #[.pointer (some ⟨c, 0, none⟩)] w fun e w' => e = .returned (.int .i64 (bkE B)) ∧ RBook w' c B.finish F ∧ Kp F w w' := by
  by_cases e1 : B.wait.length = 1
  · have hS : bkE B = 19 := by unfold bkE; simp [e1]
    have hF : B.finish = B := by unfold Bk.finish; rw [if_pos e1]
    rw [hS, hF]
    have HB := Lib.hid (rback_no c B F 3 w h e1)
    have H := Lib.hid h
    clear hS hF e1 h
    go_enter Try.func31, Try.ntmps31
    go_wp2_with fail
    refine HB.out.mono ?_
    rintro e wa ⟨rfl, hk⟩
    go_wp2
    go_returns
    exact ⟨rfl, H.out.kp hk (fun _ _ _ h => h), hk.mono (fun _ _ h => h.elim)⟩
  · have hS : bkE B = 0 := by unfold bkE; simp [e1]
    have hF : B.finish = { wait := B.wait.dropLast, ended := B.ended.set B.run true } := by unfold Bk.finish; rw [if_neg e1]
    rw [hS, hF]
    have hb := rback_yes c B F true w h e1
    simp only [if_true] at hb
    have HB := Lib.hid hb
    clear hS hF e1 h hb
    go_enter Try.func31, Try.ntmps31
    go_wp2_with fail
    refine HB.out.mono ?_
    rintro e wa ⟨rfl, hb, hk⟩
    have H := Lib.hid hb; clear hb
    go_wp2
    go_returns
    exact ⟨rfl, H.out, hk⟩
theorem code_out {B : Bk} {id : Int} (hc : ¬ B.code id = -1) : ∃ n : Nat, id = n ∧ n < B.ended.length := by
  have hid : ¬ id < 0 ∧ ¬ (B.ended.length : Int) ≤ id := by
    unfold Bk.code at hc
    constructor <;> (intro h; rw [if_pos (by omega)] at hc; exact hc rfl)
  exact ⟨id.toNat, by omega, by omega⟩
/-- A number of the row is set. -/
theorem rbook_set {w : World} {c : Nat} {B B' : Bk} {F : Nat → Prop} (h : RBook w c B F) (n : Nat) (hn : n < B.ended.length) (x : Int) (hl : B'.ended.length = B.ended.length) (hc : codes B' = (codes B).set n x) (hb : ∀ by', ByOk B by' → ByOk B' by') (hok : BOk B') :
    ∃ gl cl ub, Blk w c 45 #[.slice (some ⟨gl, 0, none⟩) B.ended.length cl, ub] ∧ gl < w.heap.size ∧ F gl ∧ w.frozen? ⟨gl, n, none⟩ = false ∧ w.cell? ⟨gl, n, none⟩ = some (.int .i64 (B.code n)) ∧ RBook (w.setCell ⟨gl, n, none⟩ (.int .i64 x)) c B' F := by
  obtain ⟨vl, vb, by', g1, g2, g3, g4, g5, g6, g7, g8, g9⟩ := h
  have hap := row_ne g2 g1 (by decide)
  obtain ⟨gl, cl, rfl⟩ := row_some g2 g6.lpos
  refine ⟨gl, cl, vb, g1, (g2.lt gl rfl).2, g8 gl rfl, World.ownsRow.frozenAt g2 n, row_cell g2 n hn (codes_at hn), ?_⟩
  refine ⟨.slice (some ⟨gl, 0, none⟩) B.ended.length cl, vb, by', Blk.kp g1 (kp_set w gl n _) (fun (e : c = gl) => hap (by rw [e]; rfl)), ?_, ?_, g4, hb by' g5, hok, g7, g8, g9⟩
  · rw [hl, hc, ← ints_set]
    exact (World.ownsRow.stored g2 n _).1
  · rw [hl]
    exact row_kp g3 (kp_set w gl n _) (fun k hk (e : k = gl) => g4 gl rfl (e ▸ hk))
set_option maxRecDepth 100000 in
theorem rclose_book (c : Nat) (B : Bk) (F : Nat → Prop) (id : Int) (w : World) (h : RBook w c B F) :
    Calls Try.prog 32 #[.pointer (some ⟨c, 0, none⟩), .int .i64 id] w fun e w' => e = .returned (.tuple #[.string (cloS (B.code id)), .int .i64 (cloE (B.code id))]) ∧ RBook w' c (B.close id) F ∧ Kp F w w' := by
  have H := Lib.hid h
  have hsm := h.ok.small
  by_cases hm : B.code id = -1
  · have hF : B.close id = B := by unfold Bk.close; rw [hm]; rfl
    have q : (!decide (B.code id = -1)) = false := by simp [hm]
    rw [hF, show cloS (B.code id) = ⟨#[]⟩ from by rw [hm]; rfl, show cloE (B.code id) = 16 from by rw [hm]; rfl]
    clear hF hm h
    go_enter Try.func32, Try.ntmps32
    go_wp2_with fail
    refine (ris_book c B F id _ H.out).mono ?_
    rw [q]
    rintro e wa ⟨rfl, hka⟩
    have HA := Lib.hid (H.out.kp hka (fun _ _ _ h => h))
    clear q
    go_wp2
    go_returns
    exact ⟨rfl, HA.out, hka.mono (fun _ _ h => h.elim)⟩
  obtain ⟨n, rfl, hn⟩ := code_out hm
  have q : (!decide (B.code (n : Nat) = -1)) = true := by simp [hm]
  have hcl : codes (B.close n) = (codes B).set n 3 ∨ (B.code n = 1 ∨ B.code n = 2) := by
    rcases code_in' hn with e | e | e | e
    · left; unfold Bk.close; rw [if_pos e, Int.toNat_natCast]; exact codes_close h.ok e
    · exact .inr (.inl e)
    · exact .inr (.inr e)
    · left
      unfold Bk.close; rw [if_neg (by rw [e]; decide)]
      apply List.ext_getElem?
      intro i
      rw [List.getElem?_set]
      split
      · rename_i hi
        subst hi
        rw [codes_at hn, e, if_pos (by rw [codes_len]; exact hn)]
      · rfl
  clear hm
  by_cases h12 : B.code n = 1 ∨ B.code n = 2
  · have hF : B.close n = B := by unfold Bk.close; rw [if_neg]; rcases h12 with e | e <;> (rw [e]; decide)
    rw [hF, show cloS (B.code n) = mClose from by rcases h12 with e | e <;> (rw [e]; rfl), show cloE (B.code n) = 19 from by rcases h12 with e | e <;> (rw [e]; rfl)]
    obtain ⟨vl, vb, by', g1, g2, g3, g4, g5, g6, g7, g8, g9⟩ := h
    obtain ⟨gl, cl, rfl⟩ := row_some g2 g6.lpos
    have d4 := row_cell g2 n hn (codes_at hn)
    have ll := (g2.lt gl rfl).2
    have G1 := Lib.hid g1; have D4 := Lib.hid d4
    clear g1 g2 g3 g4 g5 g6 g7 g8 g9 hcl hF d4
    rcases h12 with e12 | e12
    all_goals
      rw [e12] at D4
      clear e12
      go_enter Try.func32, Try.ntmps32
      go_wp2_with fail
      refine (ris_book c B F n _ H.out).mono ?_
      rw [q]
      rintro e wa ⟨rfl, hka⟩
      have HA := Lib.hid (H.out.kp hka (fun _ _ _ h => h))
      have hg := Blk.kp G1.out hka (fun h => h)
      have d0 := hg.cell 0 (.slice (some ⟨gl, 0, none⟩) B.ended.length cl) rfl
      have d4 := (hka.cell (p := ⟨gl, n, none⟩) ll (fun h => h)).trans D4.out
      have lb := hg.lt
      have ll' := Nat.lt_of_lt_of_le ll hka.size
      clear hg
      go_wp2_with fail
      refine (rfield_close _).mono ?_
      rintro e wb ⟨rfl, hkb⟩
      go_wp2
      go_returns
      exact ⟨rfl, HA.out.kp hkb (fun _ _ _ h => h), (hka.trans hkb).mono (fun _ _ h => h.elim)⟩
  · have hc03 : B.code n = 0 ∨ B.code n = 3 := by rcases code_in' hn with e | e | e | e <;> omega
    have hcc := hcl.resolve_right h12
    rw [show cloS (B.code n) = ⟨#[]⟩ from by rcases hc03 with e | e <;> (rw [e]; rfl), show cloE (B.code n) = 0 from by rcases hc03 with e | e <;> (rw [e]; rfl)]
    have hlen : (B.close n).ended.length = B.ended.length := by unfold Bk.close; split <;> simp
    have hby : ∀ by', ByOk B by' → ByOk (B.close n) by' := fun by' hb => by
      unfold Bk.close; split
      · exact by_same hb _ (by simp)
      · exact hb
    have hok := ok_close h.ok n
    have hbool : (B.code n == 1) = false ∧ (B.code n == 2) = false := by rcases hc03 with e | e <;> (rw [e]; exact ⟨rfl, rfl⟩)
    have HCC := Lib.hid hcc; have HLEN := Lib.hid hlen; have HBY := Lib.hid hby; have HOK := Lib.hid hok
    clear hcl h12 hc03 hcc hlen hby hok h
    go_enter Try.func32, Try.ntmps32
    go_wp2_with fail
    refine (ris_book c B F n _ H.out).mono ?_
    rw [q]
    rintro e wa ⟨rfl, hka⟩
    clear q
    obtain ⟨gl, cl, ub, g1, g2, g3, g4, g5, g6⟩ := rbook_set (H.out.kp hka (fun _ _ _ h => h)) n hn 3 HLEN.out HCC.out HBY.out HOK.out
    have d0 := g1.cell 0 (.slice (some ⟨gl, 0, none⟩) B.ended.length cl) rfl
    have lb := g1.lt
    obtain ⟨q1, q2⟩ := hbool
    have G6 := Lib.hid g6
    clear g6 g1
    generalize B.code (n : Nat) = x at *
    go_wp2
    go_returns
    exact ⟨rfl, G6.out, (hka.mono (fun _ _ h => h.elim)).setCell (p := ⟨gl, n, none⟩) (.inl g3) _⟩
end Go.Proofs.Ytbmbfgcdbpanjaa
