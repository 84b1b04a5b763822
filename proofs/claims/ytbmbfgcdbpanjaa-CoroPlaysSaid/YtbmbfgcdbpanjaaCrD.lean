/- The walks of package coro: Create, back, Yield, Finish. -/
import Derived.Test.YtbmbfgcdbpanjaaCrC
namespace Go.Proofs.Ytbmbfgcdbpanjaa
set_option linter.unusedSimpArgs false
set_option linter.unusedVariables false
open Go.RowKit

theorem kp_set (w : World) (b i : Nat) (u : Value) : Kp (· = b) w (w.setCell ⟨b, i, none⟩ u) := Kp.setCell (S := (· = b)) (p := ⟨b, i, none⟩) (Kp.refl _ _) (.inl rfl) u
theorem bits_len (l : List Bool) : (bits l).length = l.length := by simp [bits]
theorem nums_len (l : List Nat) : (nums l).length = l.length := by simp [nums]
set_option maxRecDepth 100000 in
theorem create_book (b : Nat) (B : Bk) (F : Nat → Prop) (w : World) (h : Book w b B F) (hs : B.ended.length < 100000) :
    Calls Try.prog 10 #[.pointer (some ⟨b, 0, none⟩)] w fun e w' => e = .returned (.int .i64 B.ended.length) ∧ ThenB b B.create F w w' := by
  obtain ⟨i0, hi, hz0, hz1, hz2⟩ := info_parts info4
  obtain ⟨vw, ve, h1, h2, h3, h4, h5, h6, h7⟩ := h
  have hok := ok_create h4 hs
  have hne := row_ne h3 h1 (by decide)
  have hap := fun k hk => row_apart h3 h2 (by decide) (k := k) hk
  obtain ⟨ao, ac, rfl⟩ := row_form h3
  have hb := h1.lt
  have d1 := h1.cell 1 (.slice ao B.ended.length ac) rfl
  have f1 := h1.free
  have H1 := Lib.hid h1; have H2 := Lib.hid h2; have H3 := Lib.hid h3; have HOK := Lib.hid hok
  clear h1 h2 h3 h4 hok
  go_enter Try.func10, Try.ntmps10
  go_wp2_with (at_builtin; refine wpList_append2 _ rfl (.tmp 9) (.tmp 10) 50 rfl 4 i0 (.bool false) 1 1 Try.underlying50 hi hz0 hz1 hz2 rfl (by decide) (.slice ao B.ended.length ac) B.ended.length (bits B.ended) rfl ?own ⟨w.heap.size, 0, none⟩ 1 1 [.bool false] rfl rfl ?c1 ?c2 ?c3 ?c4 ?h)
  case own => exact row_kp H3.out ((Kp.refl (fun _ => False) _).alloc _) (fun _ _ h => h)
  case c1 => exact cell_one _ _ _ _ rfl
  case c2 => intro u hu; simp at hu; subst hu; rfl
  case c3 => unfold maxLen; omega
  case c4 => omega
  case h =>
    intro v' w1 hown hgr hsn
    obtain ⟨g, cap', rfl⟩ := row_some hown (by omega)
    have hg1 : Blk w1 b 52 #[vw, .slice ao B.ended.length ac] := Blk.grown (Blk.alloc H1.out _) hgr hne
    have y1 := hg1.cell 1 (.slice ao B.ended.length ac) rfl
    have yf := hg1.free
    have hb1 := hg1.lt
    have k1 : Kp (fun k => (Value.slice ao B.ended.length ac).ownBlock = some k) w w1 := ((Kp.refl _ w).alloc _).grown hgr (fun k e => .inl e)
    have HG := Lib.hid hg1; have HO := Lib.hid hown; have K1 := Lib.hid k1
    clear hg1 hown k1 f1 d1
    go_wp2
    go_returns
    refine ⟨ret_int (by omega), fun k => F k ∨ w.heap.size ≤ k, ⟨vw, .slice (some ⟨g, 0, none⟩) (B.ended.length + 1) cap', HG.out.set 1 _, ?_, ?_, HOK.out, .inl h5, fun k hk => .inl (h6 k hk), ?_⟩, ?_, fun _ h => h⟩
    · refine row_kp (row_kp H2.out K1.out (fun k hk e => hap k e hk)) (kp_set w1 b 1 _) (fun k hk e => ?_)
      exact row_ne H2.out H1.out (by decide) (e ▸ hk)
    · have hx : w1.ownsRow 0 4 1 (.slice (some ⟨g, 0, none⟩) (B.ended.length + 1) cap') (B.ended.length + 1) (bits (B.ended ++ [false])) := by
        unfold bits; rw [List.map_append]; exact HO.out
      unfold TAt Bk.create
      rw [List.length_append]
      exact row_kp hx (kp_set w1 b 1 _) (fun k hk e => row_ne HO.out HG.out (by decide) (e ▸ hk))
    · intro k hk
      rcases hsn with h | h
      · exact .inl (h7 k (by rw [← h]; exact hk))
      · exact .inr (by have := h k hk; simp at this; omega)
    · exact (K1.out.mono (S' := F) (fun k _ h => h7 k h)).setCell (p := ⟨b, 1, none⟩) (.inl h5) _
theorem row_take {w : World} {g cap n m : Nat} {e : TypeId} {xs : List Value} (h : w.ownsRow 0 e 1 (.slice (some ⟨g, 0, none⟩) n cap) n xs) (hm : m ≤ n) : w.ownsRow 0 e 1 (.slice (some ⟨g, 0, none⟩) m cap) m (xs.take m) := by
  have hl := h.1
  refine ⟨by simp; omega, .inr ?_⟩
  rcases h.2 with ⟨h', _⟩ | ⟨g', cap', cur, h', hb, hg, hnc, hcm, hcs, htake⟩
  · simp at h'
  · simp only [Value.slice.injEq, Option.some.injEq, Addr.mk.injEq, and_true, true_and] at h'
    obtain ⟨rfl, rfl⟩ := h'
    exact ⟨g, cap, cur, rfl, hb, hg, by omega, hcm, hcs, by rw [← htake, List.take_take]; congr 1; omega⟩
set_option maxRecDepth 100000 in
theorem back_book (b : Nat) (B : Bk) (F : Nat → Prop) (w : World) (h : Book w b B F) :
    Calls Try.prog 27 #[.pointer (some ⟨b, 0, none⟩)] w fun e w' => e = .returned (.bool (!decide (B.wait.length = 1))) ∧ Book w' b B.back F ∧ Kp F w w' := by
  obtain ⟨vw, ve, h1, h2, h3, h4, h5, h6, h7⟩ := h
  have hok := ok_back h4
  have hne := h4.ne
  have hsm := h4.small
  have hap := row_ne h2 h1 (by decide)
  have hae := row_ne h3 h1 (by decide)
  obtain ⟨g, cap, rfl⟩ := row_some h2 hne
  obtain ⟨m, hm⟩ : ∃ m, B.wait.length = m + 1 := ⟨B.wait.length - 1, by omega⟩
  have hcap : m ≤ cap := by
    rcases h2.2 with ⟨h', _⟩ | ⟨g', cap', cur, h', hb, hg, hnc, hcm, hcs, htake⟩
    · simp at h'
    · simp only [Value.slice.injEq, Option.some.injEq, Addr.mk.injEq, and_true, true_and] at h'
      obtain ⟨rfl, rfl⟩ := h'
      omega
  have hb := h1.lt
  have H1 := Lib.hid h1; have H2 := Lib.hid h2; have H3 := Lib.hid h3; have HOK := Lib.hid hok
  have H4 := Lib.hid h4
  rw [hm] at h1 hsm
  have d0 := h1.cell 0 (.slice (some ⟨g, 0, none⟩) (m + 1) cap) rfl
  have f0 := h1.free
  clear h1 h2 h3 h4 hok hne
  by_cases e0 : m = 0
  · subst e0
    have hB : B.back = B := by unfold Bk.back; rw [if_pos hm]
    rw [hB, hm]
    have HM := Lib.hid hm; clear hm
    go_enter Try.func27, Try.ntmps27
    go_wp2
    go_returns
    exact ⟨rfl, ⟨_, ve, H1.out, H2.out, H3.out, H4.out, h5, h6, h7⟩, Kp.refl _ _⟩
  · have hB : B.back = { B with wait := B.wait.dropLast } := by unfold Bk.back; rw [if_neg (by omega)]
    rw [hB, hm] 
    have q0 : ((m : Int) == 0) = false := by simp; omega
    have q1 : (!decide (m + 1 = 1)) = true := by simp; omega
    have hdl : B.wait.dropLast.length = m := by simp; omega
    rw [q1]
    have HM := Lib.hid hm; have HDL := Lib.hid hdl; have HB := Lib.hid hB; clear hm e0 hdl hB q1
    go_enter Try.func27, Try.ntmps27
    go_wp2
    go_returns
    refine ⟨rfl, ⟨.slice (some ⟨g, 0, none⟩) m cap, ve, H1.out.set 0 _, ?_, row_kp H3.out (kp_set w b 0 _) (fun k hk e => hae (e ▸ hk)), by rw [← HB.out]; exact HOK.out, h5, h6, h7⟩, (Kp.refl F _).setCell (p := ⟨b, 0, none⟩) (.inl h5) _⟩
    unfold NAt
    have ht := row_take H2.out (m := m) (by have := HM.out; omega)
    have hx : (nums B.wait).take m = nums B.wait.dropLast := by
      unfold nums; rw [← List.map_take, List.dropLast_eq_take, HM.out]; rfl
    simp only [HDL.out]
    rw [hx] at ht
    exact row_kp ht (kp_set w b 0 _) (fun k hk e => hap (e ▸ hk))
set_option maxRecDepth 100000 in
theorem yield_book (b : Nat) (B : Bk) (F : Nat → Prop) (w : World) (h : Book w b B F) :
    Calls Try.prog 24 #[.pointer (some ⟨b, 0, none⟩)] w fun e w' => e = .returned (.tuple #[.string (bkS B), .int .i64 (bkE B)]) ∧ Book w' b B.back F ∧ Kp F w w' := by
  have HB := Lib.hid h
  by_cases e1 : B.wait.length = 1
  · have q : (!decide (B.wait.length = 1)) = false := by simp [e1]
    have hS : bkS B = mYield ∧ bkE B = 19 := by unfold bkS bkE; simp [e1]
    rw [hS.1, hS.2]
    clear hS e1 h
    go_enter Try.func24, Try.ntmps24
    go_wp2_with fail
    refine (back_book b B F _ HB.out).mono ?_
    rw [q]
    rintro e wa ⟨rfl, hb, hk⟩
    have HB2 := Lib.hid hb; clear hb
    go_wp2_with fail
    refine (field_yield _).mono ?_
    rintro e wb ⟨rfl, hk2⟩
    go_wp2
    go_returns
    exact ⟨rfl, HB2.out.kp hk2 (fun _ _ _ h => h), hk.trans (hk2.mono (fun _ _ h => h.elim))⟩
  · have q : (!decide (B.wait.length = 1)) = true := by simp [e1]
    have hS : bkS B = wNone ∧ bkE B = 0 := by unfold bkS bkE; simp [e1]
    rw [hS.1, hS.2]
    clear hS e1 h
    go_enter Try.func24, Try.ntmps24
    go_wp2_with fail
    refine (back_book b B F _ HB.out).mono ?_
    rw [q]
    rintro e wa ⟨rfl, hb, hk⟩
    have HB2 := Lib.hid hb; clear hb
    go_wp2
    go_returns
    exact ⟨rfl, HB2.out, hk⟩
end Go.Proofs.Ytbmbfgcdbpanjaa
