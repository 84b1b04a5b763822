/- The walks of package coro: Resume; on a book that isn't there. -/
import Derived.Test.YtbmbfgcdbpanjaaCrE
namespace Go.Proofs.Ytbmbfgcdbpanjaa
set_option linter.unusedSimpArgs false
set_option linter.unusedVariables false
open Go.RowKit

set_option maxRecDepth 100000 in
theorem resume_book (b : Nat) (B : Bk) (F : Nat → Prop) (id : Int) (w : World) (h : Book w b B F) (hs : B.wait.length < 100000) :
    Calls Try.prog 11 #[.pointer (some ⟨b, 0, none⟩), .int .i64 id] w fun e w' => e = .returned (.tuple #[.string (resS (B.code id)), .int .i64 (resE (B.code id))]) ∧ ThenB b (B.resume id) F w w' := by
  have HB := Lib.hid h
  have hsm := h.ok.small
  have hok := ok_resume h.ok hs id
  rcases code_cases B id with hc | hc | hc | hc | hc
  · have hF : B.resume id = B := by unfold Bk.resume; rw [hc]; rfl
    rw [hF]; clear hF
    have hw : word (B.code id) = ⟨#[]⟩ := by rw [hc]; rfl
    rw [hc]
    clear h hok hc
    go_enter Try.func11, Try.ntmps11
    go_wp2_with fail
    refine (status_book b B F id _ HB.out).mono ?_
    rw [hw]
    rintro e wa ⟨rfl, hka⟩
    clear hw
    go_wp2
    go_returns
    exact ⟨rfl, thenb_same HB.out hka⟩
  · obtain ⟨n, rfl, hn, hl, hm⟩ := code_zero hc
    have hF : B.resume n = { B with wait := B.wait ++ [n] } := by unfold Bk.resume; rw [hc]; simp
    rw [hF] at hok ⊢
    have HOK := Lib.hid hok
    have hw : word (B.code n) = ⟨#[115, 117, 115, 112, 101, 110, 100, 101, 100]⟩ := by rw [hc]; rfl
    rw [hc]
    clear hF h hok hc hl hm
    obtain ⟨i0, hi, hz0, hz1, hz2⟩ := info_parts info3
    go_enter Try.func11, Try.ntmps11
    go_wp2_with fail
    refine (status_book b B F n _ HB.out).mono ?_
    rw [hw]
    rintro e wa ⟨rfl, hka⟩
    clear hw
    obtain ⟨vw, ve, h1, h2, h3, h4, h5, h6, h7⟩ := HB.out.kp hka (fun _ _ _ h => h)
    have hne := row_ne h2 h1 (by decide)
    have hap := fun k hk => row_apart h3 h2 (by decide) (k := k) hk
    obtain ⟨ao, ac, rfl⟩ := row_form h2
    have hb := h1.lt
    have d1 := h1.cell 0 (.slice ao B.wait.length ac) rfl
    have H1 := Lib.hid h1; have H2 := Lib.hid h2; have H3 := Lib.hid h3; have KA := Lib.hid hka
    clear h1 h2 h3 h4 hka
    go_wp2_with (at_builtin; refine wpList_append2 _ rfl (.tmp 21) (.tmp 23) 43 rfl 3 i0 (.int .i64 0) 1 8 Try.underlying43 hi hz0 hz1 hz2 rfl (by decide) (.slice ao B.wait.length ac) B.wait.length (nums B.wait) rfl ?own ⟨wa.heap.size, 0, none⟩ 1 1 [.int .i64 n] rfl rfl ?c1 ?c2 ?c3 ?c4 ?h)
    case own => exact row_kp H2.out ((Kp.refl (fun _ => False) _).alloc _) (fun _ _ h => h)
    case c1 => exact cell_one _ _ _ _ rfl
    case c2 => intro u hu; simp at hu; subst hu; rfl
    case c3 => unfold maxLen; omega
    case c4 => omega
    case h =>
      intro v' w1 hown hgr hsn
      obtain ⟨g, cap', rfl⟩ := row_some hown (by omega)
      have hg1 : Blk w1 b 52 #[.slice ao B.wait.length ac, ve] := Blk.grown (Blk.alloc H1.out _) hgr hne
      have y0 := hg1.cell 0 (.slice ao B.wait.length ac) rfl
      have yf := hg1.free
      have hb1 := hg1.lt
      have k1 : Kp (fun k => (Value.slice ao B.wait.length ac).ownBlock = some k) wa w1 := ((Kp.refl _ wa).alloc _).grown hgr (fun k e => .inl e)
      have HG := Lib.hid hg1; have HO := Lib.hid hown; have K1 := Lib.hid k1
      clear hg1 hown k1 d1
      go_wp2
      go_returns
      refine ⟨rfl, thenb_pre KA.out ⟨fun k => F k ∨ wa.heap.size ≤ k, ⟨.slice (some ⟨g, 0, none⟩) (B.wait.length + 1) cap', ve, HG.out.set 0 _, ?_, ?_, HOK.out, .inl h5, ?_, fun k hk => .inl (h7 k hk)⟩, ?_, fun _ h => h⟩⟩
      · have hx : w1.ownsRow 0 3 1 (.slice (some ⟨g, 0, none⟩) (B.wait.length + 1) cap') (B.wait.length + 1) (nums (B.wait ++ [n])) := by
          unfold nums; rw [List.map_append]; exact HO.out
        unfold NAt
        simp only [List.length_append, List.length_singleton]
        exact row_kp hx (kp_set w1 b 0 _) (fun k hk e => row_ne HO.out HG.out (by decide) (e ▸ hk))
      · refine row_kp (row_kp H3.out K1.out (fun k hk e => hap k hk e)) (kp_set w1 b 0 _) (fun k hk e => ?_)
        exact row_ne H3.out H1.out (by decide) (e ▸ hk)
      · intro k hk
        rcases hsn with h | h
        · exact .inl (h6 k (by rw [← h]; exact hk))
        · exact .inr (by have := h k hk; simp at this; omega)
      · exact (K1.out.mono (S' := F) (fun k _ h => h6 k h)).setCell (p := ⟨b, 0, none⟩) (.inl h5) _
  · have hF : B.resume id = B := by unfold Bk.resume; rw [hc]; rfl
    rw [hF]; clear hF
    have hw : word (B.code id) = ⟨#[114, 117, 110, 110, 105, 110, 103]⟩ := by rw [hc]; rfl
    rw [hc]
    clear h hok hc
    go_enter Try.func11, Try.ntmps11
    go_wp2_with fail
    refine (status_book b B F id _ HB.out).mono ?_
    rw [hw]
    rintro e wa ⟨rfl, hka⟩
    clear hw
    have HA := Lib.hid (HB.out.kp hka (fun _ _ _ h => h))
    go_wp2_with fail
    refine (field_running _).mono ?_
    rintro e wb ⟨rfl, hkb⟩
    go_wp2
    go_returns
    exact ⟨rfl, thenb_same HB.out (hka.trans hkb)⟩
  · have hF : B.resume id = B := by unfold Bk.resume; rw [hc]; rfl
    rw [hF]; clear hF
    have hw : word (B.code id) = ⟨#[110, 111, 114, 109, 97, 108]⟩ := by rw [hc]; rfl
    rw [hc]
    clear h hok hc
    go_enter Try.func11, Try.ntmps11
    go_wp2_with fail
    refine (status_book b B F id _ HB.out).mono ?_
    rw [hw]
    rintro e wa ⟨rfl, hka⟩
    clear hw
    have HA := Lib.hid (HB.out.kp hka (fun _ _ _ h => h))
    go_wp2_with fail
    refine (field_running _).mono ?_
    rintro e wb ⟨rfl, hkb⟩
    go_wp2
    go_returns
    exact ⟨rfl, thenb_same HB.out (hka.trans hkb)⟩
  · have hF : B.resume id = B := by unfold Bk.resume; rw [hc]; rfl
    rw [hF]; clear hF
    have hw : word (B.code id) = ⟨#[100, 101, 97, 100]⟩ := by rw [hc]; rfl
    rw [hc]
    clear h hok hc
    go_enter Try.func11, Try.ntmps11
    go_wp2_with fail
    refine (status_book b B F id _ HB.out).mono ?_
    rw [hw]
    rintro e wa ⟨rfl, hka⟩
    clear hw
    have HA := Lib.hid (HB.out.kp hka (fun _ _ _ h => h))
    go_wp2_with fail
    refine (field_dead _).mono ?_
    rintro e wb ⟨rfl, hkb⟩
    go_wp2
    go_returns
    exact ⟨rfl, thenb_same HB.out (hka.trans hkb)⟩
set_option maxRecDepth 100000 in
theorem status_nil (id : Int) (w : World) : Calls Try.prog 13 #[.pointer none, .int .i64 id] w fun e w' => e = .returned (.string ⟨#[]⟩) ∧ Kp (fun _ => False) w w' := by
  go_enter Try.func13, Try.ntmps13
  go_wp2
  go_returns
  exact ⟨rfl, Kp.refl _ _⟩
set_option maxRecDepth 100000 in
theorem resume_nil (id : Int) (w : World) : Calls Try.prog 11 #[.pointer none, .int .i64 id] w fun e w' => e = .returned (.tuple #[.string ⟨#[]⟩, .int .i64 16]) ∧ Kp (fun _ => False) w w' := by
  go_enter Try.func11, Try.ntmps11
  go_wp2_with fail
  refine (status_nil id _).mono ?_
  rintro e wa ⟨rfl, hka⟩
  go_wp2
  go_returns
  exact ⟨rfl, hka⟩
end Go.Proofs.Ytbmbfgcdbpanjaa
