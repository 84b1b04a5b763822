/- A policy's sites: All, Accesses; on one that isn't there. -/
import Derived.Test.YtcdofhfneiednaaPoK
namespace Go.Proofs.Ytcdofhfneiednaa
set_option linter.unusedSimpArgs false
set_option linter.unusedVariables false
open Go.RowKit

theorem info24 : (Try.prog.info? 24).map (fun i => (i.zero, i.size, i.bytes)) = some (some (.pointer none), 1, 8) := by kernel_rfl
theorem ptrs_len (bs : List Nat) : (ptrs bs).length = bs.length := by simp [ptrs]
theorem ptrs_one (bs : List Nat) : ∀ u ∈ ptrs bs, u.oneCell' = true := by
  intro u hu
  simp [ptrs] at hu
  obtain ⟨x, _, rfl⟩ := hu
  rfl
theorem prow_src {w : World} {ao : Option Addr} {cap n : Nat} {xs : List Value} (h : w.ownsRow 0 24 1 (.slice ao n cap) n xs) : n = 0 ∨ ∃ a, ao = some a ∧ ∀ j u, xs[j]? = some u → w.cell? (a.add j) = some u := by
  by_cases h0 : n = 0
  · exact .inl h0
  · right
    obtain ⟨g, cap', he⟩ := row_some h (by omega)
    simp only [Value.slice.injEq] at he
    obtain ⟨rfl, _, rfl⟩ := he
    exact ⟨_, rfl, h.cells rfl⟩
set_option maxRecDepth 100000 in
theorem pclone_any (v : Value) (bs : List Nat) (w : World) (h : w.ownsRow 0 24 1 v bs.length (ptrs bs)) (hl : bs.length ≤ 100000) :
    Calls Try.prog 59 #[v] w fun e w' => ∃ v', e = .returned v' ∧ w'.ownsRow 0 24 1 v' bs.length (ptrs bs) ∧ (∀ k, v'.ownBlock = some k → w.heap.size ≤ k) ∧ Kp (fun _ => False) w w' := by
  obtain ⟨i0, hi, hz0, hz1, hz2⟩ := info_parts info24
  have q45 : ∀ (w : World) (a : Option Addr) (n c n' c' : Nat), (binOp .eql 75 (.slice a n c) (.slice none n' c')).run Try.prog w = .ok (.bool a.isNone) w := fun w a n c n' c' => Lib.run_eql_slice_nil w _ _ a n c n' c' Try.underlying75
  rcases h.2 with ⟨rfl, h0⟩ | ⟨g, cap, cur, rfl, h0, hh, r⟩
  · have e0 : bs = [] := List.eq_nil_of_length_eq_zero h0
    subst e0
    clear h h0
    go_enter Try.func59, Try.ntmps59
    go_wp2
    go_returns
    exact ⟨_, rfl, World.ownsRow_nil _ _ _ _, (fun k hk => by cases hk), Kp.refl _ _⟩
  · have H2 := Lib.hid h
    clear h hh r
    go_enter Try.func59, Try.ntmps59
    go_wp2_with (at_builtin; refine wpList_copy _ rfl (.tmp 5) (.tmp 6) 75 rfl 24 i0 _ 1 8 Try.underlying75 hi hz0 hz1 hz2 rfl (by decide) w.heap.size rfl (Blk.new rfl) (some ⟨g, 0, none⟩) bs.length cap rfl (ptrs bs) (by rw [ptrs_len]; omega) ?src (ptrs_one bs) ?c3 ?c4 ?h)
    case src => exact (prow_src (row_kp H2.out ((Kp.refl (fun _ => False) _).alloc _) (fun _ _ h => h)))
    case c3 => unfold maxLen; omega
    case c4 => omega
    case h =>
      intro v' w1 hown hk hnew
      have HO := Lib.hid hown
      have k1 : Kp (fun _ => False) w w1 := ((Kp.refl (fun _ => False) w).alloc _).trans' hk (fun i hi e => by have e' : i = w.heap.size := e; omega)
      have hn : ∀ k, v'.ownBlock = some k → w.heap.size ≤ k := fun k hk => (hnew k hk).elim (fun h => by omega) (fun h => by have := (World.grownBy_alloc w (.cells #[] 24) none).size; omega)
      have K1 := Lib.hid k1; have HN := Lib.hid hn
      clear hown hk hnew k1 hn
      go_wp2
      go_returns
      exact ⟨_, rfl, HO.out, HN.out, K1.out⟩
set_option maxRecDepth 100000 in
theorem all_shop (b : Nat) (S : Ss) (bs : List Nat) (F : Nat → Prop) (w : World) (h : Shop 99 69 24 Site w b S bs F) (hl : bs.length ≤ 100000) :
    Calls Try.prog 35 #[.pointer (some ⟨b, 0, none⟩)] w fun e w' => ∃ v', e = .returned v' ∧ w'.ownsRow 0 24 1 v' bs.length (ptrs bs) ∧ (∀ k, v'.ownBlock = some k → w.heap.size ≤ k) ∧ Kp (fun _ => False) w w' := by
  obtain ⟨ev, lv, Fs, h⟩ := h
  obtain ⟨ao, ac, rfl⟩ := row_form h.row
  have hb := h.blk.lt
  have c5 := h.blk.cell 5 (.slice ao bs.length ac) rfl
  have H := Lib.hid h; clear h
  go_enter Try.func35, Try.ntmps35
  go_wp2_with fail
  refine (pclone_any _ bs _ H.out.row hl).mono ?_
  rintro e wa ⟨v', rfl, h1, h2, h3⟩
  have H1 := Lib.hid h1; have H2 := Lib.hid h2; have H3 := Lib.hid h3; clear h1 h2 h3
  go_wp2
  go_returns
  exact ⟨_, rfl, H1.out, H2.out, H3.out⟩
set_option maxRecDepth 100000 in
theorem accesses_shop (b : Nat) (S : Ss) (bs : List Nat) (F : Nat → Prop) (w : World) (h : Shop 99 69 24 Site w b S bs F) :
    Calls Try.prog 38 #[.pointer (some ⟨b, 0, none⟩)] w fun e w' => e = .returned (.int .i64 S.n) ∧ Kp (fun _ => False) w w' := by
  obtain ⟨ev, lv, Fs, h⟩ := h
  have hb := h.blk.lt
  have c6 := h.blk.cell 6 (.int .i64 S.n) rfl
  clear h
  go_enter Try.func38, Try.ntmps38
  go_wp2
  go_returns
  exact ⟨rfl, Kp.refl _ _⟩
set_option maxRecDepth 100000 in
theorem at_nil (id : Int) (w : World) : Calls Try.prog 34 #[.pointer none, .int .i64 id] w fun e w' => e = .returned (.pointer none) ∧ Kp (fun _ => False) w w' := by
  go_enter Try.func34, Try.ntmps34
  go_wp2
  go_returns
  exact ⟨rfl, Kp.refl _ _⟩
end Go.Proofs.Ytcdofhfneiednaa
