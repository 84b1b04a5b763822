/- The document's site: Learn in a Cached site. -/
import Derived.Test.YtcdofhfneiednaaSiM
namespace Go.Proofs.Ytcdofhfneiednaa
set_option linter.unusedSimpArgs false
set_option linter.unusedVariables false
open Go.RowKit

theorem Try.info103 : (Try.prog.info? 103).map (fun i => (i.zero, i.size, i.bytes)) = some (some (.agg #[.int .i64 0, .int .i64 0, .int .u64 0]), 3, 24) := by kernel_rfl

theorem rset_chain {b g cap i : Nat} {s : SS} {x : Ent} {w w1 : World} (h : RAt w1 b s (.slice (some ⟨g, 0, none⟩) s.l.length cap)) (hl : REt w1 (.slice (some ⟨g, 0, none⟩) s.l.length cap) s.l) (hi : i < s.l.length) (hgb : ¬ g = b) (k : Kp (fun _ => False) w w1) :
    RSited b { s with l := s.l.set i x, rw := s.rw + 1 } (.slice (some ⟨g, 0, none⟩) s.l.length cap) w (.returned (.tuple #[])) ((((w1.setCell ⟨g, i * 3, none⟩ (.int .i64 x.sh)).setCell ⟨g, i * 3 + 1, none⟩ (.int .i64 x.sl)).setCell ⟨g, i * 3 + 2, none⟩ (.int .u64 x.ep)).setCell ⟨b, 5, none⟩ (.int .i64 (s.rw + 1))) := by
  refine ⟨_, rfl, RAt.of ((((Blk.other h (by exact fun e => hgb e.symm) _).other (by exact fun e => hgb e.symm) _).other (by exact fun e => hgb e.symm) _).set 5 _) rfl, ?_, ?_, .inl rfl⟩
  · have h1 := (World.ownsRow.stored hl (i * 3) (.int .i64 x.sh)).1
    have h2 := (h1.stored (i * 3 + 1) (.int .i64 x.sl)).1
    have h3 := (h2.stored (i * 3 + 2) (.int .u64 x.ep)).1
    rw [flat_set _ _ _ hi] at h3
    have h4 : REt (((w1.setCell ⟨g, i * 3, none⟩ (.int .i64 x.sh)).setCell ⟨g, i * 3 + 1, none⟩ (.int .i64 x.sl)).setCell ⟨g, i * 3 + 2, none⟩ (.int .u64 x.ep)) (.slice (some ⟨g, 0, none⟩) s.l.length cap) (s.l.set i x) := by
      unfold REt; rw [List.length_set]; exact h3
    exact h4.kp (Kp.setCell (S := (· = b)) (p := ⟨b, 5, none⟩) (Kp.refl _ _) (.inl rfl) _) (fun g' hg' e => hgb (by simp [Value.ownBlock] at hg'; rw [hg', e]))
  · have k0 : Kp (fun k => k = b ∨ (Value.slice (some ⟨g, 0, none⟩) s.l.length cap).ownBlock = some k) w w1 := k.mono (fun _ _ h => h.elim)
    have k1 := k0.setCell (p := ⟨g, i * 3, none⟩) (.inl (.inr rfl)) (.int .i64 x.sh)
    have k2 := k1.setCell (p := ⟨g, i * 3 + 1, none⟩) (.inl (.inr rfl)) (.int .i64 x.sl)
    have k3 := k2.setCell (p := ⟨g, i * 3 + 2, none⟩) (.inl (.inr rfl)) (.int .u64 x.ep)
    exact k3.setCell (p := ⟨b, 5, none⟩) (.inl (.inl rfl)) (.int .i64 (s.rw + 1))

theorem rsited_kq {b : Nat} {s : SS} {v : Value} {w w1 w2 : World} (h : RSited b s v w (.returned (.tuple #[])) w1) (k : Kp (fun _ => False) w1 w2) : RSited b s v w (.returned (.tuple #[])) w2 := by
  obtain ⟨v', _, h1, h2, h3, h4⟩ := h
  exact ⟨v', rfl, Blk.kp h1 k (fun h => h), h2.kp k (fun _ _ h => h), h3.trans' k (fun _ _ h => h.elim), h4⟩
theorem put_same {s : SS} {x : Ent} {i : Nat} (hi : i < s.l.length) (hno : ∀ j, (h : j < i) → (h' : j < s.l.length) → s.l[j].sh ≠ x.sh) (he : s.l[i] = x) : s.put x = s := by
  have hf : s.l.findIdx (fun e => e.sh == x.sh) = i := by
    rw [List.findIdx_eq hi]
    exact ⟨by simp [he], fun j hj => by simpa using hno j hj (by omega)⟩
  unfold SS.put
  simp only [hf, if_pos hi]
  rw [List.getElem?_eq_getElem hi, he, if_pos rfl]
theorem put_diff {s : SS} {x : Ent} {i : Nat} (hi : i < s.l.length) (hno : ∀ j, (h : j < i) → (h' : j < s.l.length) → s.l[j].sh ≠ x.sh) (hs : s.l[i].sh = x.sh) (he : ¬ s.l[i] = x) : s.put x = { s with l := s.l.set i x, rw := s.rw + 1 } := by
  have hf : s.l.findIdx (fun e => e.sh == x.sh) = i := by
    rw [List.findIdx_eq hi]
    exact ⟨by simp [hs], fun j hj => by simpa using hno j hj (by omega)⟩
  unfold SS.put
  simp only [hf, if_pos hi]
  rw [List.getElem?_eq_getElem hi, if_neg (by simpa using he)]
theorem put_new {s : SS} {x : Ent} (hno : ∀ j, (h' : j < s.l.length) → s.l[j].sh ≠ x.sh) : s.put x = if (s.l.length : Int) < s.ways then { s with l := s.l ++ [x], rw := s.rw + 1 } else s.deopt := by
  unfold SS.put
  simp only
  rw [if_neg]
  intro hi
  have := List.findIdx_getElem (p := fun e : Ent => e.sh == x.sh) (w := hi)
  exact hno _ hi (by simpa using this)

set_option maxRecDepth 100000 in
set_option maxHeartbeats 1000000 in
theorem rlearn_one (b : Nat) (s : SS) (v : Value) (x : Ent) (w : World) (h : RAt w b s v) (hl : REt w v s.l) (ok : SOk s) (hx : ¬ x.sh < 0) (hw : ¬ s.ways = 0) (hs : s.state = 1) (hrw : s.rw < 1000000000000) :
    Calls Try.prog 40 #[.pointer (some ⟨b, 0, none⟩), .int .i64 x.sh, .int .i64 x.sl, .int .u64 x.ep] w (RSited b (s.put x) v w) := by
  obtain ⟨i0, hi0, hz0, hz1, hz2⟩ := info_parts Try.info103
  have hlen : s.l.length ≤ 8 := by have := ok.len; have := ok.ways; omega
  have hpos : 0 < s.l.length := by have := ok.one.1 hs; cases hq : s.l with | nil => exact absurd hq this | cons a r => simp
  have hrw0 := ok.rw.1
  have hne := hl.ne h (by decide)
  obtain ⟨g, cap, rfl, _, hg⟩ := World.ownsRow.form hl hpos
  have hgb : ¬ g = b := fun e => hne (by rw [← e]; rfl)
  have hgx : ¬ g = w.heap.size := by omega
  have hb := h.lt
  have c0 := h.cell 0 (.int .i64 s.ways) rfl
  have c1 := h.cell 1 (.int .i64 s.warm) rfl
  have c2 := h.cell 2 (.int .i64 s.count) rfl
  have c3 := h.cell 3 (.int .i64 s.state) rfl
  have c4 := h.cell 4 (.slice (some ⟨g, 0, none⟩) s.l.length cap) rfl
  have c5 := h.cell 5 (.int .i64 s.rw) rfl
  have fr := h.free
  have H := Lib.hid h; clear h
  have HL := Lib.hid hl; clear hl
  have hw2 : (s.ways == 0) = false := by simpa using hw
  rw [hs] at c3
  have OK := Lib.hid ok; clear ok
  have HST := Lib.hid hs
  clear hw hs hpos
  have B0 : Below w.heap.size w (w.alloc (.cells #[.int .i64 x.sh, .int .i64 x.sl, .int .u64 x.ep] 103)) := (Below.refl _ _).alloc (Nat.le_refl _) _
  have X0 : Blk (w.alloc (.cells #[.int .i64 x.sh, .int .i64 x.sl, .int .u64 x.ep] 103)) w.heap.size 103 #[.int .i64 x.sh, .int .i64 x.sl, .int .u64 x.ep] := Blk.new rfl
  go_enter Try.func40, Try.ntmps40
  go_wp2_with fail
  go_loopw [72] (fun iv wr => ∃ i : Nat, iv = .int .i64 i ∧ i ≤ s.l.length ∧ (∀ j, (h : j < i) → (h' : j < s.l.length) → s.l[j].sh ≠ x.sh) ∧ Below w.heap.size w wr ∧ Blk wr w.heap.size 103 #[.int .i64 x.sh, .int .i64 x.sl, .int .u64 x.ep]) (fun iv _ => s.l.length - (intOf iv).toNat)
  case atStart => exact ⟨0, rfl, Nat.zero_le _, fun _ h => absurd h (Nat.not_lt_zero _), B0, X0⟩
  case round =>
    clear c0 c1 c2 c3 c4 c5 fr B0 X0
    obtain ⟨i, rfl, hi, hno, hk, hX⟩ := hrel
    have HNO := Lib.hid hno; clear hno
    have hsz := hk.size
    have hr : RAt wr b s _ := H.out.below hk hb
    have hlr : REt wr _ s.l := HL.out.kp (Kp.of_below hk (S := fun _ => False)) (fun _ _ h => h)
    have k1 : Kp (fun _ => False) w wr := Kp.of_below hk
    have hbr := hr.lt
    have hxr := hX.lt
    have y0 := hX.cell 0 (.int .i64 x.sh) rfl
    have y1 := hX.cell 1 (.int .i64 x.sl) rfl
    have y2 := hX.cell 2 (.int .u64 x.ep) rfl
    have d4 := hr.cell 4 (.slice (some ⟨g, 0, none⟩) s.l.length cap) rfl
    have d5 := hr.cell 5 (.int .i64 s.rw) rfl
    have d0 := hr.cell 0 (.int .i64 s.ways) rfl
    have fr1 := hr.free
    by_cases hlt : (i : Int) < s.l.length
    · have hlt' : i < s.l.length := by omega
      obtain ⟨e0, e1, e2⟩ := hlr.cell i hlt'
      have gf := fun j => World.ownsRow.frozenAt hlr j
      have hgr : g < wr.heap.size := by omega
      have HR := Lib.hid hr; have HLR := Lib.hid hlr; have K1 := Lib.hid k1; have HX := Lib.hid hX; have HK := Lib.hid hk
      clear hr hlr k1 hX hk
      by_cases he : s.l[i].sh = x.sh
      · by_cases heq : s.l[i] = x
        · have hp := put_same hlt' HNO.out heq
          have HP := Lib.hid hp; clear hp
          rw [heq] at e0 e1 e2
          clear he heq
          go_wp2
          go_returns
          rw [HP.out]
          exact rsited_same H.out HL.out (K1.out.alloc _)
        · have hp := put_diff hlt' HNO.out he heq
          have HP := Lib.hid hp; clear hp
          rw [he] at e0
          have he' : ¬ (s.l[i].sl = x.sl ∧ s.l[i].ep = x.ep) := fun ⟨h1, h2⟩ => heq (by cases hq : s.l[i]; cases x; simp_all)
          clear he heq
          generalize s.l[i] = y at *
          by_cases hq : y.sl = x.sl
          · have hq2 : ¬ y.ep = x.ep := fun h => he' ⟨hq, h⟩
            have hq3 : (y.ep == x.ep) = false := by simpa using hq2
            clear he' hq2
            rw [hq] at e1
            clear hq
            go_wp2
            refine wp_region_still_tail 7 (by kernel_rfl) (by kernel_rfl) ?_
            simp only [List.take_succ_cons, List.take_zero, List.drop_succ_cons, List.drop_zero]
            change wpStill _ _ (World.drew _) _ _ _
            repeat still_step
            refine wpStill_nil ?_
            change wpList _ _ _ _ _ (World.drew _)
            go_wp2
            go_returns
            rw [HP.out]
            exact rsited_kq (rset_chain HR.out HLR.out hlt' hgb K1.out) (((Kp.refl _ _).alloc _).drew)
          · have hq3 : (y.sl == x.sl) = false := by simpa using hq
            clear he' hq
            go_wp2
            refine wp_region_still_tail 7 (by kernel_rfl) (by kernel_rfl) ?_
            simp only [List.take_succ_cons, List.take_zero, List.drop_succ_cons, List.drop_zero]
            change wpStill _ _ (World.drew _) _ _ _
            repeat still_step
            refine wpStill_nil ?_
            change wpList _ _ _ _ _ (World.drew _)
            go_wp2
            go_returns
            rw [HP.out]
            exact rsited_kq (rset_chain HR.out HLR.out hlt' hgb K1.out) (((Kp.refl _ _).alloc _).drew)
      · have e3 : (s.l[i].sh != x.sh) = true := by simpa using he
        have HN2 := Lib.hid he; clear he
        generalize hq : s.l[i] = y at *
        have HQ := Lib.hid hq; clear hq
        go_wp2
        go_roundw
        case rel =>
          refine ⟨i + 1, by go_num, by omega, fun j hj hj' => ?_, HK.out.alloc (by omega) _, HX.out.alloc _⟩
          rcases Nat.lt_succ_iff_lt_or_eq.1 hj with h | h
          · exact HNO.out j h hj'
          · subst h; rw [HQ.out]; exact HN2.out
        case measure => simp [intOf]; omega
    · have hp := put_new (s := s) (x := x) (fun j hj => HNO.out j (by omega) hj)
      by_cases hlw : (s.l.length : Int) < s.ways
      · rw [if_pos hlw] at hp
        have HP := Lib.hid hp; clear hp
        go_wp2_with fail
        go_quiet (fail)
        go_wp2_with fail
        have R1 : RAt (wr.drewN nq) b s (.slice (some ⟨g, 0, none⟩) s.l.length cap) := hr
        have L1 : REt (wr.drewN nq) (.slice (some ⟨g, 0, none⟩) s.l.length cap) s.l := hlr
        have x1 : Blk (wr.drewN nq) w.heap.size 103 #[.int .i64 x.sh, .int .i64 x.sl, .int .u64 x.ep] := hX
        have k2 : Kp (fun _ => False) w (wr.drewN nq) := k1.drewN _
        clear hr hlr hX k1 hk hbr hxr y0 y1 y2 d4 d5 d0 fr1 hsz
        generalize wr.drewN nq = wa at *
        have hsz := k2.size
        have hba := R1.lt
        have hxa := x1.lt
        have y0 := x1.cell 0 (.int .i64 x.sh) rfl
        have y1 := x1.cell 1 (.int .i64 x.sl) rfl
        have y2 := x1.cell 2 (.int .u64 x.ep) rfl
        have d4 := R1.cell 4 (.slice (some ⟨g, 0, none⟩) s.l.length cap) rfl
        have d5 := R1.cell 5 (.int .i64 s.rw) rfl
        have fr1 := R1.free
        have hga : g < wa.heap.size := by omega
        have H2 := Lib.hid R1; have L2 := Lib.hid L1; have K2 := Lib.hid k2
        clear R1 L1 x1 k2
        refine wp_region_K (S := fun w' => w'.cell? ⟨b, 4, none⟩ = some (Value.slice (some ⟨g, 0, none⟩) s.l.length cap) ∧ w'.cell? ⟨w.heap.size, 0, none⟩ = some (.int .i64 x.sh) ∧ w'.cell? ⟨w.heap.size, 1, none⟩ = some (.int .i64 x.sl) ∧ w'.cell? ⟨w.heap.size, 2, none⟩ = some (.int .u64 x.ep)) (K := 8) (by kernel_rfl) ?_
        have hHeld : (fun w' => w'.cell? ⟨b, 4, none⟩ = some (Value.slice (some ⟨g, 0, none⟩) s.l.length cap) ∧ w'.cell? ⟨w.heap.size, 0, none⟩ = some (.int .i64 x.sh) ∧ w'.cell? ⟨w.heap.size, 1, none⟩ = some (.int .i64 x.sl) ∧ w'.cell? ⟨w.heap.size, 2, none⟩ = some (.int .u64 x.ep)) (World.drew _) := ⟨d4, y0, y1, y2⟩
        refine wpK_take (i := 0) (v := ?_) rfl (by kernel_rfl) (fun _ _ _ h => h) (Or.inl ⟨by kernel_rfl, ?_⟩) hHeld ?_
        rotate_left
        · intro w hSw; (try dsimp only at hSw); go_simp; (try with_reducible rfl)
        simp only [Act.put, List.setIfInBounds_toArray, List.set_cons_zero, List.set_cons_succ]
        refine wpK_take (i := 1) (v := ?_) rfl (by kernel_rfl) (fun _ _ _ h => h) (Or.inl ⟨by kernel_rfl, ?_⟩) hHeld ?_
        rotate_left
        · intro w hSw; (try dsimp only at hSw); go_simp; (try with_reducible rfl)
        simp only [Act.put, List.setIfInBounds_toArray, List.set_cons_zero, List.set_cons_succ]
        refine wpK_take (i := 2) (v := ?_) rfl (by kernel_rfl) (fun _ _ _ h => h) (Or.inl ⟨by kernel_rfl, ?_⟩) hHeld ?_
        rotate_left
        · intro w hSw; (try dsimp only at hSw); go_simp; (try with_reducible rfl)
        simp only [Act.put, List.setIfInBounds_toArray, List.set_cons_zero, List.set_cons_succ]
        refine wpK_take (i := 3) (v := ?_) rfl (by kernel_rfl) (fun _ _ _ h => h) (Or.inl ⟨by kernel_rfl, ?_⟩) hHeld ?_
        rotate_left
        · intro w hSw; (try dsimp only at hSw); go_simp; (try with_reducible rfl)
        simp only [Act.put, List.setIfInBounds_toArray, List.set_cons_zero, List.set_cons_succ]
        refine wpK_take (i := 4) (v := ?_) rfl (by kernel_rfl) (fun _ _ _ h => h) (Or.inl ⟨by kernel_rfl, ?_⟩) hHeld ?_
        rotate_left
        · intro w hSw; (try dsimp only at hSw); go_simp; (try with_reducible rfl)
        simp only [Act.put, List.setIfInBounds_toArray, List.set_cons_zero, List.set_cons_succ]
        refine wpK_take (i := 5) (v := ?_) rfl (by kernel_rfl) (fun _ _ _ h => h) (Or.inl ⟨by kernel_rfl, ?_⟩) hHeld ?_
        rotate_left
        · intro w hSw; (try dsimp only at hSw); go_simp; (try with_reducible rfl)
        simp only [Act.put, List.setIfInBounds_toArray, List.set_cons_zero, List.set_cons_succ]
        refine wpK_one (i := 6) (by kernel_rfl) rfl (fun K' hK => ?_)
        go_simp
        refine hK.out _ _ (fun _ => by first | exact hHeld | go_keep) (fun hHeld' => ?_)
        have hHeld := hHeld' (by decide)
        clear hHeld'
        clear hK K'
        refine wpK_one (i := 7) (by kernel_rfl) rfl (fun K' hK => ?_)
        refine step_append_lies _ (by rfl) _ _ _ (by rfl) 0 103 i0 _ 3 24 Try.underlying44 hi0 hz0 hz1 hz2 rfl (by omega) (Value.slice (some ⟨g, 0, none⟩) s.l.length cap) s.l.length (s.l.flatMap Ent.cells) (by rfl) ((World.ownsRow.alloc L2.out _).drew) ⟨wa.heap.size, 0, none⟩ 1 1 [.int .i64 x.sh, .int .i64 x.sl, .int .u64 x.ep] (by rfl) (by rfl) (World.news_of_block (cs := #[.int .i64 x.sh, .int .i64 x.sl, .int .u64 x.ep]) (t := 103) (fr := (0, 0)) (heap_alloc_new wa _)) (by simp [Value.oneCell']) (by omega) (by unfold maxLen; omega) (by omega) (by omega) (wa.heap.size + 1) (by simp) ?_
        intro g2 cap2 w2 hown hgrow hat hlt2
        refine hK.out _ _ (fun _ => ⟨(hgrow.cell_far _ (by simp; omega) (Ne.symm hne)).trans hHeld.1, (hgrow.cell_far _ (by simp; omega) (by simp [Value.ownBlock]; omega)).trans hHeld.2.1, (hgrow.cell_far _ (by simp; omega) (by simp [Value.ownBlock]; omega)).trans hHeld.2.2.1, (hgrow.cell_far _ (by simp; omega) (by simp [Value.ownBlock]; omega)).trans hHeld.2.2.2⟩) (fun hHeld' => ?_)
        have hHeld := hHeld' (by decide)
        clear hHeld' hK K'
        have HB2 : Blk w2 b 46 (s.cells (Value.slice (some ⟨g, 0, none⟩) s.l.length cap)) := Blk.grown ((Blk.alloc H2.out _).drew) hgrow hne
        have f4 := HB2.cell 4 (Value.slice (some ⟨g, 0, none⟩) s.l.length cap) rfl
        have f5 := HB2.cell 5 (.int .i64 s.rw) rfl
        have ff := HB2.free
        have hb2 := HB2.lt
        have hHB2 := Lib.hid HB2; clear HB2 d4 d5 fr1 H2
        refine wpK_one (i := 8) (by kernel_rfl) rfl (fun K' hK => ?_)
        go_simp
        refine hK.out _ _ (fun h => absurd h (by decide)) (fun _ => ?_)
        clear hK K'
        refine wpK_one (i := 9) (by kernel_rfl) rfl (fun K' hK => ?_)
        go_simp
        refine hK.out _ _ (fun h => absurd h (by decide)) (fun _ => ?_)
        clear hK K'
        refine wpK_one (i := 10) (by kernel_rfl) rfl (fun K' hK => ?_)
        go_simp
        refine hK.out _ _ (fun h => absurd h (by decide)) (fun _ => ?_)
        clear hK K'
        refine wpK_done (by kernel_rfl) ?_ _
        go_wp2
        go_returns
        rw [HP.out]
        have hsn : SameOrNew w (Value.slice (some ⟨g, 0, none⟩) s.l.length cap) (.slice (some ⟨g2, 0, none⟩) (s.l.length + 1) cap2) := by
          rcases hat with h | h
          · exact .inl h.symm
          · exact .inr fun g' hg' => by simp [Value.ownBlock] at hg'; omega
        have hlt2 : ∀ g', (Value.slice (some ⟨g2, 0, none⟩) (s.l.length + 1) cap2).ownBlock = some g' → g' ≠ b := by
          intro g' hg' e
          rcases hsn with h | h
          · exact hne (by rw [← h, hg', e])
          · have := h g' hg'; omega
        have hl2 : REt w2 (.slice (some ⟨g2, 0, none⟩) (s.l.length + 1) cap2) (s.l ++ [x]) := by
          unfold REt; rw [flat_snoc, List.length_append]; exact hown
        exact ⟨.slice (some ⟨g2, 0, none⟩) (s.l.length + 1) cap2, rfl, RAt.of ((Blk.set hHB2.out 4 _).set 5 _) rfl, hl2.kp (Kp.setCell (S := (· = b)) (p := ⟨b, 5, none⟩) (Kp.setCell (S := (· = b)) (p := ⟨b, 4, none⟩) (Kp.refl _ _) (.inl rfl) _) (.inl rfl) _) (fun g' hg' e => hlt2 g' hg' e),
          ((((K2.out.mono (S' := fun k => k = b ∨ (Value.slice (some ⟨g, 0, none⟩) s.l.length cap).ownBlock = some k) (fun _ _ h => h.elim)).alloc _).drew.grown hgrow (fun k e => .inl (.inr e))).setCell (p := ⟨b, 4, none⟩) (.inl (.inl rfl)) _).setCell (p := ⟨b, 5, none⟩) (.inl (.inl rfl)) _, hsn⟩
      · rw [if_neg hlw] at hp
        have HP := Lib.hid hp; clear hp
        go_wp2_with fail
        go_quiet (fail)
        go_wp2_with fail
        refine (rdep_any b s (.slice (some ⟨g, 0, none⟩) s.l.length cap) _ (Blk.drewN hr _) (hlr.kp ((Kp.refl (fun _ => False) _).drewN _) (fun _ _ h => h)) OK.out.deopts).mono ?_
        rintro _ w3 ⟨v', rfl, g1, g2, g3, g4⟩
        have hdd : s.dep = s.deopt := by unfold SS.dep; rw [if_neg (by have := HST.out; omega)]
        rw [hdd] at g1 g2
        have F : RSited b s.deopt (.slice (some ⟨g, 0, none⟩) s.l.length cap) w (.returned (.tuple #[])) w3 := ⟨v', rfl, g1, g2, ((k1.drewN _).mono (fun _ _ h => h.elim)).trans' g3 (fun _ _ h => h), by
          rcases g4 with h | h
          · exact .inl h
          · exact .inr fun g hg => Nat.le_trans hsz (h g hg)⟩
        have HF := Lib.hid F; clear F g1 g2 g3 g4
        go_wp2
        go_returns
        rw [HP.out]
        exact HF.out
end Go.Proofs.Ytcdofhfneiednaa
