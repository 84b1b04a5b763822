/- selkielaw18.PolicyLate: the walk. -/
import Derived.Test.YtcdofhfneiednaaPoS
import Derived.Test.YtcdofhfneiednaaPoQ
import Derived.Deep.LoopGhost
namespace Go.Proofs.Ytcdofhfneiednaa
set_option linter.unusedSimpArgs false
set_option linter.unusedVariables false
open Go.RowKit

set_option maxRecDepth 100000 in
set_option maxHeartbeats 4000000 in
theorem late_any (p : Pol) (v : Value) (A : List Acc) (ao' : Option Addr) (acap : Nat) (w : World) (h : EIn w v p.evs) (hA : AIn w ao' A) (hl : p.evs.length ≤ 100) (hn : A.length ≤ 400) :
    Calls Try.prog 8 #[.agg (p.cells v), .slice ao' A.length acap] w fun e w' => e = .returned (.bool true) ∧ Below w.heap.size w w' := by
  obtain ⟨i0, hi, hz0, hz1, hz2⟩ := info_parts info69
  have H := Lib.hid h
  have HA := Lib.hid hA
  clear hA
  obtain ⟨ao, cap, rfl, _⟩ := h
  unfold Pol.cells
  go_enter Try.func8, Try.ntmps8
  go_wp2_with fail
  refine (alive18_any _).mono ?_
  rintro e w1 ⟨rfl, hk⟩
  have hx := (Blk.new (w := w) (t := 54) (cs := #[.int .i64 p.ways, .int .i64 p.warm, .int .i64 p.deep, .int .i64 p.fan, .slice ao p.evs.length cap]) rfl).below hk (by simp)
  have x0 := hx.cell 0 _ rfl
  have x1 := hx.cell 1 _ rfl
  have x2 := hx.cell 2 _ rfl
  have x3 := hx.cell 3 _ rfl
  have x4 := hx.cell 4 (.slice ao p.evs.length cap) rfl
  have hxl := hx.lt
  have kk : Kp (fun _ => False) w w1 := (((Kp.refl (fun _ => False) w).alloc _)).trans (Kp.of_below hk)
  have KK := Lib.hid kk
  clear hx kk hk
  go_wp2_with fail
  refine (to_any p _ _ (H.out.kp KK.out (fun _ _ h => h)) (by omega)).mono ?_
  rintro _ wa ⟨v1, rfl, hr1, hn1, hk⟩
  replace KK := Lib.hid (KK.out.trans hk)
  obtain ⟨oo, oc, rfl⟩ := row_form hr1
  have HR1 := Lib.hid hr1
  have hwa := KK.out.size
  clear hk hn1 hr1 x0 x1 x2 x3 x4 hxl
  unfold Pol.cells
  go_wp2_with fail
  have hb5 : Blk (wa.alloc (.cells #[.int .i64 p.ways, .int .i64 p.warm, .int .i64 p.deep, .int .i64 p.fan, .slice oo p.evs.length oc] 58)) wa.heap.size 58 (p.cells (.slice oo p.evs.length oc)) := Blk.new rfl
  have HB5 := Lib.hid hb5; clear hb5
  clear H
  have hk0 : Kp (fun _ => False) wa (wa.alloc (.cells #[.int .i64 p.ways, .int .i64 p.warm, .int .i64 p.deep, .int .i64 p.fan, .slice oo p.evs.length oc] 58)) := (Kp.refl _ _).alloc _
  have HK0 := Lib.hid hk0; clear hk0
  go_loopw [6, 34] (fun ov iv wr => ∃ i : Nat, iv = .int .i64 i ∧ i ≤ p.evs.length ∧ ERow 69 wr ov ((p.evs.take i).filter (fun e => decide (e.at' ≤ (A.length : Int)))) ∧ (∀ k, ov.ownBlock = some k → wa.heap.size < k) ∧ Blk wr wa.heap.size 58 (p.cells (.slice oo p.evs.length oc)) ∧ Kp (fun _ => False) wa wr) (fun _ iv _ => p.evs.length - (intOf iv).toNat)
  case atStart => exact ⟨0, rfl, by omega, by simp [ERow]; exact World.ownsRow_nil _ _ _ _, (fun k hk => by cases hk), HB5.out, HK0.out⟩
  case round =>
    clear HB5 HK0
    obtain ⟨i, rfl, hi', hrow, hnew, hb5, kx⟩ := hrel
    by_cases hlt : (i : Int) < p.evs.length
    · have hil : i < p.evs.length := by omega
      obtain ⟨g, cap', hga⟩ := row_some HR1.out (by omega)
      simp only [Value.slice.injEq] at hga
      obtain ⟨rfl, _, rfl⟩ := hga
      have hg := (HR1.out.lt g rfl).2
      obtain ⟨c0, c1, c2, c3⟩ := ERow.cell HR1.out i hil
      have d0 := (kx.cell (p := ⟨g, i * 4, none⟩) hg (fun h => h)).trans c0
      have d1 := (kx.cell (p := ⟨g, i * 4 + 1, none⟩) hg (fun h => h)).trans c1
      have d2 := (kx.cell (p := ⟨g, i * 4 + 2, none⟩) hg (fun h => h)).trans c2
      have d3 := (kx.cell (p := ⟨g, i * 4 + 3, none⟩) hg (fun h => h)).trans c3
      have hgx := Nat.lt_of_lt_of_le hg kx.size
      have hts : p.evs.take (i + 1) = p.evs.take i ++ [p.evs[i]] := List.take_succ_eq_append_getElem hil
      have hfl : ((p.evs.take i).filter (fun e => decide (e.at' ≤ (A.length : Int)))).length ≤ 100000 := Nat.le_trans (List.length_filter_le _ _) (by simp; omega)
      have HT := Lib.hid hts; clear hts c0 c1 c2 c3
      generalize hls : (p.evs.take i).filter (fun e => decide (e.at' ≤ (A.length : Int))) = ls at *
      have HLS := Lib.hid hls; clear hls
      obtain ⟨o1, oc1, rfl⟩ := row_form hrow
      have KX := Lib.hid kx; have HR := Lib.hid hrow; have HN := Lib.hid hnew; have HB := Lib.hid hb5
      have hsz := kx.size
      have hb5l := hb5.lt
      clear kx hrow hnew hb5
      generalize p.evs[i] = ev at *
      obtain ⟨a, k, s, y⟩ := ev
      dsimp only at d0 d1 d2 d3
      by_cases he : a ≤ (A.length : Int)
      · go_wp2_with (at_builtin; refine wpList_append2 _ rfl (.tmp 43) (.tmp 45) 56 rfl 69 i0 _ 4 32 Try.underlying56 hi hz0 hz1 hz2 rfl (by decide) (.slice o1 ls.length oc1) ls.length (ls.flatMap Ev.cells) rfl ?own ⟨wr.heap.size + 1, 0, none⟩ 1 1 [.int .i64 a, .int .i64 k, .int .i64 s, .int .i64 y] rfl rfl ?c1 ?c2 ?c3 ?c4 ?h)
        case own => exact row_kp HR.out (((Kp.refl (fun _ => False) _).alloc _).alloc _) (fun _ _ h => h)
        case c1 => exact World.news_of_block (cs := #[.int .i64 a, .int .i64 k, .int .i64 s, .int .i64 y]) (t := 69) (fr := (0, 0)) (Blk.new (by simp))
        case c2 => intro u hu; simp at hu; rcases hu with rfl | rfl | rfl | rfl <;> rfl
        case c3 => unfold maxLen; omega
        case c4 => omega
        case h =>
          intro v' w1' hown hgr hsn
          have HOW := Lib.hid hown
          have hnew' : ∀ k, v'.ownBlock = some k → wa.heap.size < k := fun k hk => by
            rcases hsn with h | h
            · exact HN.out k (by rw [← h]; exact hk)
            · have := h k hk; simp at this; omega
          have k2 : Kp (fun k => wa.heap.size < k) wr w1' := (((Kp.refl _ wr).alloc _).alloc _).grown hgr (fun k e => .inl (HN.out k e))
          have k1 : Kp (fun _ => False) wa w1' := KX.out.trans' k2 (fun k hk h => by omega)
          have HB1 := Lib.hid (Blk.kp HB.out k2 (by omega))
          have K1 := Lib.hid k1; have HN1 := Lib.hid hnew'
          clear hown k1 k2 hnew' hgr hsn
          go_wp2
          go_roundw
          case rel =>
            refine ⟨i + 1, by go_num, by omega, ?_, HN1.out, HB1.out, K1.out⟩
            rw [HT.out, List.filter_append, HLS.out]
            unfold ERow
            simp only [List.filter_cons, he, decide_true, if_true, List.filter_nil, List.length_append, List.flatMap_append, List.length_singleton]
            exact HOW.out
          case measure => simp [intOf]; omega
      · go_wp2
        go_roundw
        case rel =>
          have k9 : Kp (fun _ => False) wr (wr.alloc (.cells #[.int .i64 a, .int .i64 k, .int .i64 s, .int .i64 y] 69)) := (Kp.refl _ _).alloc _
          refine ⟨i + 1, by go_num, by omega, ?_, HN.out, Blk.kp HB.out k9 (fun h => h), KX.out.trans k9⟩
          rw [HT.out, List.filter_append, HLS.out]
          simp only [List.filter_cons, he, decide_false, Bool.false_eq_true, if_false, List.filter_nil, List.append_nil]
          exact row_kp HR.out k9 (fun _ _ h => h)
        case measure => simp [intOf]; omega
    · obtain rfl : i = p.evs.length := by omega
      rw [List.take_length] at hrow
      replace hrow : ERow 69 wr _ (lateP p A.length).evs := hrow
      have hfl : (lateP p A.length).evs.length ≤ 100000 := Nat.le_trans (List.length_filter_le _ _) (by omega)
      have hr1 := row_kp (show wa.ownsRow 0 69 4 (.slice oo p.evs.length oc) p.evs.length (p.evs.flatMap Ev.cells) from HR1.out) kx (fun _ _ h => h)
      have y0 := Blk.cell hb5 0 (.int .i64 p.ways) rfl
      have y1 := Blk.cell hb5 1 (.int .i64 p.warm) rfl
      have y2 := Blk.cell hb5 2 (.int .i64 p.deep) rfl
      have y3 := Blk.cell hb5 3 (.int .i64 p.fan) rfl
      have y4 := Blk.cell hb5 4 (.slice oo p.evs.length oc) rfl
      have hb5l := hb5.lt
      obtain ⟨B, hB⟩ : ∃ B, B = wr.heap.size := ⟨_, rfl⟩
      have HBs := Lib.hid hB
      have hBw : w.heap.size ≤ B := by omega
      have hBa : wa.heap.size < B := by omega
      clear hB
      obtain ⟨o6, c6, rfl⟩ := row_form hrow
      have HB := Lib.hid hb5
      have HR := Lib.hid hrow; have HN := Lib.hid hnew; have KX := Lib.hid (KK.out.trans kx); have HR2 := Lib.hid hr1
      clear hrow hnew kx hb5 hr1 KK
      go_wp2_with fail
      refine (newp_owns (P := fun k => B ≤ k) p _ 4 _ HR2.out (by omega) (by omega) (fun _ h => by have := HBs.out; omega)).mono ?_
      rintro _ w4 ⟨b, bs, rfl, hO, hk⟩
      have hO4 : B ≤ w4.heap.size := by have := hk.size; have := HBs.out; omega
      have HO := Lib.hid hO
      replace HB := Lib.hid (Blk.kp HB.out hk (fun h => h))
      replace HR := Lib.hid (row_kp HR.out hk (fun _ _ h => h))
      replace KX := Lib.hid (KX.out.trans hk)
      clear hk hO y0 y1 y2 y3 y4 HR2
      have hb6 := HB.out.lt
      have y0 := Blk.cell HB.out 0 (.int .i64 p.ways) rfl
      have y1 := Blk.cell HB.out 1 (.int .i64 p.warm) rfl
      have y2 := Blk.cell HB.out 2 (.int .i64 p.deep) rfl
      have y3 := Blk.cell HB.out 3 (.int .i64 p.fan) rfl
      have y4 := Blk.cell HB.out 4 (.slice oo p.evs.length oc) rfl
      have y5 := Blk.free HB.out 4
      go_wp2_with fail
      have kset : Kp (fun k => k = wa.heap.size) w4 (w4.setCell ⟨wa.heap.size, 4, none⟩ (.slice o6 (lateP p A.length).evs.length c6)) := Kp.setCell (S := fun k => k = wa.heap.size) (p := ⟨wa.heap.size, 4, none⟩) (Kp.refl _ _) (.inl rfl) _
      have hO5 := HO.out.kp kset (fun k _ h e => by omega)
      have HR5 := row_kp HR.out kset (fun k hk e => by have := HN.out k hk; omega)
      have KX5 := Lib.hid (KX.out.trans' kset (fun k hk h => by omega))
      clear kset KX HO
      refine (newp_two hO5 (lateP p A.length) _ 4 HR5 hfl (by omega) (fun k hk => by simp at hk; omega)).mono ?_
      rintro _ w6 ⟨b', bs', rfl, hT, hk⟩
      have hL : Lat (fun k => B ≤ k) w6 p (lateP p A.length) b bs b' bs' 0 (List.replicate 4 (s0of p)) 0 w6 := ⟨hT, by simp, by omega, by omega, lo_new p 4, Kp.refl _ _⟩
      have KX6 := Lib.hid (KX5.out.trans hk)
      have hsz6 := hk.size
      have hsz7 : B ≤ w6.heap.size := by simp at hsz6; omega
      have HL0 := Lib.hid hL
      have hevl : p.evs.length ≤ 100000 := by omega
      clear hk hT hL HR5 KX5 HB HR HN y0 y1 y2 y3 y4 y5 hb6 hb5l hO5 HR1 hsz6 hi' HBs
      go_wp2_with fail
      go_loopw [56] (fun iv wr => ∃ (i : Nat) (l : List SS) (n : Int), iv = .int .i64 i ∧ i ≤ A.length ∧ Lat (fun k => B ≤ k) w6 p (lateP p A.length) b bs b' bs' i l n wr) (fun iv _ => A.length - (intOf iv).toNat)
      case atStart => exact ⟨0, _, _, rfl, by omega, HL0.out⟩
      case round =>
        clear HL0
        obtain ⟨i, l, n, rfl, hia, hL⟩ := hrel
        by_cases hlt : (i : Int) < A.length
        · have hil : i < A.length := by omega
          have kw : Kp (fun _ => False) w wr := KX6.out.trans' hL.kp (fun k hk h => by omega)
          rcases HA.out.kp kw (fun _ _ h => h) with h0 | ⟨ob, off, rfl, hob, hc⟩
          · omega
          obtain ⟨d0, d1⟩ := hc i hil
          obtain ⟨l2, n2, a1, a2, l4, n3, n4, lo2⟩ := late_step p l n (A.length : Int) A[i].id (i := i) (by have := hL.hi; omega) hL.four hL.few
          generalize A[i] = ac at *
          obtain ⟨id, sh⟩ := ac
          dsimp only at d0 d1 a1 a2
          have hfour := hL.four
          have hn0 := hL.lo
          have hn1 := hL.hi
          have k0 : Kp (fun _ => False) wr (wr.alloc (.cells #[.int .i64 id, .int .i64 sh] 73)) := (Kp.refl _ _).alloc _
          have hbx : Blk (wr.alloc (.cells #[.int .i64 id, .int .i64 sh] 73)) wr.heap.size 73 #[.int .i64 id, .int .i64 sh] := Blk.new rfl
          have HT := Lib.hid (hL.two.except k0 (Nat.le_refl _))
          have hws : B ≤ wr.heap.size := Nat.le_trans hsz7 hL.kp.size
          have HP := Lib.hid (show ∀ k, (wr.alloc (.cells #[.int .i64 id, .int .i64 sh] 73)).heap.size ≤ k → B ≤ k ∧ k ≠ wr.heap.size from fun k hk => by simp at hk; omega)
          have KL := Lib.hid (hL.kp.trans (k0.mono (fun _ _ h => h.elim)))
          have HX := Lib.hid hbx
          have A1 := Lib.hid a1; have A2 := Lib.hid a2; have LO2 := Lib.hid lo2
          clear kw hc k0 hbx hL a1 a2 lo2
          cases hin : inR id l.length with
          | false =>
            have HE1 := Lib.hid (show atPtr bs id l.length = .pointer none by simp [atPtr, hin])
            have HE2 := Lib.hid (show atPtr bs' id l.length = .pointer none by simp [atPtr, hin])
            clear hin
            go_wp2_with fail
            generalize wr.alloc (.cells #[.int .i64 id, .int .i64 sh] 73) = wq at *
            refine wp_region_K (S := fun w' => Blk w' wr.heap.size 73 #[.int .i64 id, .int .i64 sh]) (K := 10) (by kernel_rfl) ?_
            have hHeld : (fun w' => Blk w' wr.heap.size 73 #[.int .i64 id, .int .i64 sh]) (World.drew _) := HX.out.drew
            replace KL := Lib.hid KL.out.drew
            replace HT := Lib.hid (HT.out.tell (Kp.refl _ _).drew)
            replace HP := Lib.hid (show ∀ k, (World.drew wq).heap.size ≤ k → B ≤ k ∧ k ≠ wr.heap.size from fun k hk => HP.out k hk)
            generalize World.drew wq = wq at *
            refine wpK_take (i := 0) (v := ?_) rfl (by kernel_rfl) (fun _ _ _ h => h) (Or.inl ⟨by kernel_rfl, ?_⟩) hHeld ?_
            rotate_left
            · intro w hSw; (try dsimp only at hSw); have y0 := Blk.cell hSw 0 (.int .i64 id) rfl; have y1 := Blk.cell hSw 1 (.int .i64 sh) rfl; clear hSw; go_simp; (try with_reducible rfl)
            simp only [Act.put, List.setIfInBounds_toArray, List.set_cons_zero, List.set_cons_succ]
            refine wpK_take (i := 1) (v := ?_) rfl (by kernel_rfl) (fun _ _ _ h => h) (Or.inl ⟨by kernel_rfl, ?_⟩) hHeld ?_
            rotate_left
            · intro w hSw; (try dsimp only at hSw); have y0 := Blk.cell hSw 0 (.int .i64 id) rfl; have y1 := Blk.cell hSw 1 (.int .i64 sh) rfl; clear hSw; go_simp; (try with_reducible rfl)
            simp only [Act.put, List.setIfInBounds_toArray, List.set_cons_zero, List.set_cons_succ]
            refine wpK_take (i := 2) (v := ?_) rfl (by kernel_rfl) (fun _ _ _ h => h) (Or.inl ⟨by kernel_rfl, ?_⟩) hHeld ?_
            rotate_left
            · intro w hSw; (try dsimp only at hSw); have y0 := Blk.cell hSw 0 (.int .i64 id) rfl; have y1 := Blk.cell hSw 1 (.int .i64 sh) rfl; clear hSw; go_simp; (try with_reducible rfl)
            simp only [Act.put, List.setIfInBounds_toArray, List.set_cons_zero, List.set_cons_succ]
            refine wpK_take (i := 4) (v := ?_) rfl (by kernel_rfl) (fun _ _ _ h => h) (Or.inl ⟨by kernel_rfl, ?_⟩) hHeld ?_
            rotate_left
            · intro w hSw; (try dsimp only at hSw); have y0 := Blk.cell hSw 0 (.int .i64 id) rfl; have y1 := Blk.cell hSw 1 (.int .i64 sh) rfl; clear hSw; go_simp; (try with_reducible rfl)
            simp only [Act.put, List.setIfInBounds_toArray, List.set_cons_zero, List.set_cons_succ]
            refine wpK_take (i := 5) (v := ?_) rfl (by kernel_rfl) (fun _ _ _ h => h) (Or.inl ⟨by kernel_rfl, ?_⟩) hHeld ?_
            rotate_left
            · intro w hSw; (try dsimp only at hSw); have y0 := Blk.cell hSw 0 (.int .i64 id) rfl; have y1 := Blk.cell hSw 1 (.int .i64 sh) rfl; clear hSw; go_simp; (try with_reducible rfl)
            simp only [Act.put, List.setIfInBounds_toArray, List.set_cons_zero, List.set_cons_succ]
            refine wpK_take (i := 6) (v := ?_) rfl (by kernel_rfl) (fun _ _ _ h => h) (Or.inl ⟨by kernel_rfl, ?_⟩) hHeld ?_
            rotate_left
            · intro w hSw; (try dsimp only at hSw); have y0 := Blk.cell hSw 0 (.int .i64 id) rfl; have y1 := Blk.cell hSw 1 (.int .i64 sh) rfl; clear hSw; go_simp; (try with_reducible rfl)
            simp only [Act.put, List.setIfInBounds_toArray, List.set_cons_zero, List.set_cons_succ]
            refine wpK_one (i := 3) (by kernel_rfl) rfl (fun K' hK => ?_)
            go_simp
            refine (at_two HT.out id HP.out (by simp only [hfour]; omega) hevl ⟨hn0, by show n ≤ 1000000; omega⟩).mono ?_
            simp only [HE1.out, A1.out]
            rintro _ wq ⟨rfl, hT, hk⟩
            refine hK.out _ _ (fun _ => Blk.kp hHeld hk (fun h => h.2 rfl)) (fun hHeld' => ?_)
            have hHeld := hHeld' (by decide)
            clear hHeld' hK K'
            replace HT := Lib.hid hT
            replace HP := Lib.hid (le_of_kp hk HP.out)
            replace KL := Lib.hid (KL.out.trans (hk.mono (fun _ _ h => h.1)))
            clear hT hk
            refine wpK_one (i := 7) (by kernel_rfl) rfl (fun K' hK => ?_)
            go_simp
            refine (at_two' HT.out id HP.out (by simp only [hfour]; omega) hfl ⟨hn0, by show n ≤ 1000000; omega⟩).mono ?_
            simp only [HE2.out, A2.out]
            rintro _ wq ⟨rfl, hT, hk⟩
            refine hK.out _ _ (fun _ => Blk.kp hHeld hk (fun h => h.2 rfl)) (fun hHeld' => ?_)
            have hHeld := hHeld' (by decide)
            clear hHeld' hK K'
            replace HT := Lib.hid hT
            replace HP := Lib.hid (le_of_kp hk HP.out)
            replace KL := Lib.hid (KL.out.trans (hk.mono (fun _ _ h => h.1)))
            clear hT hk
            refine wpK_take (i := 8) (v := ?_) rfl (by kernel_rfl) (fun _ _ _ h => h) (Or.inl ⟨by kernel_rfl, ?_⟩) hHeld ?_
            rotate_left
            · intro w hSw; (try dsimp only at hSw); have y0 := Blk.cell hSw 0 (.int .i64 id) rfl; have y1 := Blk.cell hSw 1 (.int .i64 sh) rfl; clear hSw; go_simp; (try with_reducible rfl)
            simp only [Act.put, List.setIfInBounds_toArray, List.set_cons_zero, List.set_cons_succ]
            refine wpK_take (i := 9) (v := ?_) rfl (by kernel_rfl) (fun _ _ _ h => h) (Or.inl ⟨by kernel_rfl, ?_⟩) hHeld ?_
            rotate_left
            · intro w hSw; (try dsimp only at hSw); have y0 := Blk.cell hSw 0 (.int .i64 id) rfl; have y1 := Blk.cell hSw 1 (.int .i64 sh) rfl; clear hSw; go_simp; (try with_reducible rfl)
            simp only [Act.put, List.setIfInBounds_toArray, List.set_cons_zero, List.set_cons_succ]
            refine wpK_done (by kernel_rfl) ?_ _
            clear hHeld
            go_wp2
            go_roundw
            case rel => exact ⟨i + 1, l2, n2, by go_num, by omega, HT.out.mono (fun _ h => h.1), l4, by omega, by omega, fun s hs => by have := LO2.out s hs; omega, KL.out⟩
            case measure => simp [intOf]; omega
          | true =>
            obtain ⟨j, hj, hj4⟩ := inR_mem hin
            have hjn : id.toNat = j := by omega
            have hin2 := hin
            generalize hbj : bs.getD j 0 = bj
            generalize hbj' : bs'.getD j 0 = bj'
            have HE1 := Lib.hid (show atPtr bs id l.length = .pointer (some ⟨bj, 0, none⟩) by unfold atPtr; rw [hin, hjn, hbj]; rfl)
            have HE2 := Lib.hid (show atPtr bs' id l.length = .pointer (some ⟨bj', 0, none⟩) by unfold atPtr; rw [hin, hjn, hbj']; rfl)
            have HBJ := Lib.hid hbj; have HBJ' := Lib.hid hbj'
            have hj2 : j < l2.length := by omega
            clear hin hin2 hbj hbj' hjn hj
            go_wp2_with fail
            generalize wr.alloc (.cells #[.int .i64 id, .int .i64 sh] 73) = wq at *
            refine wp_region_K (S := fun w' => Blk w' wr.heap.size 73 #[.int .i64 id, .int .i64 sh]) (K := 10) (by kernel_rfl) ?_
            have hHeld : (fun w' => Blk w' wr.heap.size 73 #[.int .i64 id, .int .i64 sh]) (World.drew _) := HX.out.drew
            replace KL := Lib.hid KL.out.drew
            replace HT := Lib.hid (HT.out.tell (Kp.refl _ _).drew)
            replace HP := Lib.hid (show ∀ k, (World.drew wq).heap.size ≤ k → B ≤ k ∧ k ≠ wr.heap.size from fun k hk => HP.out k hk)
            generalize World.drew wq = wq at *
            refine wpK_take (i := 0) (v := ?_) rfl (by kernel_rfl) (fun _ _ _ h => h) (Or.inl ⟨by kernel_rfl, ?_⟩) hHeld ?_
            rotate_left
            · intro w hSw; (try dsimp only at hSw); have y0 := Blk.cell hSw 0 (.int .i64 id) rfl; have y1 := Blk.cell hSw 1 (.int .i64 sh) rfl; clear hSw; go_simp; (try with_reducible rfl)
            simp only [Act.put, List.setIfInBounds_toArray, List.set_cons_zero, List.set_cons_succ]
            refine wpK_take (i := 1) (v := ?_) rfl (by kernel_rfl) (fun _ _ _ h => h) (Or.inl ⟨by kernel_rfl, ?_⟩) hHeld ?_
            rotate_left
            · intro w hSw; (try dsimp only at hSw); have y0 := Blk.cell hSw 0 (.int .i64 id) rfl; have y1 := Blk.cell hSw 1 (.int .i64 sh) rfl; clear hSw; go_simp; (try with_reducible rfl)
            simp only [Act.put, List.setIfInBounds_toArray, List.set_cons_zero, List.set_cons_succ]
            refine wpK_take (i := 2) (v := ?_) rfl (by kernel_rfl) (fun _ _ _ h => h) (Or.inl ⟨by kernel_rfl, ?_⟩) hHeld ?_
            rotate_left
            · intro w hSw; (try dsimp only at hSw); have y0 := Blk.cell hSw 0 (.int .i64 id) rfl; have y1 := Blk.cell hSw 1 (.int .i64 sh) rfl; clear hSw; go_simp; (try with_reducible rfl)
            simp only [Act.put, List.setIfInBounds_toArray, List.set_cons_zero, List.set_cons_succ]
            refine wpK_take (i := 4) (v := ?_) rfl (by kernel_rfl) (fun _ _ _ h => h) (Or.inl ⟨by kernel_rfl, ?_⟩) hHeld ?_
            rotate_left
            · intro w hSw; (try dsimp only at hSw); have y0 := Blk.cell hSw 0 (.int .i64 id) rfl; have y1 := Blk.cell hSw 1 (.int .i64 sh) rfl; clear hSw; go_simp; (try with_reducible rfl)
            simp only [Act.put, List.setIfInBounds_toArray, List.set_cons_zero, List.set_cons_succ]
            refine wpK_take (i := 5) (v := ?_) rfl (by kernel_rfl) (fun _ _ _ h => h) (Or.inl ⟨by kernel_rfl, ?_⟩) hHeld ?_
            rotate_left
            · intro w hSw; (try dsimp only at hSw); have y0 := Blk.cell hSw 0 (.int .i64 id) rfl; have y1 := Blk.cell hSw 1 (.int .i64 sh) rfl; clear hSw; go_simp; (try with_reducible rfl)
            simp only [Act.put, List.setIfInBounds_toArray, List.set_cons_zero, List.set_cons_succ]
            refine wpK_take (i := 6) (v := ?_) rfl (by kernel_rfl) (fun _ _ _ h => h) (Or.inl ⟨by kernel_rfl, ?_⟩) hHeld ?_
            rotate_left
            · intro w hSw; (try dsimp only at hSw); have y0 := Blk.cell hSw 0 (.int .i64 id) rfl; have y1 := Blk.cell hSw 1 (.int .i64 sh) rfl; clear hSw; go_simp; (try with_reducible rfl)
            simp only [Act.put, List.setIfInBounds_toArray, List.set_cons_zero, List.set_cons_succ]
            refine wpK_one (i := 3) (by kernel_rfl) rfl (fun K' hK => ?_)
            go_simp
            refine (at_two HT.out id HP.out (by simp only [hfour]; omega) hevl ⟨hn0, by show n ≤ 1000000; omega⟩).mono ?_
            simp only [HE1.out, A1.out]
            rintro _ wq ⟨rfl, hT, hk⟩
            refine hK.out _ _ (fun _ => Blk.kp hHeld hk (fun h => h.2 rfl)) (fun hHeld' => ?_)
            have hHeld := hHeld' (by decide)
            clear hHeld' hK K'
            replace HT := Lib.hid hT
            replace HP := Lib.hid (le_of_kp hk HP.out)
            replace KL := Lib.hid (KL.out.trans (hk.mono (fun _ _ h => h.1)))
            clear hT hk
            refine wpK_one (i := 7) (by kernel_rfl) rfl (fun K' hK => ?_)
            go_simp
            refine (at_two' HT.out id HP.out (by simp only [hfour]; omega) hfl ⟨hn0, by show n ≤ 1000000; omega⟩).mono ?_
            simp only [HE2.out, A2.out]
            rintro _ wq ⟨rfl, hT, hk⟩
            refine hK.out _ _ (fun _ => Blk.kp hHeld hk (fun h => h.2 rfl)) (fun hHeld' => ?_)
            have hHeld := hHeld' (by decide)
            clear hHeld' hK K'
            replace HT := Lib.hid hT
            replace HP := Lib.hid (le_of_kp hk HP.out)
            replace KL := Lib.hid (KL.out.trans (hk.mono (fun _ _ h => h.1)))
            clear hT hk
            refine wpK_take (i := 8) (v := ?_) rfl (by kernel_rfl) (fun _ _ _ h => h) (Or.inl ⟨by kernel_rfl, ?_⟩) hHeld ?_
            rotate_left
            · intro w hSw; (try dsimp only at hSw); have y0 := Blk.cell hSw 0 (.int .i64 id) rfl; have y1 := Blk.cell hSw 1 (.int .i64 sh) rfl; clear hSw; go_simp; (try with_reducible rfl)
            simp only [Act.put, List.setIfInBounds_toArray, List.set_cons_zero, List.set_cons_succ]
            refine wpK_take (i := 9) (v := ?_) rfl (by kernel_rfl) (fun _ _ _ h => h) (Or.inl ⟨by kernel_rfl, ?_⟩) hHeld ?_
            rotate_left
            · intro w hSw; (try dsimp only at hSw); have y0 := Blk.cell hSw 0 (.int .i64 id) rfl; have y1 := Blk.cell hSw 1 (.int .i64 sh) rfl; clear hSw; go_simp; (try with_reducible rfl)
            simp only [Act.put, List.setIfInBounds_toArray, List.set_cons_zero, List.set_cons_succ]
            refine wpK_done (by kernel_rfl) ?_ _
            have y1 := Blk.cell hHeld 1 (.int .i64 sh) rfl
            have HH := Lib.hid hHeld
            clear hHeld
            go_wp2_with fail
            rw [← HBJ.out]
            refine (lrn_two HT.out hj2 ⟨sh, 0, 1⟩ HP.out (by have := LO2.out _ (List.getElem_mem hj2); show l2[j].rw < _; omega)).mono ?_
            rintro _ wl ⟨rfl, hT, hk⟩
            rw [HBJ.out]
            replace HT := Lib.hid hT
            replace HP := Lib.hid (le_of_kp hk HP.out)
            replace KL := Lib.hid (KL.out.trans (hk.mono (fun _ _ h => h.1)))
            replace HH := Lib.hid (Blk.kp HH.out hk (fun h => h.2 rfl))
            clear hT hk y1
            have y1 := Blk.cell HH.out 1 (.int .i64 sh) rfl
            go_wp2_with fail
            rw [← HBJ'.out]
            refine (lrn_two' HT.out hj2 ⟨sh, 0, 1⟩ HP.out (by have := LO2.out _ (List.getElem_mem hj2); show l2[j].rw < _; omega)).mono ?_
            rintro _ wl ⟨rfl, hT, hk⟩
            rw [HBJ'.out]
            replace HT := Lib.hid hT
            replace KL := Lib.hid (KL.out.trans (hk.mono (fun _ _ h => h.1)))
            clear hT hk y1
            go_wp2
            go_roundw
            case rel => exact ⟨i + 1, _, n2, by go_num, by omega, HT.out.mono (fun _ h => h.1), by simp [l4], by omega, by omega, lo_learn hj2 _ LO2.out, KL.out⟩
            case measure => simp [intOf]; omega
        · obtain rfl : i = A.length := by omega
          have hT := hL.two
          have hfour := hL.four
          have hlen : bs.length = 4 := hT.fst.len.trans hfour
          have hlen' : bs'.length = 4 := hT.snd.len.trans hfour
          have KA := Lib.hid (KX6.out.trans' hL.kp (fun k hk h => by omega))
          have HT := Lib.hid hT
          have HL1 := Lib.hid hlen; have HL2 := Lib.hid hlen'
          clear hL hT hlen hlen'
          go_wp2_with fail
          refine (all_owns HT.out.fst (by rw [HL1.out]; omega)).mono ?_
          rintro _ wy ⟨vy, rfl, hr, hnw, hk⟩
          rw [HL1.out] at hr
          obtain ⟨g1, q1, rfl⟩ := row_some hr (by omega)
          replace HT := Lib.hid (HT.out.tell hk)
          replace KA := Lib.hid (KA.out.trans hk)
          clear hk hr hnw
          go_wp2_with fail
          refine (all_owns HT.out.snd (by rw [HL2.out]; omega)).mono ?_
          rintro _ wy2 ⟨vy, rfl, hr, hnw, hk⟩
          rw [HL2.out] at hr
          obtain ⟨g2, q2, rfl⟩ := row_some hr (by omega)
          replace HT := Lib.hid (HT.out.tell hk)
          replace KA := Lib.hid (KA.out.trans hk)
          clear hk hr hnw
          go_wp2_with fail
          refine (all_owns HT.out.fst (by rw [HL1.out]; omega)).mono ?_
          rintro _ wy3 ⟨vy, rfl, hr, hnw, hk⟩
          rw [HL1.out] at hr
          obtain ⟨g3, q3, rfl⟩ := row_some hr (by omega)
          have HR3 := Lib.hid hr
          replace HT := Lib.hid (HT.out.tell hk)
          replace KA := Lib.hid (KA.out.trans hk)
          clear hk hr hnw
          go_wp2_with fail
          go_loopw [102] (fun iv wr => ∃ i : Nat, iv = .int .i64 i ∧ i ≤ 4 ∧ Kp (fun _ => False) wy3 wr) (fun iv _ => 4 - (intOf iv).toNat)
          case atStart => exact ⟨0, rfl, by omega, Kp.refl _ _⟩
          case round =>
            obtain ⟨i, rfl, hi4, ky⟩ := hrel
            by_cases hlt3 : (i : Int) < 4
            · have hil : i < l.length := by omega
              have hrx := row_kp HR3.out ky (fun _ _ h => h)
              have d0 := (World.ownsRow.cellAt hrx i (by omega)).trans (ptrs_at bs i (by have := HL1.out; omega))
              have hg3 := (hrx.lt g3 rfl).2
              have o1 := (HT.out.tell ky).fst.site (i := i) hil
              have o2 := (HT.out.tell ky).snd.site (i := i) hil
              have HT3 := Lib.hid (HT.out.tell ky)
              dsimp only at o1 o2
              generalize l[i] = s at *
              generalize hb1 : bs.getD i 0 = b1 at *
              generalize hb2 : bs'.getD i 0 = b2 at *
              have HB2 := Lib.hid hb2
              have O1 := Lib.hid o1; have O2 := Lib.hid o2; have KY := Lib.hid ky
              clear hb1 hb2 o1 o2 ky hrx
              go_wp2_with fail
              refine (all_owns HT3.out.snd (by rw [HL2.out]; omega)).mono ?_
              rintro _ wy4 ⟨vy, rfl, hr, hnw, hk⟩
              rw [HL2.out] at hr
              obtain ⟨g4, q4, rfl⟩ := row_some hr (by omega)
              have d1 := (World.ownsRow.cellAt hr i (by omega)).trans (ptrs_at bs' i (by have := HL2.out; omega))
              rw [HB2.out] at d1
              have hg4 := (hr.lt g4 rfl).2
              replace O1 := Lib.hid (own_tell O1.out hk)
              replace O2 := Lib.hid (own_tell O2.out hk)
              replace KY := Lib.hid (KY.out.trans hk)
              clear hk hr hnw
              go_wp2_with fail
              refine (state_own O1.out).mono ?_
              rintro _ wt ⟨rfl, hk⟩
              replace O1 := Lib.hid (own_tell O1.out hk)
              replace O2 := Lib.hid (own_tell O2.out hk)
              replace KY := Lib.hid (KY.out.trans hk)
              clear hk
              go_wp2_with fail
              clear d0 d1
              refine (state_own O2.out).mono ?_
              rintro _ wt ⟨rfl, hk⟩
              replace O1 := Lib.hid (own_tell O1.out hk)
              replace O2 := Lib.hid (own_tell O2.out hk)
              replace KY := Lib.hid (KY.out.trans hk)
              clear hk
              go_wp2_with fail
              refine (len_own O1.out).mono ?_
              rintro _ wt ⟨rfl, hk⟩
              replace O1 := Lib.hid (own_tell O1.out hk)
              replace O2 := Lib.hid (own_tell O2.out hk)
              replace KY := Lib.hid (KY.out.trans hk)
              clear hk
              go_wp2_with fail
              refine (len_own O2.out).mono ?_
              rintro _ wt ⟨rfl, hk⟩
              replace O1 := Lib.hid (own_tell O1.out hk)
              replace O2 := Lib.hid (own_tell O2.out hk)
              replace KY := Lib.hid (KY.out.trans hk)
              clear hk
              go_wp2_with fail
              refine (rewrites_own O1.out).mono ?_
              rintro _ wt ⟨rfl, hk⟩
              replace O1 := Lib.hid (own_tell O1.out hk)
              replace O2 := Lib.hid (own_tell O2.out hk)
              replace KY := Lib.hid (KY.out.trans hk)
              clear hk
              go_wp2_with fail
              refine (rewrites_own O2.out).mono ?_
              rintro _ wt ⟨rfl, hk⟩
              replace O1 := Lib.hid (own_tell O1.out hk)
              replace O2 := Lib.hid (own_tell O2.out hk)
              replace KY := Lib.hid (KY.out.trans hk)
              clear hk
              go_wp2_with fail
              refine (deopts_own O1.out).mono ?_
              rintro _ wt ⟨rfl, hk⟩
              replace O1 := Lib.hid (own_tell O1.out hk)
              replace O2 := Lib.hid (own_tell O2.out hk)
              replace KY := Lib.hid (KY.out.trans hk)
              clear hk
              go_wp2_with fail
              refine (deopts_own O2.out).mono ?_
              rintro _ wt ⟨rfl, hk⟩
              replace KY := Lib.hid (KY.out.trans hk)
              clear hk
              go_wp2
              go_roundw
              case rel => exact ⟨i + 1, by go_num, by omega, KY.out⟩
              case measure => simp [intOf]; omega
            · obtain rfl : i = 4 := by omega
              have HF := Lib.hid ((KA.out.trans ky).below (Nat.le_refl _) (fun _ _ h => h))
              clear ky KA
              go_wp2
              go_returns
              exact ⟨rfl, HF.out⟩
end Go.Proofs.Ytcdofhfneiednaa
