/- Due, on both sides. -/
import Derived.Test.YtcdofhfneiednaaPoA
namespace Go.Proofs.Ytcdofhfneiednaa
set_option linter.unusedSimpArgs false
set_option linter.unusedVariables false
open Go.RowKit

theorem info69 : (Try.prog.info? 69).map (fun i => (i.zero, i.size, i.bytes)) = some (some (.agg #[.int .i64 0, .int .i64 0, .int .i64 0, .int .i64 0]), 4, 32) := by kernel_rfl
set_option maxRecDepth 100000 in
set_option maxHeartbeats 2000000 in
theorem due_any (p : Pol) (v : Value) (n : Int) (w : World) (h : ERow 69 w v p.evs) (hl : p.evs.length ≤ 100000) :
    Calls Try.prog 30 #[.agg (p.cells v), .int .i64 n] w fun e w' => ∃ v', e = .returned v' ∧ ERow 69 w' v' (p.evs.filter (fun e => e.at' == n)) ∧ (∀ k, v'.ownBlock = some k → w.heap.size ≤ k) ∧ Kp (fun _ => False) w w' := by
  obtain ⟨i0, hi, hz0, hz1, hz2⟩ := info_parts info69
  obtain ⟨ao, cap, rfl⟩ := row_form h
  have H := Lib.hid h; clear h
  unfold Pol.cells
  go_enter Try.func30, Try.ntmps30
  go_wp2_with fail
  go_loopw [5, 11] (fun ov iv wr => ∃ i : Nat, iv = .int .i64 i ∧ i ≤ p.evs.length ∧ ERow 69 wr ov ((p.evs.take i).filter (fun e => e.at' == n)) ∧ (∀ k, ov.ownBlock = some k → w.heap.size ≤ k) ∧ Kp (fun _ => False) w wr) (fun _ iv _ => p.evs.length - (intOf iv).toNat)
  case atStart => exact ⟨0, rfl, by omega, by simp [ERow]; exact World.ownsRow_nil _ _ _ _, (fun k hk => by cases hk), (Kp.refl _ _).alloc _⟩
  case round =>
    obtain ⟨i, rfl, hi', hrow, hnew, kx⟩ := hrel
    by_cases hlt : (i : Int) < p.evs.length
    · have hil : i < p.evs.length := by omega
      obtain ⟨g, cap', hga⟩ := row_some H.out (by omega)
      simp only [Value.slice.injEq] at hga
      obtain ⟨rfl, _, rfl⟩ := hga
      have hg := (H.out.lt g rfl).2
      obtain ⟨c0, c1, c2, c3⟩ := ERow.cell H.out i hil
      have d0 := (kx.cell (p := ⟨g, i * 4, none⟩) hg (fun h => h)).trans c0
      have d1 := (kx.cell (p := ⟨g, i * 4 + 1, none⟩) hg (fun h => h)).trans c1
      have d2 := (kx.cell (p := ⟨g, i * 4 + 2, none⟩) hg (fun h => h)).trans c2
      have d3 := (kx.cell (p := ⟨g, i * 4 + 3, none⟩) hg (fun h => h)).trans c3
      have hgx := Nat.lt_of_lt_of_le hg kx.size
      have hts : p.evs.take (i + 1) = p.evs.take i ++ [p.evs[i]] := List.take_succ_eq_append_getElem hil
      have hfl : ((p.evs.take i).filter (fun e => e.at' == n)).length ≤ 100000 := Nat.le_trans (List.length_filter_le _ _) (by simp; omega)
      have HT := Lib.hid hts; clear hts c0 c1 c2 c3
      generalize hls : (p.evs.take i).filter (fun e => e.at' == n) = ls at *
      have HLS := Lib.hid hls; clear hls
      obtain ⟨oo, oc, rfl⟩ := row_form hrow
      have KX := Lib.hid kx; have HR := Lib.hid hrow; have HN := Lib.hid hnew
      have hsz := kx.size
      clear kx hrow hnew
      generalize p.evs[i] = ev at *
      obtain ⟨a, k, s, y⟩ := ev
      dsimp only at d0 d1 d2 d3
      by_cases he : a = n
      · subst he
        go_wp2_with (at_builtin; refine wpList_append2 _ rfl (.tmp 19) (.tmp 21) 56 rfl 69 i0 _ 4 32 Try.underlying56 hi hz0 hz1 hz2 rfl (by decide) (.slice oo ls.length oc) ls.length (ls.flatMap Ev.cells) rfl ?own ⟨wr.heap.size + 1, 0, none⟩ 1 1 [.int .i64 a, .int .i64 k, .int .i64 s, .int .i64 y] rfl rfl ?c1 ?c2 ?c3 ?c4 ?h)
        case own => exact row_kp HR.out (((Kp.refl (fun _ => False) _).alloc _).alloc _) (fun _ _ h => h)
        case c1 => exact World.news_of_block (cs := #[.int .i64 a, .int .i64 k, .int .i64 s, .int .i64 y]) (t := 69) (fr := (0, 0)) (Blk.new (by simp))
        case c2 => intro u hu; simp at hu; rcases hu with rfl | rfl | rfl | rfl <;> rfl
        case c3 => unfold maxLen; omega
        case c4 => omega
        case h =>
          intro v' w1' hown hgr hsn
          have HOW := Lib.hid hown
          have hnew' : ∀ k, v'.ownBlock = some k → w.heap.size ≤ k := fun k hk => by
            rcases hsn with h | h
            · exact HN.out k (by rw [← h]; exact hk)
            · have := h k hk; simp at this; omega
          have k1 : Kp (fun _ => False) w w1' := by
            have k2 : Kp (fun k => w.heap.size ≤ k) wr w1' := (((Kp.refl _ wr).alloc _).alloc _).grown hgr (fun k e => .inl (HN.out k e))
            exact KX.out.trans' k2 (fun k hk h => by omega)
          have K1 := Lib.hid k1; have HN1 := Lib.hid hnew'
          clear hown k1 hnew' hgr hsn
          go_wp2
          go_roundw
          case rel =>
            refine ⟨i + 1, by go_num, by omega, ?_, HN1.out, K1.out⟩
            rw [HT.out, List.filter_append, HLS.out]
            unfold ERow
            simp only [List.filter_cons, beq_self_eq_true, if_true, List.filter_nil, List.length_append, List.flatMap_append, List.length_singleton]
            exact HOW.out
          case measure => simp [intOf]; omega
      · have q : (a == n) = false := by simpa using he
        go_wp2
        go_roundw
        case rel =>
          refine ⟨i + 1, by go_num, by omega, ?_, HN.out, KX.out.alloc _⟩
          rw [HT.out, List.filter_append, HLS.out]
          simp only [List.filter_cons, q, Bool.false_eq_true, if_false, List.filter_nil, List.append_nil]
          exact row_kp HR.out ((Kp.refl (fun _ => False) _).alloc _) (fun _ _ h => h)
        case measure => simp [intOf]; omega
    · obtain rfl : i = p.evs.length := by omega
      rw [List.take_length] at hrow
      have HR := Lib.hid hrow; have HN := Lib.hid hnew; have KX := Lib.hid kx
      clear hrow hnew kx
      go_wp2
      go_returns
      exact ⟨_, rfl, HR.out, HN.out, KX.out⟩
theorem info96 : (Try.prog.info? 96).map (fun i => (i.zero, i.size, i.bytes)) = some (some (.agg #[.int .i64 0, .int .i64 0, .int .i64 0, .int .i64 0]), 4, 32) := by kernel_rfl
set_option maxRecDepth 100000 in
set_option maxHeartbeats 2000000 in
theorem rdue_any (p : Pol) (v : Value) (n : Int) (w : World) (h : ERow 96 w v p.evs) (hl : p.evs.length ≤ 100000) :
    Calls Try.prog 31 #[.agg (p.cells v), .int .i64 n] w fun e w' => ∃ v', e = .returned v' ∧ ERow 96 w' v' (p.evs.filter (fun e => e.at' == n)) ∧ (∀ k, v'.ownBlock = some k → w.heap.size ≤ k) ∧ Kp (fun _ => False) w w' := by
  obtain ⟨i0, hi, hz0, hz1, hz2⟩ := info_parts info96
  obtain ⟨ao, cap, rfl⟩ := row_form h
  have H := Lib.hid h; clear h
  unfold Pol.cells
  go_enter Try.func31, Try.ntmps31
  go_wp2_with fail
  go_loopw [5, 11] (fun ov iv wr => ∃ i : Nat, iv = .int .i64 i ∧ i ≤ p.evs.length ∧ ERow 96 wr ov ((p.evs.take i).filter (fun e => e.at' == n)) ∧ (∀ k, ov.ownBlock = some k → w.heap.size ≤ k) ∧ Kp (fun _ => False) w wr) (fun _ iv _ => p.evs.length - (intOf iv).toNat)
  case atStart => exact ⟨0, rfl, by omega, by simp [ERow]; exact World.ownsRow_nil _ _ _ _, (fun k hk => by cases hk), (Kp.refl _ _).alloc _⟩
  case round =>
    obtain ⟨i, rfl, hi', hrow, hnew, kx⟩ := hrel
    by_cases hlt : (i : Int) < p.evs.length
    · have hil : i < p.evs.length := by omega
      obtain ⟨g, cap', hga⟩ := row_some H.out (by omega)
      simp only [Value.slice.injEq] at hga
      obtain ⟨rfl, _, rfl⟩ := hga
      have hg := (H.out.lt g rfl).2
      obtain ⟨c0, c1, c2, c3⟩ := ERow.cell H.out i hil
      have d0 := (kx.cell (p := ⟨g, i * 4, none⟩) hg (fun h => h)).trans c0
      have d1 := (kx.cell (p := ⟨g, i * 4 + 1, none⟩) hg (fun h => h)).trans c1
      have d2 := (kx.cell (p := ⟨g, i * 4 + 2, none⟩) hg (fun h => h)).trans c2
      have d3 := (kx.cell (p := ⟨g, i * 4 + 3, none⟩) hg (fun h => h)).trans c3
      have hgx := Nat.lt_of_lt_of_le hg kx.size
      have hts : p.evs.take (i + 1) = p.evs.take i ++ [p.evs[i]] := List.take_succ_eq_append_getElem hil
      have hfl : ((p.evs.take i).filter (fun e => e.at' == n)).length ≤ 100000 := Nat.le_trans (List.length_filter_le _ _) (by simp; omega)
      have HT := Lib.hid hts; clear hts c0 c1 c2 c3
      generalize hls : (p.evs.take i).filter (fun e => e.at' == n) = ls at *
      have HLS := Lib.hid hls; clear hls
      obtain ⟨oo, oc, rfl⟩ := row_form hrow
      have KX := Lib.hid kx; have HR := Lib.hid hrow; have HN := Lib.hid hnew
      have hsz := kx.size
      clear kx hrow hnew
      generalize p.evs[i] = ev at *
      obtain ⟨a, k, s, y⟩ := ev
      dsimp only at d0 d1 d2 d3
      by_cases he : a = n
      · subst he
        go_wp2_with (at_builtin; refine wpList_append2 _ rfl (.tmp 19) (.tmp 21) 52 rfl 96 i0 _ 4 32 Try.underlying52 hi hz0 hz1 hz2 rfl (by decide) (.slice oo ls.length oc) ls.length (ls.flatMap Ev.cells) rfl ?own ⟨wr.heap.size + 1, 0, none⟩ 1 1 [.int .i64 a, .int .i64 k, .int .i64 s, .int .i64 y] rfl rfl ?c1 ?c2 ?c3 ?c4 ?h)
        case own => exact row_kp HR.out (((Kp.refl (fun _ => False) _).alloc _).alloc _) (fun _ _ h => h)
        case c1 => exact World.news_of_block (cs := #[.int .i64 a, .int .i64 k, .int .i64 s, .int .i64 y]) (t := 96) (fr := (0, 0)) (Blk.new (by simp))
        case c2 => intro u hu; simp at hu; rcases hu with rfl | rfl | rfl | rfl <;> rfl
        case c3 => unfold maxLen; omega
        case c4 => omega
        case h =>
          intro v' w1' hown hgr hsn
          have HOW := Lib.hid hown
          have hnew' : ∀ k, v'.ownBlock = some k → w.heap.size ≤ k := fun k hk => by
            rcases hsn with h | h
            · exact HN.out k (by rw [← h]; exact hk)
            · have := h k hk; simp at this; omega
          have k1 : Kp (fun _ => False) w w1' := by
            have k2 : Kp (fun k => w.heap.size ≤ k) wr w1' := (((Kp.refl _ wr).alloc _).alloc _).grown hgr (fun k e => .inl (HN.out k e))
            exact KX.out.trans' k2 (fun k hk h => by omega)
          have K1 := Lib.hid k1; have HN1 := Lib.hid hnew'
          clear hown k1 hnew' hgr hsn
          go_wp2
          go_roundw
          case rel =>
            refine ⟨i + 1, by go_num, by omega, ?_, HN1.out, K1.out⟩
            rw [HT.out, List.filter_append, HLS.out]
            unfold ERow
            simp only [List.filter_cons, beq_self_eq_true, if_true, List.filter_nil, List.length_append, List.flatMap_append, List.length_singleton]
            exact HOW.out
          case measure => simp [intOf]; omega
      · have q : (a == n) = false := by simpa using he
        go_wp2
        go_roundw
        case rel =>
          refine ⟨i + 1, by go_num, by omega, ?_, HN.out, KX.out.alloc _⟩
          rw [HT.out, List.filter_append, HLS.out]
          simp only [List.filter_cons, q, Bool.false_eq_true, if_false, List.filter_nil, List.append_nil]
          exact row_kp HR.out ((Kp.refl (fun _ => False) _).alloc _) (fun _ _ h => h)
        case measure => simp [intOf]; omega
    · obtain rfl : i = p.evs.length := by omega
      rw [List.take_length] at hrow
      have HR := Lib.hid hrow; have HN := Lib.hid hnew; have KX := Lib.hid kx
      clear hrow hnew kx
      go_wp2
      go_returns
      exact ⟨_, rfl, HR.out, HN.out, KX.out⟩
end Go.Proofs.Ytcdofhfneiednaa
