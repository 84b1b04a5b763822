/- The law's helpers To and Ref. -/
import Derived.Test.YtcdofhfneiednaaPoF
import Derived.Test.YtcdofhfneiednaaRh
namespace Go.Proofs.Ytcdofhfneiednaa
set_option linter.unusedSimpArgs false
set_option linter.unusedVariables false
open Go.RowKit

theorem Blk.sz {w : World} {cs : Array Value} {t : TypeId} : (w.alloc (.cells cs t)).heap.size = w.heap.size + 1 := by simp
set_option maxRecDepth 100000 in
set_option maxHeartbeats 2000000 in
theorem to_any (p : Pol) (v : Value) (w : World) (h : EIn w v p.evs) (hl : p.evs.length ≤ 100000) :
    Calls Try.prog 26 #[.agg (p.cells v)] w fun e w' => ∃ v', e = .returned (.agg (p.cells v')) ∧ ERow 69 w' v' p.evs ∧ (∀ k, v'.ownBlock = some k → w.heap.size ≤ k) ∧ Kp (fun _ => False) w w' := by
  obtain ⟨i0, hi, hz0, hz1, hz2⟩ := info_parts info69'
  have H := Lib.hid h
  obtain ⟨ao, cap, rfl, _⟩ := h
  unfold Pol.cells
  go_enter Try.func26, Try.ntmps26
  go_wp2_with fail
  have O0 : Blk (((w.alloc (.cells #[.int .i64 p.ways, .int .i64 p.warm, .int .i64 p.deep, .int .i64 p.fan, .slice ao p.evs.length cap] 54)).alloc (.cells #[.int .i64 0, .int .i64 0, .int .i64 0, .int .i64 0, .slice none 0 0] 58)).alloc (.cells #[.int .i64 p.ways, .int .i64 p.warm, .int .i64 p.deep, .int .i64 p.fan, .slice none 0 0] 58)) (w.heap.size + 1 + 1) 58 (p.cells (.slice none 0 0)) := Blk.new (by simp)
  have O1 : Blk (((w.alloc (.cells #[.int .i64 p.ways, .int .i64 p.warm, .int .i64 p.deep, .int .i64 p.fan, .slice ao p.evs.length cap] 54)).alloc (.cells #[.int .i64 0, .int .i64 0, .int .i64 0, .int .i64 0, .slice none 0 0] 58)).alloc (.cells #[.int .i64 p.ways, .int .i64 p.warm, .int .i64 p.deep, .int .i64 p.fan, .slice none 0 0] 58)) (w.heap.size + 1) 58 #[.int .i64 0, .int .i64 0, .int .i64 0, .int .i64 0, .slice none 0 0] := (Blk.new (by simp)).alloc _
  have hk0 : Kp (fun _ => False) w (((w.alloc (.cells #[.int .i64 p.ways, .int .i64 p.warm, .int .i64 p.deep, .int .i64 p.fan, .slice ao p.evs.length cap] 54)).alloc (.cells #[.int .i64 0, .int .i64 0, .int .i64 0, .int .i64 0, .slice none 0 0] 58)).alloc (.cells #[.int .i64 p.ways, .int .i64 p.warm, .int .i64 p.deep, .int .i64 p.fan, .slice none 0 0] 58)) := (((Kp.refl _ _).alloc _).alloc _).alloc _
  go_loopw [18] (fun iv wr => ∃ (i : Nat) (ov : Value), iv = .int .i64 i ∧ i ≤ p.evs.length ∧ Blk wr (w.heap.size + 1 + 1) 58 (p.cells ov) ∧ Blk wr (w.heap.size + 1) 58 #[.int .i64 0, .int .i64 0, .int .i64 0, .int .i64 0, .slice none 0 0] ∧ ERow 69 wr ov (p.evs.take i) ∧ (∀ k, ov.ownBlock = some k → w.heap.size ≤ k) ∧ Kp (fun _ => False) w wr) (fun iv _ => p.evs.length - (intOf iv).toNat)
  case atStart => exact ⟨0, _, rfl, by omega, O0, O1, by simp [ERow]; exact World.ownsRow_nil _ _ _ _, (fun k hk => by cases hk), hk0⟩
  case round =>
    clear O0 O1 hk0
    obtain ⟨i, ov, rfl, hi', hO, hR0, hrow, hnew, kx⟩ := hrel
    by_cases hlt : (i : Int) < p.evs.length
    · have hil : i < p.evs.length := by omega
      obtain ⟨b, off, rfl, hb, hc⟩ : ∃ b off, ao = some ⟨b, off, none⟩ ∧ b < w.heap.size ∧ ∀ j u, (p.evs.flatMap Ev.cells)[j]? = some u → w.cell? ⟨b, off + j, none⟩ = some u := by
        obtain ⟨ao', cap', he, hh⟩ := H.out
        simp only [Value.slice.injEq] at he
        obtain ⟨rfl, _, rfl⟩ := he
        exact hh.resolve_left (by omega)
      obtain ⟨c0, c1, c2, c3⟩ := eflat_at p.evs i hil
      have d0 := (kx.cell (p := ⟨b, off + i * 4, none⟩) hb (fun h => h)).trans (hc _ _ c0)
      have d1 := (kx.cell (p := ⟨b, off + i * 4 + 1, none⟩) hb (fun h => h)).trans (hc _ _ c1)
      have d2 := (kx.cell (p := ⟨b, off + i * 4 + 2, none⟩) hb (fun h => h)).trans (hc _ _ c2)
      have d3 := (kx.cell (p := ⟨b, off + i * 4 + 3, none⟩) hb (fun h => h)).trans (hc _ _ c3)
      have hbx := Nat.lt_of_lt_of_le hb kx.size
      have hts : p.evs.take (i + 1) = p.evs.take i ++ [p.evs[i]] := List.take_succ_eq_append_getElem hil
      have hfl : (p.evs.take i).length ≤ 100000 := by simp; omega
      have hno := row_ne hrow hO (by decide)
      have hnr := row_ne hrow hR0 (by decide)
      obtain ⟨oo, oc, rfl⟩ := row_form hrow
      have y4 := hO.cell 4 (.slice oo (p.evs.take i).length oc) rfl
      have yf := hO.free
      have hol := hO.lt
      have HT := Lib.hid hts
      have KX := Lib.hid kx; have HR := Lib.hid hrow; have HN := Lib.hid hnew; have HO := Lib.hid hO; have HR0 := Lib.hid hR0
      have hsz := kx.size
      clear kx hrow hnew hts c0 c1 c2 c3 hc hO hR0
      generalize hls : p.evs.take i = ls at *
      clear hls
      generalize p.evs[i] = ev at *
      obtain ⟨a, k, s, y⟩ := ev
      dsimp only at d0 d1 d2 d3
      go_wp2_with (at_builtin; refine wpList_append2 _ rfl (.tmp 23) (.tmp 25) 56 rfl 69 i0 _ 4 32 Try.underlying56 hi hz0 hz1 hz2 rfl (by decide) (.slice oo ls.length oc) ls.length (ls.flatMap Ev.cells) rfl ?own ⟨wr.heap.size + 1, 0, none⟩ 1 1 [.int .i64 a, .int .i64 k, .int .i64 s, .int .i64 y] rfl rfl ?c1 ?c2 ?c3 ?c4 ?h)
      case own => exact row_kp HR.out (((Kp.refl (fun _ => False) _).alloc _).alloc _) (fun _ _ h => h)
      case c1 => exact World.news_of_block (cs := #[.int .i64 a, .int .i64 k, .int .i64 s, .int .i64 y]) (t := 69) (fr := (0, 0)) (Blk.new (by simp))
      case c2 => intro u hu; simp at hu; rcases hu with rfl | rfl | rfl | rfl <;> rfl
      case c3 => unfold maxLen; omega
      case c4 => omega
      case h =>
        intro v' w1' hown hgr hsn
        obtain ⟨g', cg', rfl⟩ := row_some hown (by omega)
        have hnew' : ∀ k, (Value.slice (some ⟨g', 0, none⟩) (ls.length + 1) cg').ownBlock = some k → w.heap.size ≤ k := fun k hk => by
          rcases hsn with h | h
          · exact HN.out k (by rw [← h]; exact hk)
          · have := h k hk; simp at this; omega
        have k1 : Kp (fun k => (Value.slice oo ls.length oc).ownBlock = some k) wr w1' := (((Kp.refl _ wr).alloc _).alloc _).grown hgr (fun k e => .inl e)
        have hO1 := Blk.kp HO.out k1 hno
        have hR1 := Blk.kp HR0.out k1 hnr
        have hne1 := row_ne hown hO1 (by decide)
        have z4 := hO1.cell 4 (.slice oo ls.length oc) rfl
        have zf := hO1.free
        have hol1 := hO1.lt
        have kf : Kp (fun _ => False) w (w1'.setCell ⟨w.heap.size + 1 + 1, 4, none⟩ (.slice (some ⟨g', 0, none⟩) (ls.length + 1) cg')) := (KX.out.trans' (k1.mono (S' := fun k => w.heap.size ≤ k) (fun k _ e => HN.out k e)) (fun k hk h => by omega)).trans' (Kp.setCell (S := fun k => w.heap.size ≤ k) (p := ⟨w.heap.size + 1 + 1, 4, none⟩) (Kp.refl _ _) (.inl (by show w.heap.size ≤ w.heap.size + 1 + 1; omega)) _) (fun k hk h => by omega)
        have HOW := Lib.hid hown; have K1 := Lib.hid kf; have HN1 := Lib.hid hnew'; have HO1 := Lib.hid hO1; have HR1 := Lib.hid hR1
        clear hown k1 hnew' hgr hsn hO1 hR1 kf y4 yf
        go_wp2
        go_roundw
        case rel =>
          refine ⟨i + 1, .slice (some ⟨g', 0, none⟩) (ls.length + 1) cg', by go_num, by omega, HO1.out.set 4 _, HR1.out.other (by simp) _, ?_, HN1.out, K1.out⟩
          rw [HT.out]
          unfold ERow
          rw [List.length_append, List.flatMap_append]
          exact row_kp HOW.out (Kp.setCell (S := (· = w.heap.size + 1 + 1)) (p := ⟨w.heap.size + 1 + 1, 4, none⟩) (Kp.refl _ _) (.inl rfl) _) (fun k hk e => hne1 (by rw [hk, e]))
        case measure => simp [intOf]; omega
    · obtain rfl : i = p.evs.length := by omega
      rw [List.take_length] at hrow
      obtain ⟨oo, oc, rfl⟩ := row_form hrow
      have hne2 := row_ne hrow hR0 (by decide)
      have z0 := hO.cell 0 (.int .i64 p.ways) rfl
      have z1 := hO.cell 1 (.int .i64 p.warm) rfl
      have z2 := hO.cell 2 (.int .i64 p.deep) rfl
      have z3 := hO.cell 3 (.int .i64 p.fan) rfl
      have z4 := hO.cell 4 (.slice oo p.evs.length oc) rfl
      have r0 := hR0.cell 0 (.int .i64 0) rfl
      have r1 := hR0.cell 1 (.int .i64 0) rfl
      have r2 := hR0.cell 2 (.int .i64 0) rfl
      have r3 := hR0.cell 3 (.int .i64 0) rfl
      have r4 := hR0.cell 4 (.slice none 0 0) rfl
      have rf := hR0.free
      have hl1 := hO.lt; have hl2 := hR0.lt
      have HR := Lib.hid hrow; have HN := Lib.hid hnew; have KX := Lib.hid kx; have HR0 := Lib.hid hR0
      clear hrow hnew kx hO hR0
      go_wp2
      have RB := (((((Blk.set HR0.out 0 (.int .i64 p.ways)).set 1 (.int .i64 p.warm)).set 2 (.int .i64 p.deep)).set 3 (.int .i64 p.fan)).set 4 (.slice oo p.evs.length oc))
      have R0 := RB.cell 0 (.int .i64 p.ways) rfl
      have R1 := RB.cell 1 (.int .i64 p.warm) rfl
      have R2 := RB.cell 2 (.int .i64 p.deep) rfl
      have R3 := RB.cell 3 (.int .i64 p.fan) rfl
      have R4 := RB.cell 4 (.slice oo p.evs.length oc) rfl
      clear RB
      refine bodyPost_ret (v := .agg #[.int .i64 p.ways, .int .i64 p.warm, .int .i64 p.deep, .int .i64 p.fan, .slice oo p.evs.length oc]) (by simp [results, Try.results26, go_sem, R0, R1, R2, R3, R4]) rfl ?_
      have ks : ∀ (wz : World) (i : Nat) (u : Value), Kp (fun k => k = w.heap.size + 1) wz (wz.setCell ⟨w.heap.size + 1, i, none⟩ u) := fun wz i u => Kp.setCell (S := (· = w.heap.size + 1)) (p := ⟨w.heap.size + 1, i, none⟩) (Kp.refl _ _) (.inl rfl) u
      have kall := ((((ks wr 0 (.int .i64 p.ways)).trans (ks _ 1 (.int .i64 p.warm))).trans (ks _ 2 (.int .i64 p.deep))).trans (ks _ 3 (.int .i64 p.fan))).trans (ks _ 4 (.slice oo p.evs.length oc))
      exact ⟨_, rfl, row_kp HR.out kall (fun k hk e => hne2 (by have e' : k = w.heap.size + 1 := e; rw [hk, e'])), HN.out, KX.out.trans' kall (fun k hk e => by have e' : k = w.heap.size + 1 := e; omega)⟩
end Go.Proofs.Ytcdofhfneiednaa
