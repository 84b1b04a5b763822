/- The document's sites of a policy: New. -/
import Derived.Test.YtcdofhfneiednaaPoN
namespace Go.Proofs.Ytcdofhfneiednaa
set_option linter.unusedSimpArgs false
set_option linter.unusedVariables false
open Go.RowKit

theorem info35 : (Try.prog.info? 35).map (fun i => (i.zero, i.size, i.bytes)) = some (some (.pointer none), 1, 8) := by kernel_rfl
/-- What the loop keeps: so many sites made. -/
structure RMaking (w : World) (b : Nat) (p : Pol) (ev lv : Value) (i : Nat) (bs : List Nat) (Fs : Nat → Nat → Prop) (wr : World) : Prop where
  blk : Blk wr b 85 (Ss.cells ⟨p, [], 0⟩ ev lv)
  box : Blk wr w.heap.size 61 (p.cells ev)
  evr : ERow 96 wr ev p.evs
  row : wr.ownsRow 0 35 1 lv i (ptrs bs)
  len : bs.length = i
  many : Many RSite wr bs (List.replicate i (s0of p)) Fs
  none : ∀ j, i ≤ j → ∀ k, ¬ Fs j k
  new : ∀ j k, Fs j k → w.heap.size < k ∧ k ≠ b ∧ lv.ownBlock ≠ some k
  ev' : ∀ k, ev.ownBlock = some k → k < w.heap.size
  lv' : ∀ k, lv.ownBlock = some k → w.heap.size ≤ k
  kp : Kp (fun _ => False) w wr
set_option maxRecDepth 100000 in
set_option maxHeartbeats 4000000 in
theorem rnewp_any (p : Pol) (v : Value) (n : Nat) (w : World) (h : ERow 96 w v p.evs) (hn : n ≤ 100) :
    Calls Try.prog 36 #[.agg (p.cells v), .int .i64 n] w fun e w' => ∃ b bs F, e = .returned (.pointer (some ⟨b, 0, none⟩)) ∧ Shop 85 96 35 RSite w' b ⟨p, List.replicate n (s0of p), 0⟩ bs F ∧ (∀ k, F k → w.heap.size ≤ k ∨ v.ownBlock = some k) ∧ Kp (fun _ => False) w w' := by
  obtain ⟨i0, hi, hz0, hz1, hz2⟩ := info_parts info35
  obtain ⟨eo, ec, rfl⟩ := row_form h
  obtain ⟨b, hb⟩ : ∃ b, b = w.heap.size + 1 := ⟨_, rfl⟩
  have m0 : RMaking w b p (.slice eo p.evs.length ec) (.slice none 0 0) 0 [] (fun _ _ => False) ((w.alloc (.cells #[.int .i64 p.ways, .int .i64 p.warm, .int .i64 p.deep, .int .i64 p.fan, .slice eo p.evs.length ec] 61)).alloc (.cells #[.int .i64 p.ways, .int .i64 p.warm, .int .i64 p.deep, .int .i64 p.fan, .slice eo p.evs.length ec, .slice none 0 0, .int .i64 0] 85)) :=
    ⟨Blk.new (by simp [hb]), (Blk.new rfl).alloc _, row_kp h (((Kp.refl (fun _ => False) _).alloc _).alloc _) (fun _ _ h => h), World.ownsRow_nil _ _ _ _, rfl, ⟨rfl, fun i hi => by simp at hi, fun _ _ _ _ h => h.elim, fun _ _ h => h.elim⟩, fun _ _ _ h => h, fun _ _ h => h.elim, fun k hk => (h.lt k hk).2, fun k hk => (by cases hk), ((Kp.refl _ _).alloc _).alloc _⟩
  have M0 := Lib.hid m0; clear m0 h
  unfold Pol.cells
  go_enter Try.func36, Try.ntmps36
  go_wp2_with fail
  generalize hb' : w.heap.size + 1 = b' at *
  subst hb
  go_loopw [6] (fun iv wr => ∃ (i : Nat) (lv : Value) (bs : List Nat) (Fs : Nat → Nat → Prop), iv = .int .i64 i ∧ i ≤ n ∧ RMaking w b p (.slice eo p.evs.length ec) lv i bs Fs wr) (fun iv _ => n - (intOf iv).toNat)
  case atStart => exact ⟨0, _, _, _, rfl, by omega, M0.out⟩
  case round =>
    clear M0
    obtain ⟨i, lv, bs, Fs, rfl, hi', hm⟩ := hrel
    by_cases hlt : (i : Int) < n
    · have hl6 : (i : Int) < 65536 := by omega
      obtain ⟨lo, lc, rfl⟩ := row_form hm.row
      have hlc := row_ne hm.row hm.blk (by decide)
      have hlx := row_ne hm.row hm.box (by decide)
      have M := Lib.hid hm
      have hbl := hm.blk.lt; have hxl2 := hm.box.lt
      have hwr := hm.kp.size
      clear hm
      go_wp2_with fail
      refine wp_region_D (S := fun w' => Blk w' b 85 (Ss.cells ⟨p, [], 0⟩ (.slice eo p.evs.length ec) (.slice lo i lc)) ∧ Blk w' w.heap.size 61 (p.cells (.slice eo p.evs.length ec))) (D := fun i => [4, 6, 8, 9, 10, 11].contains i) (by kernel_rfl) ?_
      have hHeld : (fun w' => Blk w' b 85 (Ss.cells ⟨p, [], 0⟩ (.slice eo p.evs.length ec) (.slice lo i lc)) ∧ Blk w' w.heap.size 61 (p.cells (.slice eo p.evs.length ec))) (World.drew _) := ⟨M.out.blk.drew, M.out.box.drew⟩
      refine wpD_free (i := 0) (v := ?_) rfl (by kernel_rfl) (fun _ _ _ h => h) (Or.inl ⟨by kernel_rfl, ?_⟩) ?_
      rotate_left
      · intro w hSw; (try dsimp only at hSw); go_simp; (try with_reducible rfl)
      simp only [Act.put, List.setIfInBounds_toArray, List.set_cons_zero, List.set_cons_succ]
      refine wpD_free (i := 1) (v := ?_) rfl (by kernel_rfl) (fun _ _ _ h => h) (Or.inl ⟨by kernel_rfl, ?_⟩) ?_
      rotate_left
      · intro w hSw; (try dsimp only at hSw); go_simp; (try with_reducible rfl)
      simp only [Act.put, List.setIfInBounds_toArray, List.set_cons_zero, List.set_cons_succ]
      refine wpD_free (i := 2) (v := ?_) rfl (by kernel_rfl) (fun _ _ _ h => h) (Or.inl ⟨by kernel_rfl, ?_⟩) ?_
      rotate_left
      · intro w hSw; (try dsimp only at hSw); go_simp; (try with_reducible rfl)
      simp only [Act.put, List.setIfInBounds_toArray, List.set_cons_zero, List.set_cons_succ]
      refine wpD_free (i := 3) (v := ?_) rfl (by kernel_rfl) (fun _ _ _ h => h) (Or.inl ⟨by kernel_rfl, ?_⟩) ?_
      rotate_left
      · intro w hSw; (try dsimp only at hSw); go_simp; (try with_reducible rfl)
      simp only [Act.put, List.setIfInBounds_toArray, List.set_cons_zero, List.set_cons_succ]
      refine wpD_free (i := 5) (v := ?_) rfl (by kernel_rfl) (fun _ _ _ h => h) (Or.inl ⟨by kernel_rfl, ?_⟩) ?_
      rotate_left
      · intro w hSw; (try dsimp only at hSw); go_simp; (try with_reducible rfl)
      simp only [Act.put, List.setIfInBounds_toArray, List.set_cons_zero, List.set_cons_succ]
      refine wpD_free (i := 7) (v := ?_) rfl (by kernel_rfl) (fun _ _ _ h => h) (Or.inl ⟨by kernel_rfl, ?_⟩) ?_
      rotate_left
      · intro w hSw; (try dsimp only at hSw); go_simp; (try with_reducible rfl)
      simp only [Act.put, List.setIfInBounds_toArray, List.set_cons_zero, List.set_cons_succ]
      refine wpD_take (i := 4) (v := ?_) rfl (by kernel_rfl) (fun _ _ _ h => h) (Or.inl ⟨by kernel_rfl, ?_⟩) hHeld ?_
      rotate_left
      · intro w hSw; (try dsimp only at hSw); have y5 := Blk.cell hSw.1 5 (.slice lo i lc) rfl; have z0 := Blk.cell hSw.2 0 (.int .i64 p.ways) rfl; have z1 := Blk.cell hSw.2 1 (.int .i64 p.warm) rfl; clear hSw; go_simp; (try with_reducible rfl)
      simp only [Act.put, List.setIfInBounds_toArray, List.set_cons_zero, List.set_cons_succ]
      refine wpD_take (i := 6) (v := ?_) rfl (by kernel_rfl) (fun _ _ _ h => h) (Or.inl ⟨by kernel_rfl, ?_⟩) hHeld ?_
      rotate_left
      · intro w hSw; (try dsimp only at hSw); have y5 := Blk.cell hSw.1 5 (.slice lo i lc) rfl; have z0 := Blk.cell hSw.2 0 (.int .i64 p.ways) rfl; have z1 := Blk.cell hSw.2 1 (.int .i64 p.warm) rfl; clear hSw; go_simp; (try with_reducible rfl)
      simp only [Act.put, List.setIfInBounds_toArray, List.set_cons_zero, List.set_cons_succ]
      refine wpD_take (i := 8) (v := ?_) rfl (by kernel_rfl) (fun _ _ _ h => h) (Or.inl ⟨by kernel_rfl, ?_⟩) hHeld ?_
      rotate_left
      · intro w hSw; (try dsimp only at hSw); have y5 := Blk.cell hSw.1 5 (.slice lo i lc) rfl; have z0 := Blk.cell hSw.2 0 (.int .i64 p.ways) rfl; have z1 := Blk.cell hSw.2 1 (.int .i64 p.warm) rfl; clear hSw; go_simp; (try with_reducible rfl)
      simp only [Act.put, List.setIfInBounds_toArray, List.set_cons_zero, List.set_cons_succ]
      refine wpD_one (i := 9) (by kernel_rfl) rfl (fun K' hK => ?_)
      go_simp
      refine (rnew_site p.ways p.warm _).mono ?_
      rintro e wn ⟨b', rfl, hb1, hb2, hb3⟩
      have hb1' : wr.heap.size ≤ b' := hb1
      have kn : Kp (fun _ => False) wr wn := ((Kp.refl (fun _ => False) wr).drew).trans (Kp.of_below hb3)
      refine hK.out _ _ (fun _ => ⟨Blk.kp M.out.blk kn (fun h => h), Blk.kp M.out.box kn (fun h => h)⟩) (fun hHeld' => ?_)
      have hHeld := hHeld' (by decide)
      clear hHeld' hK K'
      have HB2 := Lib.hid hb2; have KN := Lib.hid kn
      have hbn := hb2.lt
      clear hb1 hb2 hb3 kn
      refine wpD_one (i := 10) (by kernel_rfl) rfl (fun K' hK => ?_)
      go_simp
      refine hK.out _ _ (fun _ => ⟨hHeld.1.alloc _, hHeld.2.alloc _⟩) (fun hHeld' => ?_)
      have hHeld := hHeld' (by decide)
      clear hHeld' hK K'
      have bz : Blk (wn.alloc (.cells #[.pointer (some ⟨b', 0, none⟩)] 35)) wn.heap.size 35 #[.pointer (some ⟨b', 0, none⟩)] := Blk.new rfl
      have kz : Kp (fun _ => False) wr (wn.alloc (.cells #[.pointer (some ⟨b', 0, none⟩)] 35)) := KN.out.alloc _
      have hb2' := HB2.out.kp ((Kp.refl (fun _ => False) wn).alloc (.cells #[.pointer (some ⟨b', 0, none⟩)] 35)) (fun _ _ _ h => h)
      have hzz : wr.heap.size ≤ wn.heap.size := KN.out.size
      generalize hz : wn.heap.size = z at *
      generalize hwz : wn.alloc (.cells #[.pointer (some ⟨b', 0, none⟩)] 35) = wz at *
      have BZ := Lib.hid bz; have KZ := Lib.hid kz; have HB3 := Lib.hid hb2'
      clear bz kz hb2' hwz HB2 KN
      refine wpD_one (i := 11) (by kernel_rfl) rfl (fun K' hK => ?_)
      refine step_append_lies _ (by rfl) _ _ _ (by rfl) 0 35 i0 (.pointer none) 1 8 Try.underlying83 hi hz0 hz1 hz2 rfl (by omega) (.slice lo i lc) i (ptrs bs) (by rfl) (row_kp M.out.row KZ.out (fun _ _ h => h)) ⟨z, 0, none⟩ 1 1 [.pointer (some ⟨b', 0, none⟩)] (by rfl) (by rfl) (World.news_of_block (cs := #[.pointer (some ⟨b', 0, none⟩)]) (t := 35) (fr := (0, 0)) BZ.out) (by simp [Value.oneCell']) (by omega) (by unfold maxLen; omega) (by omega) (by omega) _ rfl ?_
      intro g cap2 w2 hown hgrow hat hlt2
      have k7 : Kp (fun k => (Value.slice lo i lc).ownBlock = some k) wz w2 := (Kp.refl _ _).grown hgrow (fun k e => .inl e)
      refine hK.out _ _ (fun _ => ⟨Blk.kp hHeld.1 k7 hlc, Blk.kp hHeld.2 k7 hlx⟩) (fun hHeld' => ?_)
      have hHeld := hHeld' (by decide)
      clear hHeld' hK K'
      have y5 := hHeld.1.cell 5 (.slice lo i lc) rfl
      have yf := hHeld.1.free
      have hlb2 := hHeld.1.lt
      refine wpD_free (i := 12) (v := ?_) rfl (by kernel_rfl) (fun _ _ _ h => h) (Or.inl ⟨by kernel_rfl, ?_⟩) ?_
      rotate_left
      · intro w hSw; (try dsimp only at hSw); go_simp; (try with_reducible rfl)
      simp only [Act.put, List.setIfInBounds_toArray, List.set_cons_zero, List.set_cons_succ]
      refine wpD_free (i := 13) (v := ?_) rfl (by kernel_rfl) (fun _ _ _ h => h) (Or.inl ⟨by kernel_rfl, ?_⟩) ?_
      rotate_left
      · intro w hSw; (try dsimp only at hSw); go_simp; (try with_reducible rfl)
      simp only [Act.put, List.setIfInBounds_toArray, List.set_cons_zero, List.set_cons_succ]
      refine wpD_one (i := 14) (by kernel_rfl) rfl (fun K' hK => ?_)
      go_simp
      refine hK.out _ _ (fun h => absurd h (by decide)) (fun _ => ?_)
      clear hK K'
      refine wpD_done (by kernel_rfl) ?_ _
      obtain ⟨hHb, hHx⟩ := hHeld
      have k3 : Kp (fun k => k = b) w2 (w2.setCell ⟨b, 5, none⟩ (.slice (some ⟨g, 0, none⟩) (i + 1) cap2)) := Kp.setCell (S := (· = b)) (p := ⟨b, 5, none⟩) (Kp.refl _ _) (.inl rfl) _
      have hgb := row_ne hown hHb (by decide)
      have hae : ∀ q, (Value.slice lo i lc).ownBlock = some q → (Value.slice eo p.evs.length ec).ownBlock ≠ some q := fun q hq => row_apart M.out.row M.out.evr (by decide) hq
      have hevb := row_ne M.out.evr M.out.blk (by decide)
      have hzs : z < wz.heap.size := BZ.out.lt
      have hlow : ∀ q, (Value.slice lo i lc).ownBlock = some q → q < wr.heap.size := fun q hq => (M.out.row.lt q hq).2
      have hgg : ∀ q, (Value.slice (some ⟨g, 0, none⟩) (i + 1) cap2).ownBlock = some q → (Value.slice lo i lc).ownBlock = some q ∨ q = wz.heap.size := fun q hq => by
        simp [Value.ownBlock] at hq; subst hq; exact hat
      have hsite : RSite (w2.setCell ⟨b, 5, none⟩ (.slice (some ⟨g, 0, none⟩) (i + 1) cap2)) b' (s0of p) (· = b') :=
        (HB3.out.kp k7 (fun q _ hq h => by have hq' : q = b' := hq; have := hlow q h; omega)).kp k3 (fun q _ hq h => by have hq' : q = b' := hq; have h' : q = b := h; omega)
      have hmany : Many RSite (w2.setCell ⟨b, 5, none⟩ (.slice (some ⟨g, 0, none⟩) (i + 1) cap2)) bs (List.replicate i (s0of p)) Fs :=
        ((M.out.many.kp spy_rsite KZ.out (fun _ _ _ _ h => h)).kp spy_rsite k7 (fun j q _ hq h => (M.out.new j q hq).2.2 h)).kp spy_rsite k3 (fun j q _ hq h => (M.out.new j q hq).2.1 h)
      have hsn := hmany.snoc spy_rsite hsite (fun j q h1 h2 => by have h2' : q = b' := h2; have := M.out.many.lt j q h1; omega) (fun j hj q => M.out.none j (by simpa using hj) q)
      rw [show List.replicate i (s0of p) ++ [s0of p] = List.replicate (i + 1) (s0of p) from List.replicate_succ'.symm] at hsn
      have HM1 : RMaking w b p (.slice eo p.evs.length ec) (.slice (some ⟨g, 0, none⟩) (i + 1) cap2) (i + 1) (bs ++ [b']) (fun j k => if j = (List.replicate i (s0of p)).length then (k = b') ∧ k < (w2.setCell ⟨b, 5, none⟩ (.slice (some ⟨g, 0, none⟩) (i + 1) cap2)).heap.size else Fs j k) (w2.setCell ⟨b, 5, none⟩ (.slice (some ⟨g, 0, none⟩) (i + 1) cap2)) := by
        refine ⟨hHb.set 5 _, Blk.kp hHx k3 (fun e => by have e' : w.heap.size = b := e; omega), row_kp (row_kp (row_kp M.out.evr KZ.out (fun _ _ h => h)) k7 (fun q hq h => hae q h hq)) k3 (fun q hq e => hevb (by rw [hq, show q = b from e])), ?_, by simp [M.out.len], hsn, fun j hj q hq => ?_, fun j q hq => ?_, M.out.ev', fun q hq => ?_, ?_⟩
        · rw [show ptrs (bs ++ [b']) = ptrs bs ++ [.pointer (some ⟨b', 0, none⟩)] from by simp [ptrs]]
          exact row_kp hown k3 (fun q hq e => hgb (by rw [hq, show q = b from e]))
        · simp only [List.length_replicate, if_neg (show ¬ j = i by omega)] at hq
          exact M.out.none j (by omega) q hq
        · by_cases e : j = i
          · simp only [List.length_replicate, if_pos e] at hq
            obtain ⟨rfl, _⟩ := hq
            refine ⟨by omega, by omega, fun h => ?_⟩
            · rcases hgg _ h with h | h
              · have := hlow _ h; omega
              · omega
          · simp only [List.length_replicate, if_neg e] at hq
            obtain ⟨n1, n2, n4⟩ := M.out.new j q hq
            have := M.out.many.lt j q hq
            refine ⟨n1, n2, fun h => ?_⟩
            rcases hgg _ h with h | h
            · exact n4 h
            · omega
        · rcases hgg _ hq with h | h
          · exact M.out.lv' q h
          · omega
        · exact ((M.out.kp.trans KZ.out).trans' (k7.mono (S' := fun k => w.heap.size ≤ k) (fun q _ h => M.out.lv' q h)) (fun q hq h => by omega)).trans' (k3.mono (S' := fun k => w.heap.size ≤ k) (fun q _ h => by have h' : q = b := h; omega)) (fun q hq h => by omega)
      have HMM := Lib.hid HM1
      clear HM1 hsn hmany hsite hHb hHx k3 k7 hown hgrow y5 yf
      go_wp2
      go_roundw
      case rel => exact ⟨i + 1, _, _, _, by go_num, by omega, HMM.out⟩
      case measure => simp [intOf]; omega
    · obtain rfl : i = n := by omega
      have hfin : Shop 85 96 35 RSite wr b ⟨p, List.replicate i (s0of p), 0⟩ bs (fun k => w.heap.size ≤ k ∨ (Value.slice eo p.evs.length ec).ownBlock = some k) :=
        ⟨_, _, Fs, hm.blk, hm.evr, by rw [hm.len]; exact hm.row, hm.many, .inl (by omega), fun k hk => .inr hk, fun k hk => .inl (hm.lv' k hk), fun j q hq => .inl (by have := (hm.new j q hq).1; omega), fun j q hq => ⟨(hm.new j q hq).2.1, fun h => by have := (hm.new j q hq).1; have := hm.ev' q h; omega, (hm.new j q hq).2.2⟩⟩
      have HF := Lib.hid hfin; have HK := Lib.hid hm.kp
      clear hm hfin
      go_wp2
      go_returns
      first | exact ⟨b, bs, _, rfl, HF.out, fun _ h => h, HK.out⟩ | exact ⟨b, rfl, bs, _, HF.out, fun _ h => h, HK.out⟩
end Go.Proofs.Ytcdofhfneiednaa
