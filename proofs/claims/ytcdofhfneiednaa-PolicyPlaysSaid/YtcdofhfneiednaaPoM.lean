/- A policy's sites: New. -/
import Derived.Test.YtcdofhfneiednaaPoL
namespace Go.Proofs.Ytcdofhfneiednaa
set_option linter.unusedSimpArgs false
set_option linter.unusedVariables false
open Go.RowKit

theorem row_apart {w : World} {base n size base' n' size' : Nat} {e e' : TypeId} {v v' : Value} {xs xs' : List Value} (h : w.ownsRow base e size v n xs) (h' : w.ownsRow base' e' size' v' n' xs') (ht : e ≠ e') {k : Nat} (hk : v.ownBlock = some k) : v'.ownBlock ≠ some k := by
  rcases h.2 with ⟨rfl, _⟩ | ⟨g, cap, cur, rfl, h0, hh, r⟩
  · cases hk
  · rcases h'.2 with ⟨rfl, _⟩ | ⟨g', cap', cur', rfl, h0', hh', r'⟩
    · simp [Value.ownBlock]
    · intro c
      simp [Value.ownBlock] at c hk
      subst hk; subst c
      rw [hh] at hh'
      simp at hh'
      exact ht hh'.2
def s0of (p : Pol) : SS := SS.new p.ways p.warm
/-- What the loop keeps: so many sites made. -/
structure Making (w : World) (b : Nat) (p : Pol) (ev lv : Value) (i : Nat) (bs : List Nat) (Fs : Nat → Nat → Prop) (wr : World) : Prop where
  blk : Blk wr b 99 (Ss.cells ⟨p, [], 0⟩ ev lv)
  box : Blk wr w.heap.size 58 (p.cells ev)
  evr : ERow 69 wr ev p.evs
  row : wr.ownsRow 0 24 1 lv i (ptrs bs)
  len : bs.length = i
  many : Many Site wr bs (List.replicate i (s0of p)) Fs
  none : ∀ j, i ≤ j → ∀ k, ¬ Fs j k
  new : ∀ j k, Fs j k → w.heap.size < k ∧ k ≠ b ∧ ev.ownBlock ≠ some k ∧ lv.ownBlock ≠ some k
  ev' : ∀ k, ev.ownBlock = some k → w.heap.size ≤ k
  lv' : ∀ k, lv.ownBlock = some k → w.heap.size ≤ k
  kp : Kp (fun _ => False) w wr
set_option maxRecDepth 100000 in
set_option maxHeartbeats 4000000 in
theorem newp_any (p : Pol) (v : Value) (n : Nat) (w : World) (h : ERow 69 w v p.evs) (hl : p.evs.length ≤ 100000) (hn : n ≤ 100) :
    Calls Try.prog 33 #[.agg (p.cells v), .int .i64 n] w fun e w' => ∃ b bs F, e = .returned (.pointer (some ⟨b, 0, none⟩)) ∧ Shop 99 69 24 Site w' b ⟨p, List.replicate n (s0of p), 0⟩ bs F ∧ (∀ k, F k → w.heap.size ≤ k) ∧ Kp (fun _ => False) w w' := by
  obtain ⟨i0, hi, hz0, hz1, hz2⟩ := info_parts info24
  obtain ⟨ao, cap, rfl⟩ := row_form h
  have H := Lib.hid h; clear h
  unfold Pol.cells
  go_enter Try.func33, Try.ntmps33
  go_wp2_with fail
  refine (eclone_any _ p.evs _ (row_kp H.out ((Kp.refl (fun _ => False) _).alloc _) (fun _ _ h => h)) hl).mono ?_
  rintro e wa ⟨v', rfl, hr, hnw, hka⟩
  have hx := Blk.kp (Blk.new (w := w) (t := 58) (cs := #[.int .i64 p.ways, .int .i64 p.warm, .int .i64 p.deep, .int .i64 p.fan, .slice ao p.evs.length cap]) rfl) hka (fun h => h)
  have hk0 : Kp (fun _ => False) w wa := ((Kp.refl _ _).alloc _).trans hka
  have hne := row_ne hr hx (by decide)
  obtain ⟨eo, ec, rfl⟩ := row_form hr
  have x0 := hx.cell 0 (.int .i64 p.ways) rfl
  have x1 := hx.cell 1 (.int .i64 p.warm) rfl
  have x2 := hx.cell 2 (.int .i64 p.deep) rfl
  have x3 := hx.cell 3 (.int .i64 p.fan) rfl
  have x4 := hx.cell 4 (.slice ao p.evs.length cap) rfl
  have xf := hx.free
  have hxl := hx.lt
  have HX := Lib.hid hx; have HR := Lib.hid hr; have HN := Lib.hid hnw; have HK := Lib.hid hk0
  clear hx hr hnw hk0 hka
  go_wp2_with fail
  clear x0 x1 x2 x3 x4 xf
  have ks : Kp (fun k => k = w.heap.size) wa (wa.setCell ⟨w.heap.size, 4, none⟩ (.slice eo p.evs.length ec)) := Kp.setCell (S := (· = w.heap.size)) (p := ⟨w.heap.size, 4, none⟩) (Kp.refl _ _) (.inl rfl) _
  have hxb := Blk.set HX.out 4 (.slice eo p.evs.length ec)
  have hrb := row_kp HR.out ks (fun k hk e => hne (by rw [hk, show k = w.heap.size from e]))
  have hkb : Kp (fun _ => False) w (wa.setCell ⟨w.heap.size, 4, none⟩ (.slice eo p.evs.length ec)) := HK.out.trans' (ks.mono (S' := fun k => w.heap.size ≤ k) (fun k _ e => by have e' : k = w.heap.size := e; omega)) (fun k hk h => by omega)
  have hsz : (wa.setCell ⟨w.heap.size, 4, none⟩ (.slice eo p.evs.length ec)).heap.size = wa.heap.size := by simp [World.setCell]
  have m0 : Making w wa.heap.size p (.slice eo p.evs.length ec) (.slice none 0 0) 0 [] (fun _ _ => False) ((wa.setCell ⟨w.heap.size, 4, none⟩ (.slice eo p.evs.length ec)).alloc (.cells #[.int .i64 p.ways, .int .i64 p.warm, .int .i64 p.deep, .int .i64 p.fan, .slice eo p.evs.length ec, .slice none 0 0, .int .i64 0] 99)) :=
    ⟨Blk.new hsz.symm, hxb.alloc _, row_kp hrb ((Kp.refl (fun _ => False) _).alloc _) (fun _ _ h => h), World.ownsRow_nil _ _ _ _, rfl, ⟨rfl, fun i hi => by simp at hi, fun _ _ _ _ h => h.elim, fun _ _ h => h.elim⟩, fun _ _ _ h => h, fun _ _ h => h.elim, fun k hk => by have := HN.out k hk; have := (World.grownBy_alloc w (.cells #[.int .i64 p.ways, .int .i64 p.warm, .int .i64 p.deep, .int .i64 p.fan, .slice ao p.evs.length cap] 58) none).size; omega, fun k hk => (by cases hk), hkb.alloc _⟩
  have M0 := Lib.hid m0
  have hwb := HK.out.size
  clear ks hxb hrb hkb hsz m0 HX HR HN HK hne
  generalize hb : wa.heap.size = b at *
  go_loopw [16] (fun iv wr => ∃ (i : Nat) (lv : Value) (bs : List Nat) (Fs : Nat → Nat → Prop), iv = .int .i64 i ∧ i ≤ n ∧ Making w b p (.slice eo p.evs.length ec) lv i bs Fs wr) (fun iv _ => n - (intOf iv).toNat)
  case atStart => exact ⟨0, _, _, _, rfl, by omega, M0.out⟩
  case round =>
    clear M0
    obtain ⟨i, lv, bs, Fs, rfl, hi', hm⟩ := hrel
    by_cases hlt : (i : Int) < n
    · obtain ⟨lo, lc, rfl⟩ := row_form hm.row
      have hlc := row_ne hm.row hm.blk (by decide)
      have hlx := row_ne hm.row hm.box (by decide)
      have hbw : b ≠ w.heap.size := fun e => by
        have h1 := hm.blk; have h2 := hm.box
        rw [e] at h1
        unfold Blk at h1 h2
        rw [h1] at h2
        simp at h2
      have M := Lib.hid hm
      have hbl := hm.blk.lt; have hxl2 := hm.box.lt
      have hwr := hm.kp.size
      clear hm
      go_wp2_with fail
      refine wp_region_D (S := fun w' => Blk w' b 99 (Ss.cells ⟨p, [], 0⟩ (.slice eo p.evs.length ec) (.slice lo i lc)) ∧ Blk w' w.heap.size 58 (p.cells (.slice eo p.evs.length ec))) (D := fun i => [4, 6, 8, 9, 10, 11].contains i) (by kernel_rfl) ?_
      have hHeld : (fun w' => Blk w' b 99 (Ss.cells ⟨p, [], 0⟩ (.slice eo p.evs.length ec) (.slice lo i lc)) ∧ Blk w' w.heap.size 58 (p.cells (.slice eo p.evs.length ec))) (World.drew _) := ⟨M.out.blk.drew, M.out.box.drew⟩
      refine wpD_free (i := 0) (v := ?_) rfl (by kernel_rfl) (fun _ _ _ h => h) (Or.inl ⟨by kernel_rfl, ?_⟩) ?_
      rotate_left
      · intro w hSw; (try dsimp only at hSw); go_simp; (try with_reducible rfl)
      simp only [Act.put, List.setIfInBounds_toArray, List.set_cons_zero, List.set_cons_succ]
      refine wpD_free (i := 1) (v := ?_) rfl (by kernel_rfl) (fun _ _ _ h => h) (Or.inl ⟨by kernel_rfl, ?_⟩) ?_
      rotate_left
      · intro w hSw; (try dsimp only at hSw); go_simp; (try with_reducible rfl)
      simp only [Act.put, List.setIfInBounds_toArray, List.set_cons_zero, List.set_cons_succ]
      refine wpD_free (i := 2) (v := ?_) rfl (by kernel_rfl) (fun _ _ _ h => h) (Or.inl ⟨by kernel_rfl, ?_⟩) ?_
      rotate_left
      · intro w hSw; (try dsimp only at hSw); go_simp; (try with_reducible rfl)
      simp only [Act.put, List.setIfInBounds_toArray, List.set_cons_zero, List.set_cons_succ]
      refine wpD_free (i := 3) (v := ?_) rfl (by kernel_rfl) (fun _ _ _ h => h) (Or.inl ⟨by kernel_rfl, ?_⟩) ?_
      rotate_left
      · intro w hSw; (try dsimp only at hSw); go_simp; (try with_reducible rfl)
      simp only [Act.put, List.setIfInBounds_toArray, List.set_cons_zero, List.set_cons_succ]
      refine wpD_free (i := 5) (v := ?_) rfl (by kernel_rfl) (fun _ _ _ h => h) (Or.inl ⟨by kernel_rfl, ?_⟩) ?_
      rotate_left
      · intro w hSw; (try dsimp only at hSw); go_simp; (try with_reducible rfl)
      simp only [Act.put, List.setIfInBounds_toArray, List.set_cons_zero, List.set_cons_succ]
      refine wpD_free (i := 7) (v := ?_) rfl (by kernel_rfl) (fun _ _ _ h => h) (Or.inl ⟨by kernel_rfl, ?_⟩) ?_
      rotate_left
      · intro w hSw; (try dsimp only at hSw); go_simp; (try with_reducible rfl)
      simp only [Act.put, List.setIfInBounds_toArray, List.set_cons_zero, List.set_cons_succ]
      refine wpD_take (i := 4) (v := ?_) rfl (by kernel_rfl) (fun _ _ _ h => h) (Or.inl ⟨by kernel_rfl, ?_⟩) hHeld ?_
      rotate_left
      · intro w hSw; (try dsimp only at hSw); have y5 := Blk.cell hSw.1 5 (.slice lo i lc) rfl; have z0 := Blk.cell hSw.2 0 (.int .i64 p.ways) rfl; have z1 := Blk.cell hSw.2 1 (.int .i64 p.warm) rfl; clear hSw; go_simp; (try with_reducible rfl)
      simp only [Act.put, List.setIfInBounds_toArray, List.set_cons_zero, List.set_cons_succ]
      refine wpD_take (i := 6) (v := ?_) rfl (by kernel_rfl) (fun _ _ _ h => h) (Or.inl ⟨by kernel_rfl, ?_⟩) hHeld ?_
      rotate_left
      · intro w hSw; (try dsimp only at hSw); have y5 := Blk.cell hSw.1 5 (.slice lo i lc) rfl; have z0 := Blk.cell hSw.2 0 (.int .i64 p.ways) rfl; have z1 := Blk.cell hSw.2 1 (.int .i64 p.warm) rfl; clear hSw; go_simp; (try with_reducible rfl)
      simp only [Act.put, List.setIfInBounds_toArray, List.set_cons_zero, List.set_cons_succ]
      refine wpD_take (i := 8) (v := ?_) rfl (by kernel_rfl) (fun _ _ _ h => h) (Or.inl ⟨by kernel_rfl, ?_⟩) hHeld ?_
      rotate_left
      · intro w hSw; (try dsimp only at hSw); have y5 := Blk.cell hSw.1 5 (.slice lo i lc) rfl; have z0 := Blk.cell hSw.2 0 (.int .i64 p.ways) rfl; have z1 := Blk.cell hSw.2 1 (.int .i64 p.warm) rfl; clear hSw; go_simp; (try with_reducible rfl)
      simp only [Act.put, List.setIfInBounds_toArray, List.set_cons_zero, List.set_cons_succ]
      refine wpD_one (i := 9) (by kernel_rfl) rfl (fun K' hK => ?_)
      go_simp
      refine (new_site p.ways p.warm _).mono ?_
      rintro e wn ⟨b', rfl, hb1, hb2, hb3⟩
      have hb1' : wr.heap.size ≤ b' := hb1
      have kn : Kp (fun _ => False) wr wn := ((Kp.refl (fun _ => False) wr).drew).trans (Kp.of_below hb3)
      refine hK.out _ _ (fun _ => ⟨Blk.kp M.out.blk kn (fun h => h), Blk.kp M.out.box kn (fun h => h)⟩) (fun hHeld' => ?_)
      have hHeld := hHeld' (by decide)
      clear hHeld' hK K'
      have HB2 := Lib.hid hb2; have KN := Lib.hid kn
      have hbn := hb2.lt
      clear hb1 hb2 hb3 kn
      refine wpD_one (i := 10) (by kernel_rfl) rfl (fun K' hK => ?_)
      go_simp
      refine hK.out _ _ (fun _ => ⟨hHeld.1.alloc _, hHeld.2.alloc _⟩) (fun hHeld' => ?_)
      have hHeld := hHeld' (by decide)
      clear hHeld' hK K'
      have bz : Blk (wn.alloc (.cells #[.pointer (some ⟨b', 0, none⟩)] 24)) wn.heap.size 24 #[.pointer (some ⟨b', 0, none⟩)] := Blk.new rfl
      have kz : Kp (fun _ => False) wr (wn.alloc (.cells #[.pointer (some ⟨b', 0, none⟩)] 24)) := KN.out.alloc _
      have hb2' := HB2.out.kp ((Kp.refl (fun _ => False) wn).alloc (.cells #[.pointer (some ⟨b', 0, none⟩)] 24)) (fun _ _ _ h => h)
      have hzz : wr.heap.size ≤ wn.heap.size := KN.out.size
      generalize hz : wn.heap.size = z at *
      generalize hwz : wn.alloc (.cells #[.pointer (some ⟨b', 0, none⟩)] 24) = wz at *
      have BZ := Lib.hid bz; have KZ := Lib.hid kz; have HB3 := Lib.hid hb2'
      clear bz kz hb2' hwz HB2 KN
      refine wpD_one (i := 11) (by kernel_rfl) rfl (fun K' hK => ?_)
      refine step_append_lies _ (by rfl) _ _ _ (by rfl) 0 24 i0 (.pointer none) 1 8 Try.underlying75 hi hz0 hz1 hz2 rfl (by omega) (.slice lo i lc) i (ptrs bs) (by rfl) (row_kp M.out.row KZ.out (fun _ _ h => h)) ⟨z, 0, none⟩ 1 1 [.pointer (some ⟨b', 0, none⟩)] (by rfl) (by rfl) (World.news_of_block (cs := #[.pointer (some ⟨b', 0, none⟩)]) (t := 24) (fr := (0, 0)) BZ.out) (by simp [Value.oneCell']) (by omega) (by unfold maxLen; omega) (by omega) (by omega) _ rfl ?_
      intro g cap2 w2 hown hgrow hat hlt2
      have k7 : Kp (fun k => (Value.slice lo i lc).ownBlock = some k) wz w2 := (Kp.refl _ _).grown hgrow (fun k e => .inl e)
      refine hK.out _ _ (fun _ => ⟨Blk.kp hHeld.1 k7 hlc, Blk.kp hHeld.2 k7 hlx⟩) (fun hHeld' => ?_)
      have hHeld := hHeld' (by decide)
      clear hHeld' hK K'
      have y5 := hHeld.1.cell 5 (.slice lo i lc) rfl
      have yf := hHeld.1.free
      have hlb2 := hHeld.1.lt
      refine wpD_free (i := 12) (v := ?_) rfl (by kernel_rfl) (fun _ _ _ h => h) (Or.inl ⟨by kernel_rfl, ?_⟩) ?_
      rotate_left
      · intro w hSw; (try dsimp only at hSw); go_simp; (try with_reducible rfl)
      simp only [Act.put, List.setIfInBounds_toArray, List.set_cons_zero, List.set_cons_succ]
      refine wpD_free (i := 13) (v := ?_) rfl (by kernel_rfl) (fun _ _ _ h => h) (Or.inl ⟨by kernel_rfl, ?_⟩) ?_
      rotate_left
      · intro w hSw; (try dsimp only at hSw); go_simp; (try with_reducible rfl)
      simp only [Act.put, List.setIfInBounds_toArray, List.set_cons_zero, List.set_cons_succ]
      refine wpD_one (i := 14) (by kernel_rfl) rfl (fun K' hK => ?_)
      go_simp
      refine hK.out _ _ (fun h => absurd h (by decide)) (fun _ => ?_)
      clear hK K'
      refine wpD_done (by kernel_rfl) ?_ _
      obtain ⟨hHb, hHx⟩ := hHeld
      have k3 : Kp (fun k => k = b) w2 (w2.setCell ⟨b, 5, none⟩ (.slice (some ⟨g, 0, none⟩) (i + 1) cap2)) := Kp.setCell (S := (· = b)) (p := ⟨b, 5, none⟩) (Kp.refl _ _) (.inl rfl) _
      have hgb := row_ne hown hHb (by decide)
      have hae : ∀ q, (Value.slice lo i lc).ownBlock = some q → (Value.slice eo p.evs.length ec).ownBlock ≠ some q := fun q hq => row_apart M.out.row M.out.evr (by decide) hq
      have hevb := row_ne M.out.evr M.out.blk (by decide)
      have hzs : z < wz.heap.size := BZ.out.lt
      have hlow : ∀ q, (Value.slice lo i lc).ownBlock = some q → q < wr.heap.size := fun q hq => (M.out.row.lt q hq).2
      have hlowe : ∀ q, (Value.slice eo p.evs.length ec).ownBlock = some q → q < wr.heap.size := fun q hq => (M.out.evr.lt q hq).2
      have hgg : ∀ q, (Value.slice (some ⟨g, 0, none⟩) (i + 1) cap2).ownBlock = some q → (Value.slice lo i lc).ownBlock = some q ∨ q = wz.heap.size := fun q hq => by
        simp [Value.ownBlock] at hq; subst hq; exact hat
      have hsite : Site (w2.setCell ⟨b, 5, none⟩ (.slice (some ⟨g, 0, none⟩) (i + 1) cap2)) b' (s0of p) (· = b') :=
        (HB3.out.kp k7 (fun q _ hq h => by have hq' : q = b' := hq; have := hlow q h; omega)).kp k3 (fun q _ hq h => by have hq' : q = b' := hq; have h' : q = b := h; omega)
      have hmany : Many Site (w2.setCell ⟨b, 5, none⟩ (.slice (some ⟨g, 0, none⟩) (i + 1) cap2)) bs (List.replicate i (s0of p)) Fs :=
        ((M.out.many.kp spy_site KZ.out (fun _ _ _ _ h => h)).kp spy_site k7 (fun j q _ hq h => (M.out.new j q hq).2.2.2 h)).kp spy_site k3 (fun j q _ hq h => (M.out.new j q hq).2.1 h)
      have hsn := hmany.snoc spy_site hsite (fun j q h1 h2 => by have h2' : q = b' := h2; have := M.out.many.lt j q h1; omega) (fun j hj q => M.out.none j (by simpa using hj) q)
      rw [show List.replicate i (s0of p) ++ [s0of p] = List.replicate (i + 1) (s0of p) from List.replicate_succ'.symm] at hsn
      have HM1 : Making w b p (.slice eo p.evs.length ec) (.slice (some ⟨g, 0, none⟩) (i + 1) cap2) (i + 1) (bs ++ [b']) (fun j k => if j = (List.replicate i (s0of p)).length then (k = b') ∧ k < (w2.setCell ⟨b, 5, none⟩ (.slice (some ⟨g, 0, none⟩) (i + 1) cap2)).heap.size else Fs j k) (w2.setCell ⟨b, 5, none⟩ (.slice (some ⟨g, 0, none⟩) (i + 1) cap2)) := by
        refine ⟨hHb.set 5 _, Blk.kp hHx k3 (fun e => hbw (show w.heap.size = b from e).symm), row_kp (row_kp (row_kp M.out.evr KZ.out (fun _ _ h => h)) k7 (fun q hq h => hae q h hq)) k3 (fun q hq e => hevb (by rw [hq, show q = b from e])), ?_, by simp [M.out.len], hsn, fun j hj q hq => ?_, fun j q hq => ?_, M.out.ev', fun q hq => ?_, ?_⟩
        · rw [show ptrs (bs ++ [b']) = ptrs bs ++ [.pointer (some ⟨b', 0, none⟩)] from by simp [ptrs]]
          exact row_kp hown k3 (fun q hq e => hgb (by rw [hq, show q = b from e]))
        · simp only [List.length_replicate, if_neg (show ¬ j = i by omega)] at hq
          exact M.out.none j (by omega) q hq
        · by_cases e : j = i
          · simp only [List.length_replicate, if_pos e] at hq
            obtain ⟨rfl, _⟩ := hq
            refine ⟨by omega, by omega, fun h => ?_, fun h => ?_⟩
            · have := hlowe _ h; omega
            · rcases hgg _ h with h | h
              · have := hlow _ h; omega
              · omega
          · simp only [List.length_replicate, if_neg e] at hq
            obtain ⟨n1, n2, n3, n4⟩ := M.out.new j q hq
            have := M.out.many.lt j q hq
            refine ⟨n1, n2, n3, fun h => ?_⟩
            rcases hgg _ h with h | h
            · exact n4 h
            · omega
        · rcases hgg _ hq with h | h
          · exact M.out.lv' q h
          · omega
        · exact ((M.out.kp.trans KZ.out).trans' (k7.mono (S' := fun k => w.heap.size ≤ k) (fun q _ h => M.out.lv' q h)) (fun q hq h => by omega)).trans' (k3.mono (S' := fun k => w.heap.size ≤ k) (fun q _ h => by have h' : q = b := h; omega)) (fun q hq h => by omega)
      have HMM := Lib.hid HM1
      clear HM1 hsn hmany hsite hHb hHx k3 k7 hown hgrow y5 yf
      go_wp2
      go_roundw
      case rel => exact ⟨i + 1, _, _, _, by go_num, by omega, HMM.out⟩
      case measure => simp [intOf]; omega
    · obtain rfl : i = n := by omega
      have hfin : Shop 99 69 24 Site wr b ⟨p, List.replicate i (s0of p), 0⟩ bs (fun k => w.heap.size ≤ k) :=
        ⟨_, _, Fs, hm.blk, hm.evr, by rw [hm.len]; exact hm.row, hm.many, hwb, hm.ev', hm.lv', fun j q hq => by have := (hm.new j q hq).1; omega, fun j q hq => ⟨(hm.new j q hq).2.1, (hm.new j q hq).2.2.1, (hm.new j q hq).2.2.2⟩⟩
      have HF := Lib.hid hfin; have HK := Lib.hid hm.kp
      clear hm hfin
      go_wp2
      go_returns
      first | exact ⟨b, bs, _, rfl, HF.out, fun _ h => h, HK.out⟩ | exact ⟨b, rfl, bs, _, HF.out, fun _ h => h, HK.out⟩ | (refine ⟨b, rfl, bs, ?_⟩; trace_state; sorry)
end Go.Proofs.Ytcdofhfneiednaa
