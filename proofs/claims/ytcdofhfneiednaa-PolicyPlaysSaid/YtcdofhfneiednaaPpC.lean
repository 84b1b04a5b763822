/- The document's sites of a policy: At. -/
import Derived.Test.YtcdofhfneiednaaPpB
namespace Go.Proofs.Ytcdofhfneiednaa
set_option linter.unusedSimpArgs false
set_option linter.unusedVariables false
open Go.RowKit

/-- Sites whose rows lie where they lay. -/
def ShAt (t te tp : TypeId) (Sp : World → Nat → SS → (Nat → Prop) → Prop) (w : World) (b : Nat) (S : Ss) (bs : List Nat) (F : Nat → Prop) (ev lv : Value) : Prop := ∃ Fs, ShopAt t te tp Sp w b S bs F ev lv Fs
def AtThen (t te tp : TypeId) (Sp : World → Nat → SS → (Nat → Prop) → Prop) (b : Nat) (S' : Ss) (bs : List Nat) (ev lv : Value) (F : Nat → Prop) (w w' : World) : Prop := ∃ F', ShAt t te tp Sp w' b S' bs F' ev lv ∧ Kp F w w' ∧ ∀ k, F' k → F k ∨ w.heap.size ≤ k
section
variable {t te tp : TypeId} {Sp : World → Nat → SS → (Nat → Prop) → Prop} {w w' : World} {b : Nat} {S : Ss} {bs : List Nat} {F : Nat → Prop} {ev lv : Value}
theorem ShAt.kp {D : Nat → Prop} (Y : Spy Sp) (h : ShAt t te tp Sp w b S bs F ev lv) (k : Kp D w w') (hn : ∀ k, k < w.heap.size → F k → ¬ D k) : ShAt t te tp Sp w' b S bs F ev lv := by
  obtain ⟨Fs, h⟩ := h
  exact ⟨Fs, Blk.kp h.blk k (hn b h.blk.lt h.fb), row_kp h.evr k (fun g hg => hn g (h.evr.lt g hg).2 (h.fe g hg)), row_kp h.row k (fun g hg => hn g (h.row.lt g hg).2 (h.fl g hg)), h.many.kp Y k (fun i q hq hf => hn q hq (h.fs i q hf)), h.fb, h.fe, h.fl, h.fs, h.ap⟩
theorem ShAt.old (h : ShAt t te tp Sp w b S bs F ev lv) : ShAt t te tp Sp w b S bs (fun k => F k ∧ k < w.heap.size) ev lv := by
  obtain ⟨Fs, h⟩ := h
  exact ⟨Fs, h.blk, h.evr, h.row, h.many, ⟨h.fb, h.blk.lt⟩, fun k hk => ⟨h.fe k hk, (h.evr.lt k hk).2⟩, fun k hk => ⟨h.fl k hk, (h.row.lt k hk).2⟩, fun i k hk => ⟨h.fs i k hk, h.many.lt i k hk⟩, h.ap⟩
theorem ShAt.shop (h : ShAt t te tp Sp w b S bs F ev lv) : Shop t te tp Sp w b S bs F := by obtain ⟨Fs, h⟩ := h; exact ⟨_, _, Fs, h⟩
theorem ShAt.calls {P : Program} {fn : FuncId} {args : Array Value} {r : Value} (Y : Spy Sp) {i : Nat} (h : ShAt t te tp Sp w b S bs F ev lv) (hi : i < S.l.length) {s' : SS} {bp : Nat} (hbp : bs.getD i 0 = bp)
    (hc : ∀ Fi, Sp w bp S.l[i] Fi → Calls P fn args w fun e w' => e = .returned r ∧ SThen Sp bp s' Fi w w') :
    Calls P fn args w fun e w' => e = .returned r ∧ AtThen t te tp Sp b { S with l := S.l.set i s' } bs ev lv F w w' := by
  subst hbp
  obtain ⟨Fs, h⟩ := h
  refine (hc (Fs i) (h.many.at' i hi)).mono fun e w' ⟨he, ht⟩ => ⟨he, ?_⟩
  obtain ⟨Gs, m1, m2, m3⟩ := h.many.step Y hi ht
  have hap : ∀ k, Fs i k → k ≠ b ∧ ev.ownBlock ≠ some k ∧ lv.ownBlock ≠ some k := h.ap i
  refine ⟨fun k => F k ∨ w.heap.size ≤ k, ⟨Gs, Blk.kp h.blk m3 (fun e => (hap b e).1 rfl), row_kp h.evr m3 (fun q hq e => (hap q e).2.1 hq), row_kp h.row m3 (fun q hq e => (hap q e).2.2 hq), m1, .inl h.fb, fun q hq => .inl (h.fe q hq), fun q hq => .inl (h.fl q hq), fun j q hq => ?_, fun j q hq => ?_⟩, m3.mono (fun q _ hq => h.fs i q hq), fun _ h => h⟩
  · exact (m2 j q hq).imp (h.fs j q) (fun h => h.1)
  · rcases m2 j q hq with h' | h'
    · exact h.ap j q h'
    · have hb := h.blk.lt
      refine ⟨by omega, fun e => ?_, fun e => ?_⟩
      · have := (h.evr.lt q e).2; omega
      · have := (h.row.lt q e).2; omega
end
theorem forceN_other (l : List SS) {v : Ev} (h1 : v.kind ≠ 1) (h2 : v.kind ≠ 2) (h3 : v.kind ≠ 3) (n : Nat) : forceN l v n = l := by
  have : ∀ s, app1 s v = s := fun s => by unfold app1; rw [if_neg h1, if_neg h2, if_neg h3]
  unfold forceN
  apply List.ext_getElem
  · simp
  · intro j h1 h2
    rw [List.getElem_mapIdx, this]
    split <;> rfl
theorem force_calls {P : Program} {fn : FuncId} {args : Array Value} {r : Value} {w : World} {b : Nat} {p : Pol} {m : Int} {l : List SS} {v : Ev} {j : Nat} {bs : List Nat} {F : Nat → Prop} {ev lv : Value} {bp : Nat}
    (h : ShAt 85 96 35 RSite w b ⟨p, forceN l v j, m⟩ bs F ev lv) (hj : j < l.length) (hh : hitsE v j = true) (hbp : bs.getD j 0 = bp)
    (hc : ∀ Fi, RSite w bp l[j] Fi → Calls P fn args w fun e w' => e = .returned r ∧ RThen bp (app1 l[j] v) Fi w w') :
    Calls P fn args w fun e w' => e = .returned r ∧ AtThen 85 96 35 RSite b ⟨p, forceN l v (j + 1), m⟩ bs ev lv F w w' := by
  have hj' : j < (forceN l v j).length := by rw [forceN_len]; exact hj
  rw [forceN_hit l v j hj hh]
  refine ShAt.calls spy_rsite h hj' hbp (s' := app1 l[j] v) fun Fi hF => ?_
  dsimp only at hF
  rw [forceN_at l v j j hj (Nat.le_refl _)] at hF
  exact hc Fi hF

set_option maxRecDepth 100000 in
set_option maxHeartbeats 4000000 in
theorem rat_shop (b : Nat) (S : Ss) (bs : List Nat) (F : Nat → Prop) (id : Int) (w : World) (h : Shop 85 96 35 RSite w b S bs F) (hl : S.l.length ≤ 100000) (he : S.p.evs.length ≤ 100000) (hn : 0 ≤ S.n ∧ S.n ≤ 1000000) :
    Calls Try.prog 37 #[.pointer (some ⟨b, 0, none⟩), .int .i64 id] w fun e w' => e = .returned (atPtr bs id S.l.length) ∧ ShopThen 85 96 35 RSite b (S.at' id) bs F w w' := by
  have hbl := h.len
  cases hin : inR id S.l.length with
  | false =>
    have hA : S.at' id = S ∧ atPtr bs id S.l.length = .pointer none := by unfold Ss.at' atPtr; rw [hin]; exact ⟨rfl, rfl⟩
    rw [hA.1, hA.2]
    have hout : id < 0 ∨ (bs.length : Int) ≤ id := by
      unfold inR at hin
      simp at hin
      omega
    have hfin : ShopThen 85 96 35 RSite b S bs F w w := ⟨F, h, Kp.refl _ _, fun _ h => .inl h⟩
    obtain ⟨ev, lv, Fs, h⟩ := h
    obtain ⟨ao, ac, rfl⟩ := row_form h.row
    have hb := h.blk.lt
    have c5 := h.blk.cell 5 (.slice ao bs.length ac) rfl
    have HF := Lib.hid hfin
    clear h hfin hA hin
    by_cases h0 : id < 0
    · go_enter Try.func37, Try.ntmps37
      go_wp2
      go_returns
      exact ⟨rfl, HF.out⟩
    · have h1 : (bs.length : Int) ≤ id := by omega
      go_enter Try.func37, Try.ntmps37
      go_wp2
      go_returns
      exact ⟨rfl, HF.out⟩
  | true =>
    have hA : S.at' id = { S with n := S.n + 1, l := (due S.p.evs (S.n + 1)).foldl force S.l } ∧ atPtr bs id S.l.length = .pointer (some ⟨bs.getD id.toNat 0, 0, none⟩) := by unfold Ss.at' atPtr; rw [hin]; exact ⟨rfl, rfl⟩
    rw [hA.1, hA.2]
    have hr : 0 ≤ id ∧ id < bs.length := by unfold inR at hin; simp at hin; omega
    obtain ⟨z, rfl⟩ : ∃ z : Nat, id = z := ⟨id.toNat, by omega⟩
    rw [Int.toNat_natCast]
    generalize hbz : bs.getD z 0 = bz
    have HBZ := Lib.hid hbz; clear hbz
    obtain ⟨ev, lv, Fs, h⟩ := h
    obtain ⟨g0, ac, rfl⟩ := row_some h.row (by omega)
    obtain ⟨eo, ec, rfl⟩ := row_form h.evr
    have hb := h.blk.lt
    have c5 := h.blk.cell 5 (.slice (some ⟨g0, 0, none⟩) bs.length ac) rfl
    have c6 := h.blk.cell 6 (.int .i64 S.n) rfl
    have cf := h.blk.free
    -- behind the count
    have k1 : Kp (· = b) w (w.setCell ⟨b, 6, none⟩ (.int .i64 (S.n + 1))) := Kp.setCell (S := (· = b)) (p := ⟨b, 6, none⟩) (Kp.refl _ _) (.inl rfl) _
    have hlb := row_ne h.row h.blk (by decide)
    have heb := row_ne h.evr h.blk (by decide)
    have h1 : ShopAt 85 96 35 RSite (w.setCell ⟨b, 6, none⟩ (.int .i64 (S.n + 1))) b { S with n := S.n + 1 } bs F (.slice eo S.p.evs.length ec) (.slice (some ⟨g0, 0, none⟩) bs.length ac) Fs :=
      ⟨h.blk.set 6 _, row_kp h.evr k1 (fun q hq e => heb (by rw [hq, show q = b from e])), row_kp h.row k1 (fun q hq e => hlb (by rw [hq, show q = b from e])), h.many.kp spy_rsite k1 (fun i q _ hq e => (h.ap i q hq).1 e), h.fb, h.fe, h.fl, h.fs, h.ap⟩
    have H1 := Lib.hid h1
    have K1 := Lib.hid (k1.mono (S' := F) (fun q _ e => by have e' : q = b := e; rw [e']; exact h.fb))
    clear h h1 k1 hA hin hlb heb
    go_enter Try.func37, Try.ntmps37
    go_wp2_with fail
    clear c5 c6 cf
    have HD := Lib.hid H1.out.blk.drew
    have hev0 := Lib.hid (row_kp H1.out.evr (((Kp.refl (fun _ => False) _).drew)) (fun _ _ h => h))
    have hsw : (w.setCell ⟨b, 6, none⟩ (.int .i64 (S.n + 1))).heap.size = w.heap.size := by simp [World.setCell]
    generalize hw1 : w.setCell ⟨b, 6, none⟩ (.int .i64 (S.n + 1)) = w1 at *
    have SW := Lib.hid hsw
    clear hw1 hsw
    refine wp_region_D (S := fun w' => Blk w' b 85 (Ss.cells { S with n := S.n + 1 } (.slice eo S.p.evs.length ec) (.slice (some ⟨g0, 0, none⟩) bs.length ac))) (D := fun i => [3, 7, 8, 9, 10].contains i) (by kernel_rfl) ?_
    have hHeld : (fun w' => Blk w' b 85 (Ss.cells { S with n := S.n + 1 } (.slice eo S.p.evs.length ec) (.slice (some ⟨g0, 0, none⟩) bs.length ac))) (World.drew _) := HD.out
    refine wpD_free (i := 0) (v := ?_) rfl (by kernel_rfl) (fun _ _ _ h => h) (Or.inl ⟨by kernel_rfl, ?_⟩) ?_
    rotate_left
    · intro w hSw; (try dsimp only at hSw); go_simp; (try with_reducible rfl)
    simp only [Act.put, List.setIfInBounds_toArray, List.set_cons_zero, List.set_cons_succ]
    refine wpD_free (i := 1) (v := ?_) rfl (by kernel_rfl) (fun _ _ _ h => h) (Or.inl ⟨by kernel_rfl, ?_⟩) ?_
    rotate_left
    · intro w hSw; (try dsimp only at hSw); go_simp; (try with_reducible rfl)
    simp only [Act.put, List.setIfInBounds_toArray, List.set_cons_zero, List.set_cons_succ]
    refine wpD_free (i := 2) (v := ?_) rfl (by kernel_rfl) (fun _ _ _ h => h) (Or.inl ⟨by kernel_rfl, ?_⟩) ?_
    rotate_left
    · intro w hSw; (try dsimp only at hSw); go_simp; (try with_reducible rfl)
    simp only [Act.put, List.setIfInBounds_toArray, List.set_cons_zero, List.set_cons_succ]
    refine wpD_free (i := 4) (v := ?_) rfl (by kernel_rfl) (fun _ _ _ h => h) (Or.inl ⟨by kernel_rfl, ?_⟩) ?_
    rotate_left
    · intro w hSw; (try dsimp only at hSw); go_simp; (try with_reducible rfl)
    simp only [Act.put, List.setIfInBounds_toArray, List.set_cons_zero, List.set_cons_succ]
    refine wpD_free (i := 5) (v := ?_) rfl (by kernel_rfl) (fun _ _ _ h => h) (Or.inl ⟨by kernel_rfl, ?_⟩) ?_
    rotate_left
    · intro w hSw; (try dsimp only at hSw); go_simp; (try with_reducible rfl)
    simp only [Act.put, List.setIfInBounds_toArray, List.set_cons_zero, List.set_cons_succ]
    refine wpD_free (i := 6) (v := ?_) rfl (by kernel_rfl) (fun _ _ _ h => h) (Or.inl ⟨by kernel_rfl, ?_⟩) ?_
    rotate_left
    · intro w hSw; (try dsimp only at hSw); go_simp; (try with_reducible rfl)
    simp only [Act.put, List.setIfInBounds_toArray, List.set_cons_zero, List.set_cons_succ]
    refine wpD_take (i := 3) (v := ?_) rfl (by kernel_rfl) (fun _ _ _ h => h) (Or.inl ⟨by kernel_rfl, ?_⟩) hHeld ?_
    rotate_left
    · intro w hSw; (try dsimp only at hSw); have y0 := Blk.cell hSw 0 (.int .i64 S.p.ways) rfl; have y1 := Blk.cell hSw 1 (.int .i64 S.p.warm) rfl; have y2 := Blk.cell hSw 2 (.int .i64 S.p.deep) rfl; have y3 := Blk.cell hSw 3 (.int .i64 S.p.fan) rfl; have y4 := Blk.cell hSw 4 (.slice eo S.p.evs.length ec) rfl; have y6 := Blk.cell hSw 6 (.int .i64 (S.n + 1)) rfl; clear hSw; go_simp; (try with_reducible rfl)
    simp only [Act.put, List.setIfInBounds_toArray, List.set_cons_zero, List.set_cons_succ]
    refine wpD_take (i := 7) (v := ?_) rfl (by kernel_rfl) (fun _ _ _ h => h) (Or.inl ⟨by kernel_rfl, ?_⟩) hHeld ?_
    rotate_left
    · intro w hSw; (try dsimp only at hSw); have y0 := Blk.cell hSw 0 (.int .i64 S.p.ways) rfl; have y1 := Blk.cell hSw 1 (.int .i64 S.p.warm) rfl; have y2 := Blk.cell hSw 2 (.int .i64 S.p.deep) rfl; have y3 := Blk.cell hSw 3 (.int .i64 S.p.fan) rfl; have y4 := Blk.cell hSw 4 (.slice eo S.p.evs.length ec) rfl; have y6 := Blk.cell hSw 6 (.int .i64 (S.n + 1)) rfl; clear hSw; go_simp; (try with_reducible rfl)
    simp only [Act.put, List.setIfInBounds_toArray, List.set_cons_zero, List.set_cons_succ]
    refine wpD_take (i := 10) (v := ?_) rfl (by kernel_rfl) (fun _ _ _ h => h) (Or.inl ⟨by kernel_rfl, ?_⟩) hHeld ?_
    rotate_left
    · intro w hSw; (try dsimp only at hSw); have y0 := Blk.cell hSw 0 (.int .i64 S.p.ways) rfl; have y1 := Blk.cell hSw 1 (.int .i64 S.p.warm) rfl; have y2 := Blk.cell hSw 2 (.int .i64 S.p.deep) rfl; have y3 := Blk.cell hSw 3 (.int .i64 S.p.fan) rfl; have y4 := Blk.cell hSw 4 (.slice eo S.p.evs.length ec) rfl; have y6 := Blk.cell hSw 6 (.int .i64 (S.n + 1)) rfl; clear hSw; go_simp; (try with_reducible rfl)
    simp only [Act.put, List.setIfInBounds_toArray, List.set_cons_zero, List.set_cons_succ]
    refine wpD_one (i := 8) (by kernel_rfl) rfl (fun K' hK => ?_)
    go_simp
    refine (rdue_any S.p (.slice eo S.p.evs.length ec) (S.n + 1) _ hev0.out he).mono ?_
    rintro _ wd ⟨v', rfl, hrow, hnew, hkd⟩
    obtain ⟨do', dc, rfl⟩ := row_form hrow
    refine hK.out _ _ (fun _ => Blk.kp hHeld hkd (fun h => h)) (fun hHeld' => ?_)
    have hHeld := hHeld' (by decide)
    clear hHeld' hK K'
    refine wpD_take (i := 9) (v := ?_) rfl (by kernel_rfl) (fun _ _ _ h => h) (Or.inl ⟨by kernel_rfl, ?_⟩) hHeld ?_
    rotate_left
    · intro w hSw; (try dsimp only at hSw); have y0 := Blk.cell hSw 0 (.int .i64 S.p.ways) rfl; have y1 := Blk.cell hSw 1 (.int .i64 S.p.warm) rfl; have y2 := Blk.cell hSw 2 (.int .i64 S.p.deep) rfl; have y3 := Blk.cell hSw 3 (.int .i64 S.p.fan) rfl; have y4 := Blk.cell hSw 4 (.slice eo S.p.evs.length ec) rfl; have y6 := Blk.cell hSw 6 (.int .i64 (S.n + 1)) rfl; clear hSw; go_simp; (try with_reducible rfl)
    simp only [Act.put, List.setIfInBounds_toArray, List.set_cons_zero, List.set_cons_succ]
    refine wpD_done (by kernel_rfl) ?_ _
    clear hHeld
    have hsz1 : w1.heap.size ≤ wd.heap.size := hkd.size
    have hkd1 : Kp (fun _ => False) w1 wd := ((Kp.refl (fun _ => False) w1).drew).trans hkd
    have hs0 : ShAt 85 96 35 RSite wd b { S with n := S.n + 1, l := ((due S.p.evs (S.n + 1)).take 0).foldl force S.l } bs (fun k => F k ∧ k < w1.heap.size) (.slice eo S.p.evs.length ec) (.slice (some ⟨g0, 0, none⟩) bs.length ac) := (ShAt.old ⟨_, H1.out⟩).kp spy_rsite hkd1 (fun _ _ _ h => h)
    have hel : (due S.p.evs (S.n + 1)).length ≤ 100000 := Nat.le_trans (List.length_filter_le _ _) he
    have hrow' : ERow 96 wd (.slice do' (due S.p.evs (S.n + 1)).length dc) (due S.p.evs (S.n + 1)) := hrow
    have hnew' : ∀ k, (Value.slice do' (due S.p.evs (S.n + 1)).length dc).ownBlock = some k → w1.heap.size ≤ k := hnew
    have hlz : (S.p.evs.filter (fun e => e.at' == S.n + 1)).length = (due S.p.evs (S.n + 1)).length := rfl
    rw [hlz]
    generalize hes : due S.p.evs (S.n + 1) = es at *
    have HS0 := Lib.hid hs0; have HRW := Lib.hid hrow'; have HNW := Lib.hid hnew'; have HKD := Lib.hid hkd1; have HES := Lib.hid hes
    clear hs0 hrow hrow' hnew hnew' hkd hkd1 hlz hes hev0 HD
    go_wp2_with fail
    go_loopw [37] (fun iv wr => ∃ (i : Nat) (G : Nat → Prop), iv = .int .i64 i ∧ i ≤ es.length ∧ ShAt 85 96 35 RSite wr b ⟨S.p, (es.take i).foldl force S.l, S.n + 1⟩ bs G (.slice eo S.p.evs.length ec) (.slice (some ⟨g0, 0, none⟩) bs.length ac) ∧ (∀ k, G k → (F k ∧ k < w1.heap.size) ∨ w1.heap.size ≤ k) ∧ (∀ k, (Value.slice do' es.length dc).ownBlock = some k → ¬ G k) ∧ ERow 96 wr (.slice do' es.length dc) es ∧ Kp F w1 wr) (fun iv _ => es.length - (intOf iv).toNat)
    case atStart => exact ⟨0, _, rfl, by omega, HS0.out, fun k h => .inl h, fun k hk h => by have := HNW.out k hk; omega, HRW.out, HKD.out.mono (fun _ _ h => h.elim)⟩
    case round =>
      clear HS0 HRW HKD
      obtain ⟨i, G, rfl, hi, hS', hG, hne, hrw, kx⟩ := hrel
      have hw1s := kx.size
      by_cases hlt : (i : Int) < es.length
      · have hil : i < es.length := by omega
        obtain ⟨g, cap', hga⟩ := row_some hrw (by omega)
        simp only [Value.slice.injEq] at hga
        obtain ⟨rfl, _, rfl⟩ := hga
        have hg := (hrw.lt g rfl).2
        obtain ⟨d0, d1, d2, d3⟩ := ERow.cell hrw i hil
        have hts : es.take (i + 1) = es.take i ++ [es[i]] := List.take_succ_eq_append_getElem hil
        have HT := Lib.hid hts
        have hLl : ((es.take i).foldl force S.l).length = bs.length := by rw [fold_len]; omega
        have hbx : Blk wr b 85 (Ss.cells ⟨S.p, (es.take i).foldl force S.l, S.n + 1⟩ (.slice eo S.p.evs.length ec) (.slice (some ⟨g0, 0, none⟩) bs.length ac)) := hS'.choose_spec.blk
        have y5 := Blk.cell hbx 5 (.slice (some ⟨g0, 0, none⟩) bs.length ac) rfl
        have hbw := hbx.lt
        generalize hL : (es.take i).foldl force S.l = L at *
        have HLL := Lib.hid hL
        obtain ⟨wo, hwo⟩ : ∃ wo, wo = wr := ⟨_, rfl⟩
        subst hwo
        have HS1 := Lib.hid hS'; have HGG := Lib.hid hG; have HNE := Lib.hid hne; have HR := Lib.hid hrw; have KX := Lib.hid kx
        clear hts hS' hG hne hrw kx hbx hL
        generalize es[i] = evv at *
        obtain ⟨a, k, s, y⟩ := evv
        dsimp only at d0 d1 d2 d3
        have k9 : Kp (fun _ => False) wo (wo.alloc (.cells #[.int .i64 a, .int .i64 k, .int .i64 s, .int .i64 y] 96)) := (Kp.refl _ _).alloc _
        have i1 : ShAt 85 96 35 RSite (wo.alloc (.cells #[.int .i64 a, .int .i64 k, .int .i64 s, .int .i64 y] 96)) b ⟨S.p, forceN L ⟨a, k, s, y⟩ 0, S.n + 1⟩ bs (fun q => G q ∧ q < wo.heap.size) (.slice eo S.p.evs.length ec) (.slice (some ⟨g0, 0, none⟩) bs.length ac) := by
          rw [forceN_zero]; exact HS1.out.old.kp spy_rsite k9 (fun _ _ _ h => h)
        have i2 : Blk (wo.alloc (.cells #[.int .i64 a, .int .i64 k, .int .i64 s, .int .i64 y] 96)) wo.heap.size 96 #[.int .i64 a, .int .i64 k, .int .i64 s, .int .i64 y] := Blk.new rfl
        have I1 := Lib.hid i1; have I2 := Lib.hid i2; have K9 := Lib.hid (k9.mono (S' := G) (fun _ _ h => h.elim))
        clear i1 i2 k9
        go_wp2_with fail
        clear y5 d0 d1 d2 d3
        go_loopw [46] (fun iv wr => ∃ (j : Nat) (G2 : Nat → Prop), iv = .int .i64 j ∧ j ≤ L.length ∧ ShAt 85 96 35 RSite wr b ⟨S.p, forceN L ⟨a, k, s, y⟩ j, S.n + 1⟩ bs G2 (.slice eo S.p.evs.length ec) (.slice (some ⟨g0, 0, none⟩) bs.length ac) ∧ (∀ q, G2 q → (G q ∧ q < wo.heap.size) ∨ wo.heap.size < q) ∧ Blk wr wo.heap.size 96 #[.int .i64 a, .int .i64 k, .int .i64 s, .int .i64 y] ∧ Kp G wo wr) (fun iv _ => L.length - (intOf iv).toNat)
        case atStart => exact ⟨0, _, rfl, by omega, I1.out, fun q h => .inl h, I2.out, K9.out⟩
        case round =>
          clear I1 I2 K9
          obtain ⟨j, G2, rfl, hj, hX, hG2, hbx, ky⟩ := hrel
          by_cases hlt2 : (j : Int) < bs.length
          · have hjl : j < L.length := by omega
            have hA := hX.choose_spec
            have hg0 := (hA.row.lt g0 rfl).2
            have d0 := (World.ownsRow.cellAt hA.row j (by omega)).trans (ptrs_at bs j (by omega))
            have z1 := Blk.cell hbx 1 (.int .i64 k) rfl
            have z2 := Blk.cell hbx 2 (.int .i64 s) rfl
            have z3 := Blk.cell hbx 3 (.int .i64 y) rfl
            have hbx2 := hbx.lt
            generalize hbp : bs.getD j 0 = bp at *
            have HBP := Lib.hid hbp
            have HX := Lib.hid hX; have HG2 := Lib.hid hG2; have HBX := Lib.hid hbx; have KY := Lib.hid ky
            clear hA hX hG2 hbx ky hbp
            cases hh : hitsE ⟨a, k, s, y⟩ j with
            | false =>
              have hs0 : ¬ s < 0 ∧ ¬ s = j := by unfold hitsE at hh; simpa using hh
              have q1 : (s == (j : Int)) = false := by simpa using hs0.2
              have q0 : 0 ≤ s := by omega
              have HH := Lib.hid hh
              clear hs0 hh
              go_wp2
              go_roundw
              case rel => exact ⟨j + 1, G2, by go_num, by omega, by rw [forceN_miss _ _ _ HH.out]; exact HX.out, HG2.out, HBX.out, KY.out⟩
              case measure => simp [intOf]; omega
            | true =>
              have hs0 : s < 0 ∨ s = j := by unfold hitsE at hh; simpa using hh
              have HH := Lib.hid hh
              clear hh
              rcases hs0 with hs0 | hs0
              · have q0 : ¬ 0 ≤ s := by omega
                by_cases e1 : k = 1
                · subst e1
                  go_wp2_with fail
                  refine (force_calls HX.out hjl HH.out HBP.out (fun Fi h => rflush_site bp _ Fi _ h)).mono ?_
                  rintro _ we ⟨rfl, G3, q1, q2, q3⟩
                  have g1 : ∀ q, G3 q → (G q ∧ q < wo.heap.size) ∨ wo.heap.size < q := fun q hq => (q3 q hq).elim (HG2.out q) (fun h => .inr (by omega))
                  have g2 := Blk.kp HBX.out q2 (fun h => by rcases HG2.out _ h with h | h <;> omega)
                  have g3 : Kp G wo we := KY.out.trans' q2 (fun q hq h => (HG2.out q h).elim (fun h => h.1) (fun h => by omega))
                  have Q1 := Lib.hid q1; have Q2 := Lib.hid g1; have Q3 := Lib.hid g2; have Q4 := Lib.hid g3
                  clear q1 q2 q3 g1 g2 g3
                  go_wp2
                  go_roundw
                  case rel => exact ⟨j + 1, G3, by go_num, by omega, Q1.out, Q2.out, Q3.out, Q4.out⟩
                  case measure => simp [intOf]; omega
                by_cases e2 : k = 2
                · subst e2
                  go_wp2_with fail
                  refine (force_calls HX.out hjl HH.out HBP.out (fun Fi h => revict_site bp _ y Fi _ h)).mono ?_
                  rintro _ we ⟨rfl, G3, q1, q2, q3⟩
                  have g1 : ∀ q, G3 q → (G q ∧ q < wo.heap.size) ∨ wo.heap.size < q := fun q hq => (q3 q hq).elim (HG2.out q) (fun h => .inr (by omega))
                  have g2 := Blk.kp HBX.out q2 (fun h => by rcases HG2.out _ h with h | h <;> omega)
                  have g3 : Kp G wo we := KY.out.trans' q2 (fun q hq h => (HG2.out q h).elim (fun h => h.1) (fun h => by omega))
                  have Q1 := Lib.hid q1; have Q2 := Lib.hid g1; have Q3 := Lib.hid g2; have Q4 := Lib.hid g3
                  clear q1 q2 q3 g1 g2 g3
                  go_wp2
                  go_roundw
                  case rel => exact ⟨j + 1, G3, by go_num, by omega, Q1.out, Q2.out, Q3.out, Q4.out⟩
                  case measure => simp [intOf]; omega
                by_cases e3 : k = 3
                · subst e3
                  go_wp2_with fail
                  refine (force_calls HX.out hjl HH.out HBP.out (fun Fi h => rdep_site bp _ Fi _ h)).mono ?_
                  rintro _ we ⟨rfl, G3, q1, q2, q3⟩
                  have g1 : ∀ q, G3 q → (G q ∧ q < wo.heap.size) ∨ wo.heap.size < q := fun q hq => (q3 q hq).elim (HG2.out q) (fun h => .inr (by omega))
                  have g2 := Blk.kp HBX.out q2 (fun h => by rcases HG2.out _ h with h | h <;> omega)
                  have g3 : Kp G wo we := KY.out.trans' q2 (fun q hq h => (HG2.out q h).elim (fun h => h.1) (fun h => by omega))
                  have Q1 := Lib.hid q1; have Q2 := Lib.hid g1; have Q3 := Lib.hid g2; have Q4 := Lib.hid g3
                  clear q1 q2 q3 g1 g2 g3
                  go_wp2
                  go_roundw
                  case rel => exact ⟨j + 1, G3, by go_num, by omega, Q1.out, Q2.out, Q3.out, Q4.out⟩
                  case measure => simp [intOf]; omega
                have q1 : (k == 1) = false := by simpa using e1
                have q2 : (k == 2) = false := by simpa using e2
                have q3 : (k == 3) = false := by simpa using e3
                have hsame : ∀ s, forceN L ⟨a, k, s, y⟩ (j + 1) = forceN L ⟨a, k, s, y⟩ j := fun s => by rw [forceN_other _ e1 e2 e3, forceN_other _ e1 e2 e3]
                have HSAME := Lib.hid hsame
                clear e1 e2 e3 hsame
                go_wp2
                go_roundw
                case rel => exact ⟨j + 1, G2, by go_num, by omega, by rw [HSAME.out]; exact HX.out, HG2.out, HBX.out, KY.out⟩
                case measure => simp [intOf]; omega
              · subst hs0
                have q0 : (0 : Int) ≤ j := by omega
                by_cases e1 : k = 1
                · subst e1
                  go_wp2_with fail
                  refine (force_calls HX.out hjl HH.out HBP.out (fun Fi h => rflush_site bp _ Fi _ h)).mono ?_
                  rintro _ we ⟨rfl, G3, q1, q2, q3⟩
                  have g1 : ∀ q, G3 q → (G q ∧ q < wo.heap.size) ∨ wo.heap.size < q := fun q hq => (q3 q hq).elim (HG2.out q) (fun h => .inr (by omega))
                  have g2 := Blk.kp HBX.out q2 (fun h => by rcases HG2.out _ h with h | h <;> omega)
                  have g3 : Kp G wo we := KY.out.trans' q2 (fun q hq h => (HG2.out q h).elim (fun h => h.1) (fun h => by omega))
                  have Q1 := Lib.hid q1; have Q2 := Lib.hid g1; have Q3 := Lib.hid g2; have Q4 := Lib.hid g3
                  clear q1 q2 q3 g1 g2 g3
                  go_wp2
                  go_roundw
                  case rel => exact ⟨j + 1, G3, by go_num, by omega, Q1.out, Q2.out, Q3.out, Q4.out⟩
                  case measure => simp [intOf]; omega
                by_cases e2 : k = 2
                · subst e2
                  go_wp2_with fail
                  refine (force_calls HX.out hjl HH.out HBP.out (fun Fi h => revict_site bp _ y Fi _ h)).mono ?_
                  rintro _ we ⟨rfl, G3, q1, q2, q3⟩
                  have g1 : ∀ q, G3 q → (G q ∧ q < wo.heap.size) ∨ wo.heap.size < q := fun q hq => (q3 q hq).elim (HG2.out q) (fun h => .inr (by omega))
                  have g2 := Blk.kp HBX.out q2 (fun h => by rcases HG2.out _ h with h | h <;> omega)
                  have g3 : Kp G wo we := KY.out.trans' q2 (fun q hq h => (HG2.out q h).elim (fun h => h.1) (fun h => by omega))
                  have Q1 := Lib.hid q1; have Q2 := Lib.hid g1; have Q3 := Lib.hid g2; have Q4 := Lib.hid g3
                  clear q1 q2 q3 g1 g2 g3
                  go_wp2
                  go_roundw
                  case rel => exact ⟨j + 1, G3, by go_num, by omega, Q1.out, Q2.out, Q3.out, Q4.out⟩
                  case measure => simp [intOf]; omega
                by_cases e3 : k = 3
                · subst e3
                  go_wp2_with fail
                  refine (force_calls HX.out hjl HH.out HBP.out (fun Fi h => rdep_site bp _ Fi _ h)).mono ?_
                  rintro _ we ⟨rfl, G3, q1, q2, q3⟩
                  have g1 : ∀ q, G3 q → (G q ∧ q < wo.heap.size) ∨ wo.heap.size < q := fun q hq => (q3 q hq).elim (HG2.out q) (fun h => .inr (by omega))
                  have g2 := Blk.kp HBX.out q2 (fun h => by rcases HG2.out _ h with h | h <;> omega)
                  have g3 : Kp G wo we := KY.out.trans' q2 (fun q hq h => (HG2.out q h).elim (fun h => h.1) (fun h => by omega))
                  have Q1 := Lib.hid q1; have Q2 := Lib.hid g1; have Q3 := Lib.hid g2; have Q4 := Lib.hid g3
                  clear q1 q2 q3 g1 g2 g3
                  go_wp2
                  go_roundw
                  case rel => exact ⟨j + 1, G3, by go_num, by omega, Q1.out, Q2.out, Q3.out, Q4.out⟩
                  case measure => simp [intOf]; omega
                have q1 : (k == 1) = false := by simpa using e1
                have q2 : (k == 2) = false := by simpa using e2
                have q3 : (k == 3) = false := by simpa using e3
                have hsame : ∀ s, forceN L ⟨a, k, s, y⟩ (j + 1) = forceN L ⟨a, k, s, y⟩ j := fun s => by rw [forceN_other _ e1 e2 e3, forceN_other _ e1 e2 e3]
                have HSAME := Lib.hid hsame
                clear e1 e2 e3 hsame
                go_wp2
                go_roundw
                case rel => exact ⟨j + 1, G2, by go_num, by omega, by rw [HSAME.out]; exact HX.out, HG2.out, HBX.out, KY.out⟩
                case measure => simp [intOf]; omega
          · obtain rfl : j = L.length := by omega
            have hLi : (es.take (i + 1)).foldl force S.l = forceN L ⟨a, k, s, y⟩ L.length := by rw [HT.out, List.foldl_append, HLL.out]; rfl
            have r1 : ∀ q, G2 q → (F q ∧ q < w1.heap.size) ∨ w1.heap.size ≤ q := fun q hq => (hG2 q hq).elim (fun h => HGG.out q h.1) (fun h => .inr (by omega))
            have r2 : ∀ q, (Value.slice (some ⟨g, 0, none⟩) es.length dc).ownBlock = some q → ¬ G2 q := fun q hq h => by
              rcases hG2 q h with h' | h'
              · exact HNE.out q hq h'.1
              · have := (HR.out.lt q hq).2; omega
            have r3 : ERow 96 wr (.slice (some ⟨g, 0, none⟩) es.length dc) es := row_kp HR.out ky (fun q hq h => HNE.out q hq h)
            have r4 : Kp F w1 wr := KX.out.trans' ky (fun q hq h => (HGG.out q h).elim (fun h => h.1) (fun h => by omega))
            have R0 := Lib.hid hX; have R1 := Lib.hid r1; have R2 := Lib.hid r2; have R3 := Lib.hid r3; have R4 := Lib.hid r4; have RL := Lib.hid hLi
            clear hX hG2 hbx ky r1 r2 r3 r4 hLi
            go_wp2
            go_roundw
            case rel => exact ⟨i + 1, G2, by go_num, by omega, by rw [RL.out]; exact R0.out, R1.out, R2.out, R3.out, R4.out⟩
            case measure => simp [intOf]; omega
      · obtain rfl : i = es.length := by omega
        rw [List.take_length] at hS'
        have hk2 : Kp F w wr := K1.out.trans kx
        have hsz : w.heap.size ≤ w1.heap.size := K1.out.size
        have hsw : w1.heap.size = w.heap.size := SW.out
        have hfin : ShopThen 85 96 35 RSite b { S with n := S.n + 1, l := es.foldl force S.l } bs F w wr := ⟨G, hS'.shop, hk2, fun k hk => (hG k hk).imp (fun h => h.1) (fun h => by omega)⟩
        obtain ⟨Gs, hA⟩ := hS'
        have hb' := hA.blk.lt
        have c5 := hA.blk.cell 5 (.slice (some ⟨g0, 0, none⟩) bs.length ac) rfl
        have hg := (hA.row.lt g0 rfl).2
        have d0 := (World.ownsRow.cellAt hA.row z (by omega)).trans (ptrs_at bs z (by omega))
        have HFIN := Lib.hid hfin
        clear hA hfin hk2 hG hne hrw kx
        rw [HBZ.out] at d0
        go_wp2
        go_returns
        exact ⟨rfl, by rw [HES.out]; exact HFIN.out⟩
end Go.Proofs.Ytcdofhfneiednaa
