/- A policy's sites: At. -/
import Derived.Test.YtcdofhfneiednaaPoJ
import Derived.Test.YtcdofhfneiednaaPoD
namespace Go.Proofs.Ytcdofhfneiednaa
set_option linter.unusedSimpArgs false
set_option linter.unusedVariables false
open Go.RowKit

section
variable {t te tp : TypeId} {Sp : World → Nat → SS → (Nat → Prop) → Prop} {w w' : World} {b : Nat} {S : Ss} {bs : List Nat} {F : Nat → Prop}
theorem Shop.kp {D : Nat → Prop} (Y : Spy Sp) (h : Shop t te tp Sp w b S bs F) (k : Kp D w w') (hn : ∀ k, k < w.heap.size → F k → ¬ D k) : Shop t te tp Sp w' b S bs F := by
  obtain ⟨ev, lv, Fs, h⟩ := h
  exact ⟨ev, lv, Fs, Blk.kp h.blk k (hn b h.blk.lt h.fb), row_kp h.evr k (fun g hg => hn g (h.evr.lt g hg).2 (h.fe g hg)), row_kp h.row k (fun g hg => hn g (h.row.lt g hg).2 (h.fl g hg)), h.many.kp Y k (fun i q hq hf => hn q hq (h.fs i q hf)), h.fb, h.fe, h.fl, h.fs, h.ap⟩
theorem Shop.old (h : Shop t te tp Sp w b S bs F) : Shop t te tp Sp w b S bs (fun k => F k ∧ k < w.heap.size) := by
  obtain ⟨ev, lv, Fs, h⟩ := h
  exact ⟨ev, lv, Fs, h.blk, h.evr, h.row, h.many, ⟨h.fb, h.blk.lt⟩, fun k hk => ⟨h.fe k hk, (h.evr.lt k hk).2⟩, fun k hk => ⟨h.fl k hk, (h.row.lt k hk).2⟩, fun i k hk => ⟨h.fs i k hk, h.many.lt i k hk⟩, h.ap⟩
theorem Shop.lt (h : Shop t te tp Sp w b S bs F) : b < w.heap.size := by obtain ⟨ev, lv, Fs, h⟩ := h; exact h.blk.lt
theorem Shop.len (h : Shop t te tp Sp w b S bs F) : bs.length = S.l.length := by obtain ⟨ev, lv, Fs, h⟩ := h; exact h.many.len
end
def due (evs : List Ev) (n : Int) : List Ev := evs.filter (fun e => e.at' == n)
def inR (id : Int) (n : Nat) : Bool := decide (0 ≤ id) && decide (id < n)
def Ss.at' (S : Ss) (id : Int) : Ss := if inR id S.l.length then { S with n := S.n + 1, l := (due S.p.evs (S.n + 1)).foldl force S.l } else S
def atPtr (bs : List Nat) (id : Int) (n : Nat) : Value := if inR id n then .pointer (some ⟨bs.getD id.toNat 0, 0, none⟩) else .pointer none
theorem force_len (l : List SS) (v : Ev) : (force l v).length = l.length := forceN_len _ _ _
theorem fold_len (es : List Ev) (l : List SS) : (es.foldl force l).length = l.length := by
  induction es generalizing l with
  | nil => rfl
  | cons e r ih => simp only [List.foldl_cons]; rw [ih, force_len]

set_option maxRecDepth 100000 in
set_option maxHeartbeats 4000000 in
theorem at_shop (b : Nat) (S : Ss) (bs : List Nat) (F : Nat → Prop) (id : Int) (w : World) (h : Shop 99 69 24 Site w b S bs F) (hl : S.l.length ≤ 100000) (he : S.p.evs.length ≤ 100000) (hn : 0 ≤ S.n ∧ S.n ≤ 1000000) :
    Calls Try.prog 34 #[.pointer (some ⟨b, 0, none⟩), .int .i64 id] w fun e w' => e = .returned (atPtr bs id S.l.length) ∧ ShopThen 99 69 24 Site b (S.at' id) bs F w w' := by
  have hbl := h.len
  cases hin : inR id S.l.length with
  | false =>
    have hA : S.at' id = S ∧ atPtr bs id S.l.length = .pointer none := by unfold Ss.at' atPtr; rw [hin]; exact ⟨rfl, rfl⟩
    rw [hA.1, hA.2]
    have hout : id < 0 ∨ (bs.length : Int) ≤ id := by
      unfold inR at hin
      simp at hin
      omega
    have hfin : ShopThen 99 69 24 Site b S bs F w w := ⟨F, h, Kp.refl _ _, fun _ h => .inl h⟩
    obtain ⟨ev, lv, Fs, h⟩ := h
    obtain ⟨ao, ac, rfl⟩ := row_form h.row
    have hb := h.blk.lt
    have c5 := h.blk.cell 5 (.slice ao bs.length ac) rfl
    have HF := Lib.hid hfin
    clear h hfin hA hin
    rcases hout with hout | hout
    · go_enter Try.func34, Try.ntmps34
      go_wp2
      go_returns
      exact ⟨rfl, HF.out⟩
    · by_cases h0 : id < 0
      · go_enter Try.func34, Try.ntmps34
        go_wp2
        go_returns
        exact ⟨rfl, HF.out⟩
      · go_enter Try.func34, Try.ntmps34
        go_wp2
        go_returns
        exact ⟨rfl, HF.out⟩
  | true =>
    have hA : S.at' id = { S with n := S.n + 1, l := (due S.p.evs (S.n + 1)).foldl force S.l } ∧ atPtr bs id S.l.length = .pointer (some ⟨bs.getD id.toNat 0, 0, none⟩) := by unfold Ss.at' atPtr; rw [hin]; exact ⟨rfl, rfl⟩
    rw [hA.1, hA.2]
    have hr : 0 ≤ id ∧ id < bs.length := by unfold inR at hin; simp at hin; omega
    obtain ⟨z, rfl⟩ : ∃ z : Nat, id = z := ⟨id.toNat, by omega⟩
    rw [Int.toNat_natCast]
    generalize hbz : bs.getD z 0 = bz
    have HBZ := Lib.hid hbz; clear hbz
    obtain ⟨ev, lv, Fs, h⟩ := h
    obtain ⟨ao, ac, rfl⟩ := row_form h.row
    obtain ⟨eo, ec, rfl⟩ := row_form h.evr
    have hb := h.blk.lt
    have c5 := h.blk.cell 5 (.slice ao bs.length ac) rfl
    have c6 := h.blk.cell 6 (.int .i64 S.n) rfl
    have cf := h.blk.free
    -- behind the count
    have k1 : Kp (· = b) w (w.setCell ⟨b, 6, none⟩ (.int .i64 (S.n + 1))) := Kp.setCell (S := (· = b)) (p := ⟨b, 6, none⟩) (Kp.refl _ _) (.inl rfl) _
    have hlb := row_ne h.row h.blk (by decide)
    have heb := row_ne h.evr h.blk (by decide)
    have h1 : ShopAt 99 69 24 Site (w.setCell ⟨b, 6, none⟩ (.int .i64 (S.n + 1))) b { S with n := S.n + 1 } bs F (.slice eo S.p.evs.length ec) (.slice ao bs.length ac) Fs :=
      ⟨h.blk.set 6 _, row_kp h.evr k1 (fun q hq e => heb (by rw [hq, show q = b from e])), row_kp h.row k1 (fun q hq e => hlb (by rw [hq, show q = b from e])), h.many.kp spy_site k1 (fun i q _ hq e => (h.ap i q hq).1 e), h.fb, h.fe, h.fl, h.fs, h.ap⟩
    have H1 := Lib.hid h1
    have K1 := Lib.hid (k1.mono (S' := F) (fun q _ e => by have e' : q = b := e; rw [e']; exact h.fb))
    clear h h1 k1 hA hin hlb heb
    go_enter Try.func34, Try.ntmps34
    go_wp2_with fail
    clear c5 c6 cf
    have HD := Lib.hid H1.out.blk.drew
    have hev0 := Lib.hid (row_kp H1.out.evr (((Kp.refl (fun _ => False) _).drew)) (fun _ _ h => h))
    have hsw : (w.setCell ⟨b, 6, none⟩ (.int .i64 (S.n + 1))).heap.size = w.heap.size := by simp [World.setCell]
    generalize hw1 : w.setCell ⟨b, 6, none⟩ (.int .i64 (S.n + 1)) = w1 at *
    have SW := Lib.hid hsw
    clear hw1 hsw
    refine wp_region_D (S := fun w' => Blk w' b 99 (Ss.cells { S with n := S.n + 1 } (.slice eo S.p.evs.length ec) (.slice ao bs.length ac))) (D := fun i => [3, 7, 8, 9, 10].contains i) (by kernel_rfl) ?_
    have hHeld : (fun w' => Blk w' b 99 (Ss.cells { S with n := S.n + 1 } (.slice eo S.p.evs.length ec) (.slice ao bs.length ac))) (World.drew _) := HD.out
    refine wpD_free (i := 0) (v := ?_) rfl (by kernel_rfl) (fun _ _ _ h => h) (Or.inl ⟨by kernel_rfl, ?_⟩) ?_
    rotate_left
    · intro w hSw; (try dsimp only at hSw); go_simp; (try with_reducible rfl)
    simp only [Act.put, List.setIfInBounds_toArray, List.set_cons_zero, List.set_cons_succ]
    refine wpD_free (i := 1) (v := ?_) rfl (by kernel_rfl) (fun _ _ _ h => h) (Or.inl ⟨by kernel_rfl, ?_⟩) ?_
    rotate_left
    · intro w hSw; (try dsimp only at hSw); go_simp; (try with_reducible rfl)
    simp only [Act.put, List.setIfInBounds_toArray, List.set_cons_zero, List.set_cons_succ]
    refine wpD_free (i := 2) (v := ?_) rfl (by kernel_rfl) (fun _ _ _ h => h) (Or.inl ⟨by kernel_rfl, ?_⟩) ?_
    rotate_left
    · intro w hSw; (try dsimp only at hSw); go_simp; (try with_reducible rfl)
    simp only [Act.put, List.setIfInBounds_toArray, List.set_cons_zero, List.set_cons_succ]
    refine wpD_free (i := 4) (v := ?_) rfl (by kernel_rfl) (fun _ _ _ h => h) (Or.inl ⟨by kernel_rfl, ?_⟩) ?_
    rotate_left
    · intro w hSw; (try dsimp only at hSw); go_simp; (try with_reducible rfl)
    simp only [Act.put, List.setIfInBounds_toArray, List.set_cons_zero, List.set_cons_succ]
    refine wpD_free (i := 5) (v := ?_) rfl (by kernel_rfl) (fun _ _ _ h => h) (Or.inl ⟨by kernel_rfl, ?_⟩) ?_
    rotate_left
    · intro w hSw; (try dsimp only at hSw); go_simp; (try with_reducible rfl)
    simp only [Act.put, List.setIfInBounds_toArray, List.set_cons_zero, List.set_cons_succ]
    refine wpD_free (i := 6) (v := ?_) rfl (by kernel_rfl) (fun _ _ _ h => h) (Or.inl ⟨by kernel_rfl, ?_⟩) ?_
    rotate_left
    · intro w hSw; (try dsimp only at hSw); go_simp; (try with_reducible rfl)
    simp only [Act.put, List.setIfInBounds_toArray, List.set_cons_zero, List.set_cons_succ]
    refine wpD_take (i := 3) (v := ?_) rfl (by kernel_rfl) (fun _ _ _ h => h) (Or.inl ⟨by kernel_rfl, ?_⟩) hHeld ?_
    rotate_left
    · intro w hSw; (try dsimp only at hSw); have y0 := Blk.cell hSw 0 (.int .i64 S.p.ways) rfl; have y1 := Blk.cell hSw 1 (.int .i64 S.p.warm) rfl; have y2 := Blk.cell hSw 2 (.int .i64 S.p.deep) rfl; have y3 := Blk.cell hSw 3 (.int .i64 S.p.fan) rfl; have y4 := Blk.cell hSw 4 (.slice eo S.p.evs.length ec) rfl; have y6 := Blk.cell hSw 6 (.int .i64 (S.n + 1)) rfl; clear hSw; go_simp; (try with_reducible rfl)
    simp only [Act.put, List.setIfInBounds_toArray, List.set_cons_zero, List.set_cons_succ]
    refine wpD_take (i := 7) (v := ?_) rfl (by kernel_rfl) (fun _ _ _ h => h) (Or.inl ⟨by kernel_rfl, ?_⟩) hHeld ?_
    rotate_left
    · intro w hSw; (try dsimp only at hSw); have y0 := Blk.cell hSw 0 (.int .i64 S.p.ways) rfl; have y1 := Blk.cell hSw 1 (.int .i64 S.p.warm) rfl; have y2 := Blk.cell hSw 2 (.int .i64 S.p.deep) rfl; have y3 := Blk.cell hSw 3 (.int .i64 S.p.fan) rfl; have y4 := Blk.cell hSw 4 (.slice eo S.p.evs.length ec) rfl; have y6 := Blk.cell hSw 6 (.int .i64 (S.n + 1)) rfl; clear hSw; go_simp; (try with_reducible rfl)
    simp only [Act.put, List.setIfInBounds_toArray, List.set_cons_zero, List.set_cons_succ]
    refine wpD_take (i := 10) (v := ?_) rfl (by kernel_rfl) (fun _ _ _ h => h) (Or.inl ⟨by kernel_rfl, ?_⟩) hHeld ?_
    rotate_left
    · intro w hSw; (try dsimp only at hSw); have y0 := Blk.cell hSw 0 (.int .i64 S.p.ways) rfl; have y1 := Blk.cell hSw 1 (.int .i64 S.p.warm) rfl; have y2 := Blk.cell hSw 2 (.int .i64 S.p.deep) rfl; have y3 := Blk.cell hSw 3 (.int .i64 S.p.fan) rfl; have y4 := Blk.cell hSw 4 (.slice eo S.p.evs.length ec) rfl; have y6 := Blk.cell hSw 6 (.int .i64 (S.n + 1)) rfl; clear hSw; go_simp; (try with_reducible rfl)
    simp only [Act.put, List.setIfInBounds_toArray, List.set_cons_zero, List.set_cons_succ]
    refine wpD_one (i := 8) (by kernel_rfl) rfl (fun K' hK => ?_)
    go_simp
    refine (due_any S.p (.slice eo S.p.evs.length ec) (S.n + 1) _ hev0.out he).mono ?_
    rintro _ wd ⟨v', rfl, hrow, hnew, hkd⟩
    obtain ⟨do', dc, rfl⟩ := row_form hrow
    refine hK.out _ _ (fun _ => Blk.kp hHeld hkd (fun h => h)) (fun hHeld' => ?_)
    have hHeld := hHeld' (by decide)
    clear hHeld' hK K'
    refine wpD_take (i := 9) (v := ?_) rfl (by kernel_rfl) (fun _ _ _ h => h) (Or.inl ⟨by kernel_rfl, ?_⟩) hHeld ?_
    rotate_left
    · intro w hSw; (try dsimp only at hSw); have y0 := Blk.cell hSw 0 (.int .i64 S.p.ways) rfl; have y1 := Blk.cell hSw 1 (.int .i64 S.p.warm) rfl; have y2 := Blk.cell hSw 2 (.int .i64 S.p.deep) rfl; have y3 := Blk.cell hSw 3 (.int .i64 S.p.fan) rfl; have y4 := Blk.cell hSw 4 (.slice eo S.p.evs.length ec) rfl; have y6 := Blk.cell hSw 6 (.int .i64 (S.n + 1)) rfl; clear hSw; go_simp; (try with_reducible rfl)
    simp only [Act.put, List.setIfInBounds_toArray, List.set_cons_zero, List.set_cons_succ]
    refine wpD_done (by kernel_rfl) ?_ _
    clear hHeld
    have hsz1 : w1.heap.size ≤ wd.heap.size := hkd.size
    have hkd1 : Kp (fun _ => False) w1 wd := ((Kp.refl (fun _ => False) w1).drew).trans hkd
    have hs0 : Shop 99 69 24 Site wd b { S with n := S.n + 1, l := ((due S.p.evs (S.n + 1)).take 0).foldl force S.l } bs (fun k => F k ∧ k < w1.heap.size) := (Shop.old ⟨_, _, _, H1.out⟩).kp spy_site hkd1 (fun _ _ _ h => h)
    have hel : (due S.p.evs (S.n + 1)).length ≤ 100000 := Nat.le_trans (List.length_filter_le _ _) he
    have hrow' : ERow 69 wd (.slice do' (due S.p.evs (S.n + 1)).length dc) (due S.p.evs (S.n + 1)) := hrow
    have hnew' : ∀ k, (Value.slice do' (due S.p.evs (S.n + 1)).length dc).ownBlock = some k → w1.heap.size ≤ k := hnew
    have hlz : (S.p.evs.filter (fun e => e.at' == S.n + 1)).length = (due S.p.evs (S.n + 1)).length := rfl
    rw [hlz]
    generalize hes : due S.p.evs (S.n + 1) = es at *
    have HS0 := Lib.hid hs0; have HRW := Lib.hid hrow'; have HNW := Lib.hid hnew'; have HKD := Lib.hid hkd1; have HES := Lib.hid hes
    clear hs0 hrow hrow' hnew hnew' hkd hkd1 hlz hes hev0 HD
    go_wp2_with fail
    go_loopw [39] (fun iv wr => ∃ (i : Nat) (G : Nat → Prop), iv = .int .i64 i ∧ i ≤ es.length ∧ Shop 99 69 24 Site wr b { S with n := S.n + 1, l := (es.take i).foldl force S.l } bs G ∧ (∀ k, G k → (F k ∧ k < w1.heap.size) ∨ w1.heap.size ≤ k) ∧ (∀ k, (Value.slice do' es.length dc).ownBlock = some k → ¬ G k) ∧ ERow 69 wr (.slice do' es.length dc) es ∧ Kp F w1 wr) (fun iv _ => es.length - (intOf iv).toNat)
    case atStart => exact ⟨0, _, rfl, by omega, HS0.out, fun k h => .inl h, fun k hk h => by have := HNW.out k hk; omega, HRW.out, HKD.out.mono (fun _ _ h => h.elim)⟩
    case round =>
      clear HS0 HRW HKD
      obtain ⟨i, G, rfl, hi, hS', hG, hne, hrw, kx⟩ := hrel
      have hw1s := kx.size
      by_cases hlt : (i : Int) < es.length
      · have hil : i < es.length := by omega
        obtain ⟨g, cap', hga⟩ := row_some hrw (by omega)
        simp only [Value.slice.injEq] at hga
        obtain ⟨rfl, _, rfl⟩ := hga
        have hg := (hrw.lt g rfl).2
        obtain ⟨d0, d1, d2, d3⟩ := ERow.cell hrw i hil
        have hts : es.take (i + 1) = es.take i ++ [es[i]] := List.take_succ_eq_append_getElem hil
        have HT := Lib.hid hts
        have HX := Lib.hid hS'; have HGG := Lib.hid hG; have HNE := Lib.hid hne; have HR := Lib.hid hrw; have KX := Lib.hid kx
        clear hts hS' hG hne hrw kx
        generalize es[i] = evv at *
        obtain ⟨a, k, s, y⟩ := evv
        dsimp only at d0 d1 d2 d3
        go_wp2_with fail
        refine (force_shop b _ bs (fun q => G q ∧ q < wr.heap.size) ⟨a, k, s, y⟩ _ (HX.out.old.kp spy_site ((Kp.refl (fun _ => False) _).alloc _) (fun _ _ _ h => h)) (by simp only [fold_len]; exact hl)).mono ?_
        rintro e we ⟨rfl, G', q1, q2, q3⟩
        have hG' : ∀ q, G' q → (F q ∧ q < w1.heap.size) ∨ w1.heap.size ≤ q := fun q hq => (q3 q hq).elim (fun h => HGG.out q h.1) (fun h => by simp at h; omega)
        have hne' : ∀ q, (Value.slice (some ⟨g, 0, none⟩) es.length dc).ownBlock = some q → ¬ G' q := fun q hq h => by
          rcases q3 q h with h' | h'
          · exact HNE.out q hq h'.1
          · have := (HR.out.lt q hq).2; simp at h'; omega
        have hrw' : ERow 69 we (.slice (some ⟨g, 0, none⟩) es.length dc) es := row_kp (row_kp HR.out ((Kp.refl (fun _ => False) _).alloc _) (fun _ _ h => h)) q2 (fun q hq h => HNE.out q hq h.1)
        have kx' : Kp F w1 we := (KX.out.alloc (.cells #[.int .i64 a, .int .i64 k, .int .i64 s, .int .i64 y] 69)).trans' q2 (fun q hq h => (HGG.out q h.1).elim (fun h => h.1) (fun h => by omega))
        have hq1 : Shop 99 69 24 Site we b { S with n := S.n + 1, l := (es.take (i + 1)).foldl force S.l } bs G' := by
          rw [HT.out, List.foldl_append]; exact q1
        have Q1 := Lib.hid hq1; have QG := Lib.hid hG'; have QN := Lib.hid hne'; have QR := Lib.hid hrw'; have QK := Lib.hid kx'
        clear q1 q2 q3 hG' hne' hrw' kx' hq1 d0 d1 d2 d3
        go_wp2
        go_roundw
        case rel => exact ⟨i + 1, G', by go_num, by omega, Q1.out, QG.out, QN.out, QR.out, QK.out⟩
        case measure => simp [intOf]; omega
      · obtain rfl : i = es.length := by omega
        rw [List.take_length] at hS'
        have hk2 : Kp F w wr := K1.out.trans kx
        have hsz : w.heap.size ≤ w1.heap.size := K1.out.size
        have hsw : w1.heap.size = w.heap.size := SW.out
        have hfin : ShopThen 99 69 24 Site b { S with n := S.n + 1, l := es.foldl force S.l } bs F w wr := ⟨G, hS', hk2, fun k hk => (hG k hk).imp (fun h => h.1) (fun h => by omega)⟩
        obtain ⟨ev', lv', Gs, hA⟩ := hS'
        obtain ⟨ao', ac', rfl⟩ := row_form hA.row
        obtain ⟨g, cap', hga⟩ := row_some hA.row (by omega)
        simp only [Value.slice.injEq] at hga
        obtain ⟨rfl, _, rfl⟩ := hga
        have hb' := hA.blk.lt
        have c5 := hA.blk.cell 5 (.slice (some ⟨g, 0, none⟩) bs.length ac') rfl
        have hg := (hA.row.lt g rfl).2
        have d0 := (World.ownsRow.cellAt hA.row z (by omega)).trans (ptrs_at bs z (by omega))
        have HFIN := Lib.hid hfin
        clear hA hfin hk2 hG hne hrw kx
        rw [HBZ.out] at d0
        go_wp2
        go_returns
        exact ⟨rfl, by rw [HES.out]; exact HFIN.out⟩
end Go.Proofs.Ytcdofhfneiednaa
