/- A policy's sites: where they lie; force. -/
import Derived.Test.YtcdofhfneiednaaPoI
import Derived.Deep.RegionHeld
import Derived.Laws.EntriesVeiled
namespace Go.Proofs.Ytcdofhfneiednaa
set_option linter.unusedSimpArgs false
set_option linter.unusedVariables false
open Go.RowKit

structure Ss where
  p : Pol
  l : List SS
  n : Int
def Ss.cells (S : Ss) (ev lv : Value) : Array Value := #[.int .i64 S.p.ways, .int .i64 S.p.warm, .int .i64 S.p.deep, .int .i64 S.p.fan, ev, lv, .int .i64 S.n]
def ptrs (bs : List Nat) : List Value := bs.map (fun (b : Nat) => Value.pointer (some ⟨b, 0, none⟩))
theorem ptrs_at (bs : List Nat) (i : Nat) (h : i < bs.length) : (ptrs bs)[i]? = some (.pointer (some ⟨bs.getD i 0, 0, none⟩)) := by
  simp [ptrs, List.getD_eq_getElem?_getD, h]
/-- The sites of a policy (t, te, tp: the types of the whole, its events, its pointers). -/
structure ShopAt (t te tp : TypeId) (Sp : World → Nat → SS → (Nat → Prop) → Prop) (w : World) (b : Nat) (S : Ss) (bs : List Nat) (F : Nat → Prop) (ev lv : Value) (Fs : Nat → Nat → Prop) : Prop where
  blk : Blk w b t (S.cells ev lv)
  evr : ERow te w ev S.p.evs
  row : w.ownsRow 0 tp 1 lv bs.length (ptrs bs)
  many : Many Sp w bs S.l Fs
  fb : F b
  fe : ∀ k, ev.ownBlock = some k → F k
  fl : ∀ k, lv.ownBlock = some k → F k
  fs : ∀ i k, Fs i k → F k
  ap : ∀ i k, Fs i k → k ≠ b ∧ ev.ownBlock ≠ some k ∧ lv.ownBlock ≠ some k
def Shop (t te tp : TypeId) (Sp : World → Nat → SS → (Nat → Prop) → Prop) (w : World) (b : Nat) (S : Ss) (bs : List Nat) (F : Nat → Prop) : Prop := ∃ ev lv Fs, ShopAt t te tp Sp w b S bs F ev lv Fs
def ShopThen (t te tp : TypeId) (Sp : World → Nat → SS → (Nat → Prop) → Prop) (b : Nat) (S' : Ss) (bs : List Nat) (F : Nat → Prop) (w w' : World) : Prop := ∃ F', Shop t te tp Sp w' b S' bs F' ∧ Kp F w w' ∧ ∀ k, F' k → F k ∨ w.heap.size ≤ k

set_option maxRecDepth 100000 in
theorem flushf_site (b : Nat) (s : SS) (y : Int) (F : Nat → Prop) (w : World) (h : Site w b s F) :
    Calls Try.prog 67 #[.pointer (some ⟨b, 0, none⟩), .int .i64 y] w fun e w' => e = .returned (.tuple #[]) ∧ SThen Site b s.flush F w w' := by
  have H := Lib.hid h; clear h
  go_enter Try.func67, Try.ntmps67
  go_wp2_with fail
  refine (flush_site b s F _ H.out).mono ?_
  rintro e wa ⟨rfl, ht⟩
  have HT := Lib.hid ht; clear ht
  go_wp2
  go_returns
  exact ⟨rfl, HT.out⟩
set_option maxRecDepth 100000 in
theorem deoptf_site (b : Nat) (s : SS) (y : Int) (F : Nat → Prop) (w : World) (h : Site w b s F) :
    Calls Try.prog 68 #[.pointer (some ⟨b, 0, none⟩), .int .i64 y] w fun e w' => e = .returned (.tuple #[]) ∧ SThen Site b s.dep F w w' := by
  have H := Lib.hid h; clear h
  go_enter Try.func68, Try.ntmps68
  go_wp2_with fail
  refine (dep_site b s F _ H.out).mono ?_
  rintro e wa ⟨rfl, ht⟩
  have HT := Lib.hid ht; clear ht
  go_wp2
  go_returns
  exact ⟨rfl, HT.out⟩
set_option maxRecDepth 100000 in
set_option maxHeartbeats 4000000 in
theorem force_shop (b : Nat) (S : Ss) (bs : List Nat) (F : Nat → Prop) (v : Ev) (w : World) (h : Shop 99 69 24 Site w b S bs F) (hl : S.l.length ≤ 100000) :
    Calls Try.prog 58 #[.pointer (some ⟨b, 0, none⟩), v.agg] w fun e w' => e = .returned (.tuple #[]) ∧ ShopThen 99 69 24 Site b { S with l := force S.l v } bs F w w' := by
  obtain ⟨ev, lv, Fs, h⟩ := h
  obtain ⟨a, k, s, y⟩ := v
  unfold Ev.agg
  dsimp only
  cases hk : within k 1 3 with
  | false =>
    have hF := force_none (l := S.l) (v := ⟨a, k, s, y⟩) hk
    rw [hF]
    have H := Lib.hid h; clear h hF
    go_enter Try.func58, Try.ntmps58
    go_wp2_with fail
    refine (within_any k 1 3 _).mono ?_
    rw [hk]
    rintro e wa ⟨rfl, rfl⟩
    go_wp2
    go_returns
    have k1 : Kp (fun _ => False) w ((w.alloc (.cells #[.int .i64 a, .int .i64 k, .int .i64 s, .int .i64 y] 69)).alloc (.cells #[.nilFunc, .func (.func 67) #[] #[], .func (.func 49) #[] #[], .func (.func 68) #[] #[]] 110)) := ((Kp.refl (fun _ => False) w).alloc _).alloc _
    exact ⟨rfl, F, ⟨ev, lv, Fs, Blk.kp H.out.blk k1 (fun h => h), row_kp H.out.evr k1 (fun _ _ h => h), row_kp H.out.row k1 (fun _ _ h => h), H.out.many.kp spy_site k1 (fun _ _ _ _ h => h), H.out.fb, H.out.fe, H.out.fl, H.out.fs, H.out.ap⟩, k1.mono (fun _ _ h => h.elim), fun _ h => .inl h⟩
  | true =>
    have hk3 : k = 1 ∨ k = 2 ∨ k = 3 := by have := within_iff.1 hk; omega
    obtain ⟨ao, ac, rfl⟩ := row_form h.row
    have hb := h.blk.lt
    have c5 := h.blk.cell 5 (.slice ao bs.length ac) rfl
    have hbl : bs.length = S.l.length := h.many.len
    have H := Lib.hid h; clear h
    go_enter Try.func58, Try.ntmps58
    go_wp2_with fail
    refine (within_any k 1 3 _).mono ?_
    rw [hk]
    rintro e wa ⟨rfl, rfl⟩
    clear hk
    go_wp2_with fail
    have kw : Kp (fun _ => False) w ((w.alloc (.cells #[.int .i64 a, .int .i64 k, .int .i64 s, .int .i64 y] 69)).alloc (.cells #[.nilFunc, .func (.func 67) #[] #[], .func (.func 49) #[] #[], .func (.func 68) #[] #[]] 110)) := ((Kp.refl _ _).alloc _).alloc _
    have x1 : Blk ((w.alloc (.cells #[.int .i64 a, .int .i64 k, .int .i64 s, .int .i64 y] 69)).alloc (.cells #[.nilFunc, .func (.func 67) #[] #[], .func (.func 49) #[] #[], .func (.func 68) #[] #[]] 110)) w.heap.size 69 #[.int .i64 a, .int .i64 k, .int .i64 s, .int .i64 y] := (Blk.new rfl).alloc _
    have x2 : Blk ((w.alloc (.cells #[.int .i64 a, .int .i64 k, .int .i64 s, .int .i64 y] 69)).alloc (.cells #[.nilFunc, .func (.func 67) #[] #[], .func (.func 49) #[] #[], .func (.func 68) #[] #[]] 110)) (w.heap.size + 1) 110 #[.nilFunc, .func (.func 67) #[] #[], .func (.func 49) #[] #[], .func (.func 68) #[] #[]] := Blk.new (by simp)
    generalize (w.alloc (.cells #[.int .i64 a, .int .i64 k, .int .i64 s, .int .i64 y] 69)).alloc (.cells #[.nilFunc, .func (.func 67) #[] #[], .func (.func 49) #[] #[], .func (.func 68) #[] #[]] 110) = w0 at *
    have X1 := Lib.hid x1; have X2 := Lib.hid x2; have KW := Lib.hid kw
    have hw0 : w.heap.size + 1 < w0.heap.size := x2.lt
    have hm0 : Many Site w0 bs (forceN S.l ⟨a, k, s, y⟩ 0) Fs := by rw [forceN_zero]; exact H.out.many.kp spy_site kw (fun _ _ _ _ h => h)
    clear x1 x2 kw c5
    go_loopw [17] (fun iv wr => ∃ (i : Nat) (Gs : Nat → Nat → Prop), iv = .int .i64 i ∧ i ≤ S.l.length ∧ Many Site wr bs (forceN S.l ⟨a, k, s, y⟩ i) Gs ∧ (∀ j k, Gs j k → Fs j k ∨ w0.heap.size ≤ k) ∧ Kp (fun k => ∃ i, Fs i k) w0 wr) (fun iv _ => S.l.length - (intOf iv).toNat)
    case atStart => exact ⟨0, Fs, rfl, by omega, hm0, fun j k h => .inl h, Kp.refl _ _⟩
    case round =>
      clear hm0
      obtain ⟨i, Gs, rfl, hi, hm, hg, kx⟩ := hrel
      have hlt' : ∀ j q, Fs j q → q < w.heap.size := H.out.many.lt
      have hx1 := Blk.kp X1.out kx (fun ⟨j, h⟩ => by have := hlt' j _ h; omega)
      have hx2 := Blk.kp X2.out kx (fun ⟨j, h⟩ => by have := hlt' j _ h; omega)
      have hrow := row_kp (row_kp H.out.row KW.out (fun _ _ h => h)) kx (fun q hq ⟨j, h⟩ => (H.out.ap j q h).2.2 hq)
      by_cases hlt : (i : Int) < bs.length
      · have hil : i < S.l.length := by omega
        have hil2 : i < (forceN S.l ⟨a, k, s, y⟩ i).length := by rw [forceN_len]; exact hil
        obtain ⟨g, cap, hga⟩ := row_some hrow (by omega)
        simp only [Value.slice.injEq] at hga
        obtain ⟨rfl, _, rfl⟩ := hga
        have d0 := (World.ownsRow.cellAt hrow i (by omega)).trans (ptrs_at bs i (by omega))
        have hgx := (hrow.lt g rfl).2
        have y0 := hx1.cell 0 (.int .i64 a) rfl
        have y1 := hx1.cell 1 (.int .i64 k) rfl
        have y2 := hx1.cell 2 (.int .i64 s) rfl
        have y3 := hx1.cell 3 (.int .i64 y) rfl
        have hl1 := hx1.lt; have hl2 := hx2.lt
        have HX1 := Lib.hid hx1; have HX2 := Lib.hid hx2; have HM := Lib.hid hm; have HG := Lib.hid hg; have KX := Lib.hid kx
        clear hx1 hx2 hrow hm hg kx
        cases hh : hitsE ⟨a, k, s, y⟩ i with
        | false =>
          have hs0 : ¬ s < 0 ∧ ¬ s = i := by unfold hitsE at hh; simpa using hh
          have q1 : (s == (i : Int)) = false := by simpa using hs0.2
          have q0 : 0 ≤ s := by omega
          have HH := Lib.hid hh
          clear hs0 hh
          go_wp2
          go_roundw
          case rel => exact ⟨i + 1, Gs, by go_num, by omega, by rw [forceN_miss _ _ _ HH.out]; exact HM.out, HG.out, KX.out⟩
          case measure => simp [intOf]; omega
        | true =>
          have hs0 : s < 0 ∨ s = i := by unfold hitsE at hh; simpa using hh
          have hsp := HM.out.at' i hil2
          rw [forceN_at _ _ _ _ hil (Nat.le_refl _)] at hsp
          have HSP := Lib.hid hsp
          have hset : ∀ s', (forceN S.l ⟨a, k, s, y⟩ i).set i s' = forceN S.l ⟨a, k, s, y⟩ (i + 1) ↔ s' = app1 S.l[i] ⟨a, k, s, y⟩ := fun s' => by
            rw [forceN_hit _ _ _ hil hh]
            constructor
            · intro e
              have := congrArg (fun l => l[i]?) e
              simp [List.getElem?_set, hil2] at this
              exact this
            · rintro rfl; rfl
          have HSET := Lib.hid hset
          have hgs : ∀ q, Gs i q → q ≠ w.heap.size ∧ q ≠ w.heap.size + 1 := fun q hq => by
            rcases HG.out i q hq with h | h
            · have := hlt' i q h; omega
            · omega
          have HGS := Lib.hid hgs
          clear hh hsp hset hgs
          obtain ⟨kn, fnn, hkn, hk4, hcf, hz, hcall⟩ : ∃ (kn fnn : Nat), k = kn ∧ (kn : Int) < 4 ∧ (∀ (args : Array Value) (w1 : World), (callFunc fnn args).run Try.prog w1 = .ok (.enter fnn args) w1) ∧ (#[Value.nilFunc, .func (.func 67) #[] #[], .func (.func 49) #[] #[], .func (.func 68) #[] #[]] : Array Value)[kn]? = some (.func (.func fnn) #[] #[]) ∧
              ∀ w1, Site w1 (bs.getD i 0) S.l[i] (Gs i) → Calls Try.prog fnn #[.pointer (some ⟨bs.getD i 0, 0, none⟩), .int .i64 y] w1 fun e w' => e = .returned (.tuple #[]) ∧ SThen Site (bs.getD i 0) (app1 S.l[i] ⟨a, k, s, y⟩) (Gs i) w1 w' := by
            rcases hk3 with rfl | rfl | rfl
            · exact ⟨1, 67, rfl, by omega, fun _ _ => by kernel_rfl, rfl, fun w1 h => flushf_site _ _ y _ w1 h⟩
            · exact ⟨2, 49, rfl, by omega, fun _ _ => by kernel_rfl, rfl, fun w1 h => evict_site _ _ y _ w1 h⟩
            · exact ⟨3, 68, rfl, by omega, fun _ _ => by kernel_rfl, rfl, fun w1 h => deoptf_site _ _ y _ w1 h⟩
          subst hkn
          have HC := Lib.hid hcall; have HZ := Lib.hid hz; have HB := Lib.hid hbl
          clear hcall hz hk3 hbl
          generalize hbp : bs.getD i 0 = bp at *
          generalize hsi : S.l[i] = si at *
          have HBP := Lib.hid hbp; have HSI := Lib.hid hsi
          clear hbp hsi
          have hk0 : (0 : Int) ≤ kn := by omega
          rcases hs0 with hs0 | hs0
          · go_wp2_with fail
            refine wp_region_D (S := fun w' => Blk w' w.heap.size 69 #[.int .i64 a, .int .i64 kn, .int .i64 s, .int .i64 y] ∧ Blk w' (w.heap.size + 1) 110 #[.nilFunc, .func (.func 67) #[] #[], .func (.func 49) #[] #[], .func (.func 68) #[] #[]]) (D := fun i => [1, 2, 3, 6].contains i) (by kernel_rfl) ?_
            have hHeld : (fun w' => Blk w' w.heap.size 69 #[.int .i64 a, .int .i64 kn, .int .i64 s, .int .i64 y] ∧ Blk w' (w.heap.size + 1) 110 #[.nilFunc, .func (.func 67) #[] #[], .func (.func 49) #[] #[], .func (.func 68) #[] #[]]) (World.drew _) := ⟨HX1.out.drew, HX2.out.drew⟩
            refine wpD_free (i := 0) (v := ?_) rfl (by kernel_rfl) (fun _ _ _ h => h) (Or.inl ⟨by kernel_rfl, ?_⟩) ?_
            rotate_left
            · intro w hSw; (try dsimp only at hSw); go_simp; (try with_reducible rfl)
            simp only [Act.put, List.setIfInBounds_toArray, List.set_cons_zero, List.set_cons_succ]
            refine wpD_free (i := 4) (v := ?_) rfl (by kernel_rfl) (fun _ _ _ h => h) (Or.inl ⟨by kernel_rfl, ?_⟩) ?_
            rotate_left
            · intro w hSw; (try dsimp only at hSw); go_simp; (try with_reducible rfl)
            simp only [Act.put, List.setIfInBounds_toArray, List.set_cons_zero, List.set_cons_succ]
            refine wpD_free (i := 5) (v := ?_) rfl (by kernel_rfl) (fun _ _ _ h => h) (Or.inl ⟨by kernel_rfl, ?_⟩) ?_
            rotate_left
            · intro w hSw; (try dsimp only at hSw); go_simp; (try with_reducible rfl)
            simp only [Act.put, List.setIfInBounds_toArray, List.set_cons_zero, List.set_cons_succ]
            refine wpD_take (i := 6) (v := ?_) rfl (by kernel_rfl) (fun _ _ _ h => h) (Or.inl ⟨by kernel_rfl, ?_⟩) hHeld ?_
            rotate_left
            · intro w hSw; (try dsimp only at hSw); have y1 := Blk.cell hSw.1 1 (.int .i64 kn) rfl; have y3 := Blk.cell hSw.1 3 (.int .i64 y) rfl; have z1 := Blk.cell hSw.2 kn _ HZ.out; clear hSw; go_simp; (try with_reducible rfl)
            simp only [Act.put, List.setIfInBounds_toArray, List.set_cons_zero, List.set_cons_succ]
            refine wpD_one (i := 1) (by kernel_rfl) rfl (fun K' hK => ?_)
            go_simp
            refine hK.out _ _ (fun _ => by first | exact hHeld | go_keep) (fun hHeld' => ?_)
            have hHeld := hHeld' (by decide)
            clear hHeld'
            clear hK K'
            refine wpD_one (i := 2) (by kernel_rfl) rfl (fun K' hK => ?_)
            go_simp
            refine hK.out _ _ (fun _ => by first | exact hHeld | go_keep) (fun hHeld' => ?_)
            have hHeld := hHeld' (by decide)
            clear hHeld'
            clear hK K'
            refine wpD_take (i := 3) (v := ?_) rfl (by kernel_rfl) (fun _ _ _ h => h) (Or.inl ⟨by kernel_rfl, ?_⟩) hHeld ?_
            rotate_left
            · intro w hSw; (try dsimp only at hSw); have y1 := Blk.cell hSw.1 1 (.int .i64 kn) rfl; have y3 := Blk.cell hSw.1 3 (.int .i64 y) rfl; have z1 := Blk.cell hSw.2 kn _ HZ.out; clear hSw; go_simp; (try with_reducible rfl)
            simp only [Act.put, List.setIfInBounds_toArray, List.set_cons_zero, List.set_cons_succ]
            refine wpD_one (i := 7) (by kernel_rfl) rfl (fun K' hK => ?_)
            go_simp
            refine (HC.out _ (Site.kp HSP.out ((Kp.refl (fun _ => False) _).drew) (fun _ _ _ h => h))).mono ?_
            rintro _ wd ⟨rfl, ht⟩
            refine hK.out _ _ (fun h => absurd h (by decide)) (fun _ => ?_)
            clear hK K'
            refine wpD_done (by kernel_rfl) ?_ _
            have ht' : SThen Site bp (app1 si ⟨a, kn, s, y⟩) (Gs i) wr wd := by
              obtain ⟨F', q1, q2, q3⟩ := ht
              exact ⟨F', q1, ((Kp.refl (Gs i) wr).drew).trans q2, q3⟩
            rw [← HBP.out] at ht'
            obtain ⟨Gs', m1, m2, m3⟩ := HM.out.step spy_site hil2 ht'
            rw [(HSET.out _).2 rfl] at m1
            have hg' : ∀ j q, Gs' j q → Fs j q ∨ w0.heap.size ≤ q := fun j q hq => (m2 j q hq).elim (HG.out j q) (fun h => .inr (Nat.le_trans KX.out.size h.1))
            have kx' : Kp (fun k => ∃ i, Fs i k) w0 wd := KX.out.trans' m3 (fun q hq h => (HG.out i q h).elim (fun h => ⟨i, h⟩) (fun h => by omega))
            have M1 := Lib.hid m1; have HG1 := Lib.hid hg'; have KX1 := Lib.hid kx'
            clear ht ht' m1 m2 m3 hg' kx'
            go_wp2
            go_roundw
            case rel => exact ⟨i + 1, Gs', by go_num, by omega, M1.out, HG1.out, KX1.out⟩
            case measure => simp [intOf]; omega
          · have q1 : (s == (i : Int)) = true := by simpa using hs0
            have q0 : 0 ≤ s := by omega
            clear hs0
            go_wp2_with fail
            refine wp_region_D (S := fun w' => Blk w' w.heap.size 69 #[.int .i64 a, .int .i64 kn, .int .i64 s, .int .i64 y] ∧ Blk w' (w.heap.size + 1) 110 #[.nilFunc, .func (.func 67) #[] #[], .func (.func 49) #[] #[], .func (.func 68) #[] #[]]) (D := fun i => [1, 2, 3, 6].contains i) (by kernel_rfl) ?_
            have hHeld : (fun w' => Blk w' w.heap.size 69 #[.int .i64 a, .int .i64 kn, .int .i64 s, .int .i64 y] ∧ Blk w' (w.heap.size + 1) 110 #[.nilFunc, .func (.func 67) #[] #[], .func (.func 49) #[] #[], .func (.func 68) #[] #[]]) (World.drew _) := ⟨HX1.out.drew, HX2.out.drew⟩
            refine wpD_free (i := 0) (v := ?_) rfl (by kernel_rfl) (fun _ _ _ h => h) (Or.inl ⟨by kernel_rfl, ?_⟩) ?_
            rotate_left
            · intro w hSw; (try dsimp only at hSw); go_simp; (try with_reducible rfl)
            simp only [Act.put, List.setIfInBounds_toArray, List.set_cons_zero, List.set_cons_succ]
            refine wpD_free (i := 4) (v := ?_) rfl (by kernel_rfl) (fun _ _ _ h => h) (Or.inl ⟨by kernel_rfl, ?_⟩) ?_
            rotate_left
            · intro w hSw; (try dsimp only at hSw); go_simp; (try with_reducible rfl)
            simp only [Act.put, List.setIfInBounds_toArray, List.set_cons_zero, List.set_cons_succ]
            refine wpD_free (i := 5) (v := ?_) rfl (by kernel_rfl) (fun _ _ _ h => h) (Or.inl ⟨by kernel_rfl, ?_⟩) ?_
            rotate_left
            · intro w hSw; (try dsimp only at hSw); go_simp; (try with_reducible rfl)
            simp only [Act.put, List.setIfInBounds_toArray, List.set_cons_zero, List.set_cons_succ]
            refine wpD_take (i := 6) (v := ?_) rfl (by kernel_rfl) (fun _ _ _ h => h) (Or.inl ⟨by kernel_rfl, ?_⟩) hHeld ?_
            rotate_left
            · intro w hSw; (try dsimp only at hSw); have y1 := Blk.cell hSw.1 1 (.int .i64 kn) rfl; have y3 := Blk.cell hSw.1 3 (.int .i64 y) rfl; have z1 := Blk.cell hSw.2 kn _ HZ.out; clear hSw; go_simp; (try with_reducible rfl)
            simp only [Act.put, List.setIfInBounds_toArray, List.set_cons_zero, List.set_cons_succ]
            refine wpD_one (i := 1) (by kernel_rfl) rfl (fun K' hK => ?_)
            go_simp
            refine hK.out _ _ (fun _ => by first | exact hHeld | go_keep) (fun hHeld' => ?_)
            have hHeld := hHeld' (by decide)
            clear hHeld'
            clear hK K'
            refine wpD_one (i := 2) (by kernel_rfl) rfl (fun K' hK => ?_)
            go_simp
            refine hK.out _ _ (fun _ => by first | exact hHeld | go_keep) (fun hHeld' => ?_)
            have hHeld := hHeld' (by decide)
            clear hHeld'
            clear hK K'
            refine wpD_take (i := 3) (v := ?_) rfl (by kernel_rfl) (fun _ _ _ h => h) (Or.inl ⟨by kernel_rfl, ?_⟩) hHeld ?_
            rotate_left
            · intro w hSw; (try dsimp only at hSw); have y1 := Blk.cell hSw.1 1 (.int .i64 kn) rfl; have y3 := Blk.cell hSw.1 3 (.int .i64 y) rfl; have z1 := Blk.cell hSw.2 kn _ HZ.out; clear hSw; go_simp; (try with_reducible rfl)
            simp only [Act.put, List.setIfInBounds_toArray, List.set_cons_zero, List.set_cons_succ]
            refine wpD_one (i := 7) (by kernel_rfl) rfl (fun K' hK => ?_)
            go_simp
            refine (HC.out _ (Site.kp HSP.out ((Kp.refl (fun _ => False) _).drew) (fun _ _ _ h => h))).mono ?_
            rintro _ wd ⟨rfl, ht⟩
            refine hK.out _ _ (fun h => absurd h (by decide)) (fun _ => ?_)
            clear hK K'
            refine wpD_done (by kernel_rfl) ?_ _
            have ht' : SThen Site bp (app1 si ⟨a, kn, s, y⟩) (Gs i) wr wd := by
              obtain ⟨F', q1, q2, q3⟩ := ht
              exact ⟨F', q1, ((Kp.refl (Gs i) wr).drew).trans q2, q3⟩
            rw [← HBP.out] at ht'
            obtain ⟨Gs', m1, m2, m3⟩ := HM.out.step spy_site hil2 ht'
            rw [(HSET.out _).2 rfl] at m1
            have hg' : ∀ j q, Gs' j q → Fs j q ∨ w0.heap.size ≤ q := fun j q hq => (m2 j q hq).elim (HG.out j q) (fun h => .inr (Nat.le_trans KX.out.size h.1))
            have kx' : Kp (fun k => ∃ i, Fs i k) w0 wd := KX.out.trans' m3 (fun q hq h => (HG.out i q h).elim (fun h => ⟨i, h⟩) (fun h => by omega))
            have M1 := Lib.hid m1; have HG1 := Lib.hid hg'; have KX1 := Lib.hid kx'
            clear ht ht' m1 m2 m3 hg' kx'
            go_wp2
            go_roundw
            case rel => exact ⟨i + 1, Gs', by go_num, by omega, M1.out, HG1.out, KX1.out⟩
            case measure => simp [intOf]; omega
      · obtain rfl : i = S.l.length := by omega
        have hblk := Blk.kp (Blk.kp H.out.blk KW.out (fun h => h)) kx (fun ⟨j, h⟩ => (H.out.ap j b h).1 rfl)
        have hevr := row_kp (row_kp H.out.evr KW.out (fun _ _ h => h)) kx (fun q hq ⟨j, h⟩ => (H.out.ap j q h).2.1 hq)
        have hrl := H.out.row.lt
        have hel := H.out.evr.lt
        have hfin : ShopThen 99 69 24 Site b { S with l := force S.l ⟨a, k, s, y⟩ } bs F w wr := by
          refine ⟨fun q => F q ∨ w.heap.size ≤ q, ⟨ev, .slice ao bs.length ac, Gs, hblk, hevr, hrow, hm, .inl H.out.fb, fun q hq => .inl (H.out.fe q hq), fun q hq => .inl (H.out.fl q hq), fun j q hq => ?_, fun j q hq => ?_⟩, ?_, fun _ h => h⟩
          · rcases hg j q hq with h | h
            · exact .inl (H.out.fs j q h)
            · exact .inr (by omega)
          · rcases hg j q hq with h | h
            · exact H.out.ap j q h
            · refine ⟨by omega, fun e => ?_, fun e => ?_⟩
              · have := (hel q e).2; omega
              · have := (hrl q e).2; omega
          · exact (KW.out.mono (fun _ _ h => h.elim)).trans' kx (fun q _ ⟨j, h⟩ => H.out.fs j q h)
        have HFIN := Lib.hid hfin
        clear hblk hevr hrow hm hg kx hx1 hx2 hfin
        go_wp2
        go_returns
        exact ⟨rfl, HFIN.out⟩
end Go.Proofs.Ytcdofhfneiednaa
