/- selkielaw17.SiteHits answers true: the walk. -/
import Derived.Test.YtcdofhfneiednaaSiT
import Derived.Deep.DeepCutAuto
import Derived.Deep.LoopGhost
namespace Go.Proofs.Ytcdofhfneiednaa
set_option linter.unusedSimpArgs false
set_option linter.unusedVariables false
open Go.RowKit

/-- What the loop keeps. -/
def InHits (ways : Int) (w : World) (b bm : Nat) (j : Nat) (lv av : Value) (wr : World) : Prop :=
  ∃ (L A : Int) (s : SS) (F : Nat → Prop) (D : DataW Unit), lv = .int .i64 L ∧ av = .int .i64 A ∧ Site wr b s F ∧ (∀ k, F k → w.heap.size ≤ k ∧ k ≠ bm) ∧
    wr.ownsMap Try.prog 3 knownR bm j D ∧ Maps.IsMap D ∧ KnownBy D s.l ∧ s.ways = clamp 8 ways ∧ s.rw ≤ L ∧ s.hits ≤ A ∧ L ≤ j ∧ A ≤ j ∧ Kp (fun k => w.heap.size ≤ k) w wr
theorem known_nil (ways warm : Int) : KnownBy (.map []) (SS.new ways warm).l := fun e he => by cases he
set_option maxRecDepth 100000 in
theorem hitsl_many (ways warm : Int) (sa : Option Addr) (len cap : Nat) (w : World) (hl : 2000 < len) (hl2 : len ≤ 140737488351232) :
    Calls Try.prog 6 #[.int .i64 ways, .int .i64 warm, .slice sa len cap] w fun e w' => e = .returned (.bool true) ∧ Below w.heap.size w w' := by
  go_enter Try.func6, Try.ntmps6
  go_wp2_with fail
  refine (alive_any _).mono ?_
  rintro e w1 ⟨rfl, hk⟩
  have kk : Kp (fun k => w.heap.size ≤ k) w w1 := Kp.of_below hk
  have hs1 := hk.size
  clear hk
  go_wp2
  go_returns
  exact ⟨rfl, kk.below (Nat.le_refl _) (fun _ h => by omega)⟩
set_option maxRecDepth 100000 in
theorem hitsl_none (ways warm : Int) (sa : Option Addr) (cap : Nat) (w : World) :
    Calls Try.prog 6 #[.int .i64 ways, .int .i64 warm, .slice sa 0 cap] w fun e w' => e = .returned (.bool true) ∧ Below w.heap.size w w' := by
  go_enter Try.func6, Try.ntmps6
  go_wp2_with fail
  refine (alive_any _).mono ?_
  rintro e w1 ⟨rfl, hk⟩
  have kk : Kp (fun k => w.heap.size ≤ k) w w1 := Kp.of_below hk
  have hs1 := hk.size
  clear hk
  have hmm := @run_makeMap Try.prog
  go_wp2_with fail
  refine (new_site ways warm _).mono ?_
  rintro e w2 ⟨b, rfl, hb, hS, hk⟩
  replace kk := kk.trans (Kp.of_below hk)
  clear hk
  have hbl := hS.lt
  have hI : InHits ways w b w2.heap.size 0 (.int .i64 0) (.int .i64 0) (w2.alloc (.map #[] 0)) :=
    ⟨0, 0, SS.new ways warm, _, .map [], rfl, rfl, hS.kp ((Kp.refl (fun _ => False) _).alloc _) (fun _ _ _ h => h), fun k hk => by have : k = b := hk; omega, World.ownsMap_made _ _ _ _, Maps.isMap_empty, known_nil _ _, rfl, by simp [SS.new], by simp [SS.new], by simp [SS.new], by simp [SS.new], kk.alloc _⟩
  clear hI
  go_wp2_with fail
  go_rounds 1
  go_returns
  exact ⟨rfl, (kk.alloc _).below (Nat.le_refl _) (fun _ h => by omega)⟩

set_option maxRecDepth 100000 in
set_option maxHeartbeats 4000000 in
theorem hitsl_any (ways warm : Int) (ob off len cap : Nat) (os : Nat → Sop) (w : World) (hl : len ≤ 2000) (ho : Sops w ob off len os) (hwf : ∀ j, j < len → (Lit.int .i64 (os j).a).wf = true) :
    Calls Try.prog 6 #[.int .i64 ways, .int .i64 warm, .slice (some ⟨ob, off, none⟩) len cap] w fun e w' => e = .returned (.bool true) ∧ Below w.heap.size w w' := by
  have HO := Lib.hid ho; clear ho
  have HWF := Lib.hid hwf; clear hwf
  go_enter Try.func6, Try.ntmps6
  go_wp2_with fail
  refine (alive_any _).mono ?_
  rintro e w1 ⟨rfl, hk⟩
  have kk : Kp (fun k => w.heap.size ≤ k) w w1 := Kp.of_below hk
  have hs1 := hk.size
  clear hk
  have hmm := @run_makeMap Try.prog
  go_wp2_with fail
  refine (new_site ways warm _).mono ?_
  rintro e w2 ⟨b, rfl, hb, hS, hk⟩
  replace kk := kk.trans (Kp.of_below hk)
  clear hk
  have hbl := hS.lt
  have hI : InHits ways w b w2.heap.size 0 (.int .i64 0) (.int .i64 0) (w2.alloc (.map #[] 0)) :=
    ⟨0, 0, SS.new ways warm, _, .map [], rfl, rfl, hS.kp ((Kp.refl (fun _ => False) _).alloc _) (fun _ _ _ h => h), fun k hk => by have : k = b := hk; omega, World.ownsMap_made _ _ _ _, Maps.isMap_empty, known_nil _ _, rfl, by simp [SS.new], by simp [SS.new], by simp [SS.new], by simp [SS.new], kk.alloc _⟩
  go_wp2_with fail
  have hwbm0 := kk.size
  generalize hbm : w2.heap.size = bm at *
  have HBM := Lib.hid hbm
  clear hs1 hb hS hbm
  go_loopw [9, 10, 28] (fun lv av iv wr => ∃ j : Nat, iv = .int .i64 j ∧ j ≤ len ∧ InHits ways w b bm j lv av wr) (fun _ _ iv _ => len - (intOf iv).toNat)
  case atStart => exact ⟨0, rfl, by omega, hI⟩
  case round =>
    clear kk hI
    obtain ⟨j, rfl, hj, L, A, s, F, D, rfl, rfl, hS, hF, hM, hD, hK, hways, hrw, hhits, hL, hA, kk⟩ := hrel
    by_cases hlt : (j : Int) < len
    · have ho := HO.out.kp kk (by have := HO.out.lt; omega)
      have c0 := ho.k j (by omega)
      have c1 := ho.a j (by omega)
      have c2 := ho.b' j (by omega)
      have c3 := ho.ep j (by omega)
      have hol := ho.lt
      clear ho
      have hwf := HWF.out j (by omega)
      generalize os j = o at *
      obtain ⟨ok, oa, ob', oep⟩ := o
      dsimp only at c0 c1 c2 c3 hwf
      have hrw0 := hS.ok.rw
      have hhits0 := hS.ok.hits
      have HS := Lib.hid hS; have HF := Lib.hid hF; have KK := Lib.hid kk; have HM := Lib.hid hM; have HK := Lib.hid hK; have HD := Lib.hid hD
      have hW := Lib.hid hways
      clear hS hF kk hM hK hD hways
      go_wp2_with fail
      have hsr := KK.out.size
      have k0 : Kp (fun _ => False) wr (wr.alloc (.cells #[.int .i64 ok, .int .i64 oa, .int .i64 ob', .int .u64 oep] 38)) := (Kp.refl _ _).alloc _
      have X0 : Blk (wr.alloc (.cells #[.int .i64 ok, .int .i64 oa, .int .i64 ob', .int .u64 oep] 38)) wr.heap.size 38 #[.int .i64 ok, .int .i64 oa, .int .i64 ob', .int .u64 oep] := Blk.new rfl
      refine (state_site b s _ _ (HS.out.kp k0 (fun _ _ _ h => h))).mono ?_
      rintro e wa ⟨rfl, hka⟩
      replace k0 := k0.trans hka
      replace X0 := Blk.kp X0 hka (fun h => h)
      clear hka
      have hxa := X0.lt
      have x0 := X0.cell 0 (.int .i64 ok) rfl
      have x1 := X0.cell 1 (.int .i64 oa) rfl
      have x2 := X0.cell 2 (.int .i64 ob') rfl
      have x3 := X0.cell 3 (.int .u64 oep) rfl
      have HX := Lib.hid X0; have K0 := Lib.hid k0; clear X0 k0 c0 c1 c2 c3
      go_wp2_with fail
      clear x0 x1 x2 x3
      refine (do_site b s ⟨ok, oa, ob', oep⟩ (fun k => F k ∧ k < wr.heap.size) _ (HS.out.old.kp K0.out (fun _ _ _ h => h)) (by omega) (by omega)).mono ?_
      rintro e wb ⟨he, F', hs', hkb, hF'⟩
      unfold SS.ans at he
      obtain rfl := he
      have hsb := hkb.size
      have kB : Kp (fun k => w.heap.size ≤ k ∧ k ≠ bm) wr wb := (K0.out.mono (S' := fun k => w.heap.size ≤ k ∧ k ≠ bm) (fun _ _ h => h.elim)).trans' hkb (fun k _ h => HF.out k h.1)
      have hmB := map_kp HM.out kB (fun h => h.2 rfl)
      have hxB := Blk.kp HX.out hkb (fun h => by have := h.2; omega)
      have hbmr := map_lt HM.out
      have hsB := hs'.old
      have hFB : ∀ k, F' k ∧ k < wb.heap.size → w.heap.size ≤ k ∧ k ≠ bm := fun k hk => (hF' k hk.1).elim (fun h => HF.out k h.1) (fun h => by omega)
      have kkB := KK.out.trans (kB.mono (fun _ _ h => h.1))
      generalize hFF : (fun k => F' k ∧ k < wb.heap.size) = F2 at *
      have hFB' : ∀ k, F2 k → w.heap.size ≤ k ∧ k ≠ bm := fun k hk => hFB k (by rw [← hFF] at hk; exact hk)
      have hact := act_step s ⟨ok, oa, ob', oep⟩
      have hwys := act_ways s ⟨ok, oa, ob', oep⟩
      have htwo := act_two HS.out.ok ⟨ok, oa, ob', oep⟩
      have HOK := Lib.hid HS.out.ok
      have hN : s.ansN ⟨1, oa, ob', oep⟩ = s.askN oa oep := rfl
      have hI1 : s.ansIs ⟨1, oa, ob', oep⟩ = s.askIs oa oep := rfl
      have hbw := map_lt hmB
      have hxbw := hxB.lt
      have x0 := hxB.cell 0 (.int .i64 ok) rfl
      have x1 := hxB.cell 1 (.int .i64 oa) rfl
      have x2 := hxB.cell 2 (.int .i64 ob') rfl
      have x3 := hxB.cell 3 (.int .u64 oep) rfl
      have HX2 := Lib.hid hxB; have HS2 := Lib.hid hsB; have HM2 := Lib.hid hmB; have KK2 := Lib.hid kkB; have HF2 := Lib.hid hFB'
      have HT := Lib.hid htwo; have HA := Lib.hid hact; have HWY := Lib.hid hwys
      clear hxB hsB hmB kkB hFB' htwo hact hwys HX HM KK HS HF hFB hFF K0 kB hkb hs' hF'
      go_upto_region 13 with fail
      iterate 10 (first | go_step | go_values | go_upon | go_back | go_simp)
      have hFr := hrw; have hFh := hhits
      go_cut [9, 10] (fun lv av wx => ∃ (L' A' : Int) (D' : DataW Unit), lv = .int .i64 L' ∧ av = .int .i64 A' ∧ Site wx b (s.act ⟨ok, oa, ob', oep⟩) F2 ∧
        wx.ownsMap Try.prog 3 knownR bm (j + 1) D' ∧ Maps.IsMap D' ∧ KnownBy D' (s.act ⟨ok, oa, ob', oep⟩).l ∧ (s.act ⟨ok, oa, ob', oep⟩).rw ≤ L' ∧ (s.act ⟨ok, oa, ob', oep⟩).hits ≤ A' ∧ L' ≤ j + 1 ∧ A' ≤ j + 1 ∧ Kp (fun k => w.heap.size ≤ k) w wx)
      case first =>
        by_cases e1 : ok = 1
        · subst e1
          rw [hN, hI1]
          have hrw1 : (s.act ⟨1, oa, ob', oep⟩).rw = s.rw := (hits_step s oa oep).2.2
          have hko := known_other (s := s) (D := D) (o := ⟨1, oa, ob', oep⟩) (by simp) HK.out
          have HKO := Lib.hid hko; have HRW := Lib.hid hrw1; clear hko hrw1
          obtain ⟨c', d', hcd⟩ := known_any HM2.out hwf
          cases hi : s.askIs oa oep with
          | true =>
            obtain ⟨hh, hat⟩ := known_hit HK.out hi
            have HH := Lib.hid hh; have HAT := Lib.hid hat
            clear hh hat hN hI1 hcd
            go_wp2_with (at_lookup; refine wpList_look_known _ rfl _ _ rfl bm j D oa hwf rfl rfl (map_kp HM2.out ((Kp.refl (fun _ => False) _).alloc _) (fun h => h)) _ _ _ HAT.out HH.out ?_)
            go_meet
            case rel =>
              exact ⟨_, _, D, rfl, rfl, HS2.out.kp (((Kp.refl (fun _ => False) _).alloc _).alloc _) (fun _ _ _ h => h), (map_kp HM2.out (((Kp.refl (fun _ => False) _).alloc _).alloc _) (fun h => h)).mono (by omega), HD.out, HKO.out, by have := HRW.out; omega, by have := HA.out; omega, by omega, by omega, (KK2.out.alloc _).alloc _⟩
          | false =>
            have HCD := Lib.hid hcd
            clear hN hI1 hcd
            generalize hhas : Maps.has D (.int .i64 oa) = hb'
            go_wp2_with (at_lookup; refine wpList_look_known _ rfl _ _ rfl bm j D oa hwf rfl rfl (map_kp HM2.out ((Kp.refl (fun _ => False) _).alloc _) (fun h => h)) c' d' hb' HCD.out hhas ?_)
            go_meet
            case rel =>
              exact ⟨_, _, D, rfl, rfl, HS2.out.kp (((Kp.refl (fun _ => False) _).alloc _).alloc _) (fun _ _ _ h => h), (map_kp HM2.out (((Kp.refl (fun _ => False) _).alloc _).alloc _) (fun h => h)).mono (by omega), HD.out, HKO.out, by have := HRW.out; omega, by have := HA.out; omega, by omega, by omega, (KK2.out.alloc _).alloc _⟩
        by_cases e2 : ok = 2
        · subst e2
          have hkp := known_put (D := D) (s := s) ⟨oa, ob', oep⟩ HD.out HOK.out HK.out
          have hhit : (s.act ⟨2, oa, ob', oep⟩).hits = s.hits := (rw_step s ⟨oa, ob', oep⟩).2.2
          have HKP := Lib.hid hkp; have HHI := Lib.hid hhit
          clear hkp hhit hN hI1
          go_wp2_with (at_mapUpdate; refine wpList_mapUpdate_own _ rfl _ _ _ 48 rfl 3 50 key3 Try.underlying48 _ bm j _ rfl (map_kp HM2.out ((Kp.refl (fun _ => False) _).alloc _) (fun h => h)) (by unfold maxLen; omega) _ _ _ rfl rfl (Maps.keyOf_int_mk Try.underlying3 hwf) (knownD ob' oep) [] rfl ?_; intro wd hown hgrow)
          go_meet
          case rel =>
            have kg : Kp (fun k => k = bm) wb wd := ((Kp.refl (fun k => k = bm) wb).alloc _).grown hgrow (fun k hk => by cases hk; exact .inl rfl)
            exact ⟨_, _, _, rfl, rfl, HS2.out.kp kg (fun k _ h e => (HF2.out k h).2 e), hown, HD.out.put _ _, HKP.out, by have := HA.out; omega, by have := HHI.out; omega, by omega, by omega, KK2.out.trans' kg (fun k _ h => by have : k = bm := h; omega)⟩
        · have q1 : (ok == 1) = false := by simpa using e1
          have q2 : (ok == 2) = false := by simpa using e2
          have hko := known_other (s := s) (D := D) (o := ⟨ok, oa, ob', oep⟩) e2 HK.out
          have hoth := act_other (s := s) (o := ⟨ok, oa, ob', oep⟩) e1 e2
          have HKO := Lib.hid hko; have HOT := Lib.hid hoth; clear hko hoth hN hI1 e1 e2
          go_wp2_with fail
          go_meet
          case rel =>
            exact ⟨_, _, D, rfl, rfl, HS2.out.kp ((Kp.refl (fun _ => False) _).alloc _) (fun _ _ _ h => h), (map_kp HM2.out ((Kp.refl (fun _ => False) _).alloc _) (fun h => h)).mono (by omega), HD.out, HKO.out, by have := HOT.out; omega, by have := HOT.out; omega, by omega, by omega, KK2.out.alloc _⟩
      case rest =>
        obtain ⟨L', A', D', rfl, rfl, hS3, hM3, hD3, hK3, hr3, hh3, hL3, hA3, kk3⟩ := hcut
        generalize s.act ⟨ok, oa, ob', oep⟩ = s' at *
        have hlen := hS3.ok.len
        have hd4 := hS3.ok.deopts.2
        have hone := hS3.ok.one
        have hww : s'.ways = clamp 8 ways := HWY.out.trans hW.out
        have HS3 := Lib.hid hS3; have HM3 := Lib.hid hM3; have HD3 := Lib.hid hD3; have HK3 := Lib.hid hK3; have KK3 := Lib.hid kk3; have HONE := Lib.hid hone; have HWW := Lib.hid hww
        have hcl : (s'.l.length : Int) ≤ min (max ways 0) 8 := by rw [hww] at hlen; exact hlen
        clear hS3 hM3 hD3 hK3 kk3 hone hww hlen
        clear x0 x1 x2 x3 HX2 HS2 HM2 KK2 HOK HA
        by_cases hw8 : 8 < ways
        · have hlen : (s'.l.length : Int) ≤ 8 := by omega
          clear hcl
          by_cases hl0 : s'.l = []
          · skip
            have hst1 : (s'.state == 1) = false := by simpa using (fun e => HONE.out.1 e hl0)
            by_cases hs2 : s.state = 2
            · have hs2' := HT.out hs2
              go_wp2_with fail
              refine (len_site b _ _ _ HS3.out).mono ?_
              rintro e wc ⟨rfl, hk⟩
              replace HS3 := Lib.hid (HS3.out.kp hk (fun _ _ _ h => h))
              replace HM3 := Lib.hid (map_kp HM3.out hk (fun h => h))
              replace KK3 := Lib.hid (kp_tell KK3.out hk)
              clear hk
              go_wp2_with fail
              refine (deopts_site b _ _ _ HS3.out).mono ?_
              rintro e wc ⟨rfl, hk⟩
              replace HS3 := Lib.hid (HS3.out.kp hk (fun _ _ _ h => h))
              replace HM3 := Lib.hid (map_kp HM3.out hk (fun h => h))
              replace KK3 := Lib.hid (kp_tell KK3.out hk)
              clear hk
              go_wp2_with fail
              refine (rewrites_site b _ _ _ HS3.out).mono ?_
              rintro e wc ⟨rfl, hk⟩
              replace HS3 := Lib.hid (HS3.out.kp hk (fun _ _ _ h => h))
              replace HM3 := Lib.hid (map_kp HM3.out hk (fun h => h))
              replace KK3 := Lib.hid (kp_tell KK3.out hk)
              clear hk
              go_wp2_with fail
              refine (hits_site b _ _ _ HS3.out).mono ?_
              rintro e wc ⟨rfl, hk⟩
              replace HS3 := Lib.hid (HS3.out.kp hk (fun _ _ _ h => h))
              replace HM3 := Lib.hid (map_kp HM3.out hk (fun h => h))
              replace KK3 := Lib.hid (kp_tell KK3.out hk)
              clear hk
              go_wp2_with fail
              refine (state_site b _ _ _ HS3.out).mono ?_
              rintro e wc ⟨rfl, hk⟩
              replace HS3 := Lib.hid (HS3.out.kp hk (fun _ _ _ h => h))
              replace HM3 := Lib.hid (map_kp HM3.out hk (fun h => h))
              replace KK3 := Lib.hid (kp_tell KK3.out hk)
              clear hk
              go_wp2_with fail
              refine (state_site b _ _ _ HS3.out).mono ?_
              rintro e wc ⟨rfl, hk⟩
              replace HS3 := Lib.hid (HS3.out.kp hk (fun _ _ _ h => h))
              replace HM3 := Lib.hid (map_kp HM3.out hk (fun h => h))
              replace KK3 := Lib.hid (kp_tell KK3.out hk)
              clear hk
              go_wp2_with fail
              refine (len_site b _ _ _ HS3.out).mono ?_
              rintro e wc ⟨rfl, hk⟩
              replace HS3 := Lib.hid (HS3.out.kp hk (fun _ _ _ h => h))
              replace HM3 := Lib.hid (map_kp HM3.out hk (fun h => h))
              replace KK3 := Lib.hid (kp_tell KK3.out hk)
              clear hk
              have HI : InHits ways w b bm (j + 1) (.int .i64 L') (.int .i64 A') wc := ⟨L', A', s', F2, D', rfl, rfl, HS3.out, HF2.out, HM3.out, HD3.out, HK3.out, HWW.out, hr3, hh3, by omega, by omega, KK3.out⟩
              have HII := Lib.hid HI; clear HI
              go_wp2
              go_roundw
              case rel => exact ⟨j + 1, by go_num, by omega, HII.out⟩
              case measure => simp [intOf]; omega
            · have q2 : (s.state == 2) = false := by simpa using hs2
              go_wp2_with fail
              refine (len_site b _ _ _ HS3.out).mono ?_
              rintro e wc ⟨rfl, hk⟩
              replace HS3 := Lib.hid (HS3.out.kp hk (fun _ _ _ h => h))
              replace HM3 := Lib.hid (map_kp HM3.out hk (fun h => h))
              replace KK3 := Lib.hid (kp_tell KK3.out hk)
              clear hk
              go_wp2_with fail
              refine (deopts_site b _ _ _ HS3.out).mono ?_
              rintro e wc ⟨rfl, hk⟩
              replace HS3 := Lib.hid (HS3.out.kp hk (fun _ _ _ h => h))
              replace HM3 := Lib.hid (map_kp HM3.out hk (fun h => h))
              replace KK3 := Lib.hid (kp_tell KK3.out hk)
              clear hk
              go_wp2_with fail
              refine (rewrites_site b _ _ _ HS3.out).mono ?_
              rintro e wc ⟨rfl, hk⟩
              replace HS3 := Lib.hid (HS3.out.kp hk (fun _ _ _ h => h))
              replace HM3 := Lib.hid (map_kp HM3.out hk (fun h => h))
              replace KK3 := Lib.hid (kp_tell KK3.out hk)
              clear hk
              go_wp2_with fail
              refine (hits_site b _ _ _ HS3.out).mono ?_
              rintro e wc ⟨rfl, hk⟩
              replace HS3 := Lib.hid (HS3.out.kp hk (fun _ _ _ h => h))
              replace HM3 := Lib.hid (map_kp HM3.out hk (fun h => h))
              replace KK3 := Lib.hid (kp_tell KK3.out hk)
              clear hk
              go_wp2_with fail
              refine (state_site b _ _ _ HS3.out).mono ?_
              rintro e wc ⟨rfl, hk⟩
              replace HS3 := Lib.hid (HS3.out.kp hk (fun _ _ _ h => h))
              replace HM3 := Lib.hid (map_kp HM3.out hk (fun h => h))
              replace KK3 := Lib.hid (kp_tell KK3.out hk)
              clear hk
              go_wp2_with fail
              refine (len_site b _ _ _ HS3.out).mono ?_
              rintro e wc ⟨rfl, hk⟩
              replace HS3 := Lib.hid (HS3.out.kp hk (fun _ _ _ h => h))
              replace HM3 := Lib.hid (map_kp HM3.out hk (fun h => h))
              replace KK3 := Lib.hid (kp_tell KK3.out hk)
              clear hk
              have HI : InHits ways w b bm (j + 1) (.int .i64 L') (.int .i64 A') wc := ⟨L', A', s', F2, D', rfl, rfl, HS3.out, HF2.out, HM3.out, HD3.out, HK3.out, HWW.out, hr3, hh3, by omega, by omega, KK3.out⟩
              have HII := Lib.hid HI; clear HI
              go_wp2
              go_roundw
              case rel => exact ⟨j + 1, by go_num, by omega, HII.out⟩
              case measure => simp [intOf]; omega
          · have hst1 : s'.state = 1 := HONE.out.2 hl0
            have hlpos : 0 < s'.l.length := List.length_pos_iff.2 hl0
            by_cases hs2 : s.state = 2
            · exact absurd (HT.out hs2) (by omega)
            · have q2 : (s.state == 2) = false := by simpa using hs2
              go_wp2_with fail
              refine (len_site b _ _ _ HS3.out).mono ?_
              rintro e wc ⟨rfl, hk⟩
              replace HS3 := Lib.hid (HS3.out.kp hk (fun _ _ _ h => h))
              replace HM3 := Lib.hid (map_kp HM3.out hk (fun h => h))
              replace KK3 := Lib.hid (kp_tell KK3.out hk)
              clear hk
              go_wp2_with fail
              refine (deopts_site b _ _ _ HS3.out).mono ?_
              rintro e wc ⟨rfl, hk⟩
              replace HS3 := Lib.hid (HS3.out.kp hk (fun _ _ _ h => h))
              replace HM3 := Lib.hid (map_kp HM3.out hk (fun h => h))
              replace KK3 := Lib.hid (kp_tell KK3.out hk)
              clear hk
              go_wp2_with fail
              refine (rewrites_site b _ _ _ HS3.out).mono ?_
              rintro e wc ⟨rfl, hk⟩
              replace HS3 := Lib.hid (HS3.out.kp hk (fun _ _ _ h => h))
              replace HM3 := Lib.hid (map_kp HM3.out hk (fun h => h))
              replace KK3 := Lib.hid (kp_tell KK3.out hk)
              clear hk
              go_wp2_with fail
              refine (hits_site b _ _ _ HS3.out).mono ?_
              rintro e wc ⟨rfl, hk⟩
              replace HS3 := Lib.hid (HS3.out.kp hk (fun _ _ _ h => h))
              replace HM3 := Lib.hid (map_kp HM3.out hk (fun h => h))
              replace KK3 := Lib.hid (kp_tell KK3.out hk)
              clear hk
              go_wp2_with fail
              refine (state_site b _ _ _ HS3.out).mono ?_
              rintro e wc ⟨rfl, hk⟩
              replace HS3 := Lib.hid (HS3.out.kp hk (fun _ _ _ h => h))
              replace HM3 := Lib.hid (map_kp HM3.out hk (fun h => h))
              replace KK3 := Lib.hid (kp_tell KK3.out hk)
              clear hk
              go_wp2_with fail
              refine (len_site b _ _ _ HS3.out).mono ?_
              rintro e wc ⟨rfl, hk⟩
              replace HS3 := Lib.hid (HS3.out.kp hk (fun _ _ _ h => h))
              replace HM3 := Lib.hid (map_kp HM3.out hk (fun h => h))
              replace KK3 := Lib.hid (kp_tell KK3.out hk)
              clear hk
              have HI : InHits ways w b bm (j + 1) (.int .i64 L') (.int .i64 A') wc := ⟨L', A', s', F2, D', rfl, rfl, HS3.out, HF2.out, HM3.out, HD3.out, HK3.out, HWW.out, hr3, hh3, by omega, by omega, KK3.out⟩
              have HII := Lib.hid HI; clear HI
              go_wp2
              go_roundw
              case rel => exact ⟨j + 1, by go_num, by omega, HII.out⟩
              case measure => simp [intOf]; omega
        by_cases hw0 : 0 < ways
        · have hlen : (s'.l.length : Int) ≤ ways := by omega
          have hw9 : ways ≤ 8 := by omega
          clear hcl hw8
          by_cases hl0 : s'.l = []
          · skip
            have hst1 : (s'.state == 1) = false := by simpa using (fun e => HONE.out.1 e hl0)
            by_cases hs2 : s.state = 2
            · have hs2' := HT.out hs2
              go_wp2_with fail
              refine (len_site b _ _ _ HS3.out).mono ?_
              rintro e wc ⟨rfl, hk⟩
              replace HS3 := Lib.hid (HS3.out.kp hk (fun _ _ _ h => h))
              replace HM3 := Lib.hid (map_kp HM3.out hk (fun h => h))
              replace KK3 := Lib.hid (kp_tell KK3.out hk)
              clear hk
              go_wp2_with fail
              refine (deopts_site b _ _ _ HS3.out).mono ?_
              rintro e wc ⟨rfl, hk⟩
              replace HS3 := Lib.hid (HS3.out.kp hk (fun _ _ _ h => h))
              replace HM3 := Lib.hid (map_kp HM3.out hk (fun h => h))
              replace KK3 := Lib.hid (kp_tell KK3.out hk)
              clear hk
              go_wp2_with fail
              refine (rewrites_site b _ _ _ HS3.out).mono ?_
              rintro e wc ⟨rfl, hk⟩
              replace HS3 := Lib.hid (HS3.out.kp hk (fun _ _ _ h => h))
              replace HM3 := Lib.hid (map_kp HM3.out hk (fun h => h))
              replace KK3 := Lib.hid (kp_tell KK3.out hk)
              clear hk
              go_wp2_with fail
              refine (hits_site b _ _ _ HS3.out).mono ?_
              rintro e wc ⟨rfl, hk⟩
              replace HS3 := Lib.hid (HS3.out.kp hk (fun _ _ _ h => h))
              replace HM3 := Lib.hid (map_kp HM3.out hk (fun h => h))
              replace KK3 := Lib.hid (kp_tell KK3.out hk)
              clear hk
              go_wp2_with fail
              refine (state_site b _ _ _ HS3.out).mono ?_
              rintro e wc ⟨rfl, hk⟩
              replace HS3 := Lib.hid (HS3.out.kp hk (fun _ _ _ h => h))
              replace HM3 := Lib.hid (map_kp HM3.out hk (fun h => h))
              replace KK3 := Lib.hid (kp_tell KK3.out hk)
              clear hk
              go_wp2_with fail
              refine (state_site b _ _ _ HS3.out).mono ?_
              rintro e wc ⟨rfl, hk⟩
              replace HS3 := Lib.hid (HS3.out.kp hk (fun _ _ _ h => h))
              replace HM3 := Lib.hid (map_kp HM3.out hk (fun h => h))
              replace KK3 := Lib.hid (kp_tell KK3.out hk)
              clear hk
              go_wp2_with fail
              refine (len_site b _ _ _ HS3.out).mono ?_
              rintro e wc ⟨rfl, hk⟩
              replace HS3 := Lib.hid (HS3.out.kp hk (fun _ _ _ h => h))
              replace HM3 := Lib.hid (map_kp HM3.out hk (fun h => h))
              replace KK3 := Lib.hid (kp_tell KK3.out hk)
              clear hk
              have HI : InHits ways w b bm (j + 1) (.int .i64 L') (.int .i64 A') wc := ⟨L', A', s', F2, D', rfl, rfl, HS3.out, HF2.out, HM3.out, HD3.out, HK3.out, HWW.out, hr3, hh3, by omega, by omega, KK3.out⟩
              have HII := Lib.hid HI; clear HI
              go_wp2
              go_roundw
              case rel => exact ⟨j + 1, by go_num, by omega, HII.out⟩
              case measure => simp [intOf]; omega
            · have q2 : (s.state == 2) = false := by simpa using hs2
              go_wp2_with fail
              refine (len_site b _ _ _ HS3.out).mono ?_
              rintro e wc ⟨rfl, hk⟩
              replace HS3 := Lib.hid (HS3.out.kp hk (fun _ _ _ h => h))
              replace HM3 := Lib.hid (map_kp HM3.out hk (fun h => h))
              replace KK3 := Lib.hid (kp_tell KK3.out hk)
              clear hk
              go_wp2_with fail
              refine (deopts_site b _ _ _ HS3.out).mono ?_
              rintro e wc ⟨rfl, hk⟩
              replace HS3 := Lib.hid (HS3.out.kp hk (fun _ _ _ h => h))
              replace HM3 := Lib.hid (map_kp HM3.out hk (fun h => h))
              replace KK3 := Lib.hid (kp_tell KK3.out hk)
              clear hk
              go_wp2_with fail
              refine (rewrites_site b _ _ _ HS3.out).mono ?_
              rintro e wc ⟨rfl, hk⟩
              replace HS3 := Lib.hid (HS3.out.kp hk (fun _ _ _ h => h))
              replace HM3 := Lib.hid (map_kp HM3.out hk (fun h => h))
              replace KK3 := Lib.hid (kp_tell KK3.out hk)
              clear hk
              go_wp2_with fail
              refine (hits_site b _ _ _ HS3.out).mono ?_
              rintro e wc ⟨rfl, hk⟩
              replace HS3 := Lib.hid (HS3.out.kp hk (fun _ _ _ h => h))
              replace HM3 := Lib.hid (map_kp HM3.out hk (fun h => h))
              replace KK3 := Lib.hid (kp_tell KK3.out hk)
              clear hk
              go_wp2_with fail
              refine (state_site b _ _ _ HS3.out).mono ?_
              rintro e wc ⟨rfl, hk⟩
              replace HS3 := Lib.hid (HS3.out.kp hk (fun _ _ _ h => h))
              replace HM3 := Lib.hid (map_kp HM3.out hk (fun h => h))
              replace KK3 := Lib.hid (kp_tell KK3.out hk)
              clear hk
              go_wp2_with fail
              refine (len_site b _ _ _ HS3.out).mono ?_
              rintro e wc ⟨rfl, hk⟩
              replace HS3 := Lib.hid (HS3.out.kp hk (fun _ _ _ h => h))
              replace HM3 := Lib.hid (map_kp HM3.out hk (fun h => h))
              replace KK3 := Lib.hid (kp_tell KK3.out hk)
              clear hk
              have HI : InHits ways w b bm (j + 1) (.int .i64 L') (.int .i64 A') wc := ⟨L', A', s', F2, D', rfl, rfl, HS3.out, HF2.out, HM3.out, HD3.out, HK3.out, HWW.out, hr3, hh3, by omega, by omega, KK3.out⟩
              have HII := Lib.hid HI; clear HI
              go_wp2
              go_roundw
              case rel => exact ⟨j + 1, by go_num, by omega, HII.out⟩
              case measure => simp [intOf]; omega
          · have hst1 : s'.state = 1 := HONE.out.2 hl0
            have hlpos : 0 < s'.l.length := List.length_pos_iff.2 hl0
            by_cases hs2 : s.state = 2
            · exact absurd (HT.out hs2) (by omega)
            · have q2 : (s.state == 2) = false := by simpa using hs2
              go_wp2_with fail
              refine (len_site b _ _ _ HS3.out).mono ?_
              rintro e wc ⟨rfl, hk⟩
              replace HS3 := Lib.hid (HS3.out.kp hk (fun _ _ _ h => h))
              replace HM3 := Lib.hid (map_kp HM3.out hk (fun h => h))
              replace KK3 := Lib.hid (kp_tell KK3.out hk)
              clear hk
              go_wp2_with fail
              refine (deopts_site b _ _ _ HS3.out).mono ?_
              rintro e wc ⟨rfl, hk⟩
              replace HS3 := Lib.hid (HS3.out.kp hk (fun _ _ _ h => h))
              replace HM3 := Lib.hid (map_kp HM3.out hk (fun h => h))
              replace KK3 := Lib.hid (kp_tell KK3.out hk)
              clear hk
              go_wp2_with fail
              refine (rewrites_site b _ _ _ HS3.out).mono ?_
              rintro e wc ⟨rfl, hk⟩
              replace HS3 := Lib.hid (HS3.out.kp hk (fun _ _ _ h => h))
              replace HM3 := Lib.hid (map_kp HM3.out hk (fun h => h))
              replace KK3 := Lib.hid (kp_tell KK3.out hk)
              clear hk
              go_wp2_with fail
              refine (hits_site b _ _ _ HS3.out).mono ?_
              rintro e wc ⟨rfl, hk⟩
              replace HS3 := Lib.hid (HS3.out.kp hk (fun _ _ _ h => h))
              replace HM3 := Lib.hid (map_kp HM3.out hk (fun h => h))
              replace KK3 := Lib.hid (kp_tell KK3.out hk)
              clear hk
              go_wp2_with fail
              refine (state_site b _ _ _ HS3.out).mono ?_
              rintro e wc ⟨rfl, hk⟩
              replace HS3 := Lib.hid (HS3.out.kp hk (fun _ _ _ h => h))
              replace HM3 := Lib.hid (map_kp HM3.out hk (fun h => h))
              replace KK3 := Lib.hid (kp_tell KK3.out hk)
              clear hk
              go_wp2_with fail
              refine (len_site b _ _ _ HS3.out).mono ?_
              rintro e wc ⟨rfl, hk⟩
              replace HS3 := Lib.hid (HS3.out.kp hk (fun _ _ _ h => h))
              replace HM3 := Lib.hid (map_kp HM3.out hk (fun h => h))
              replace KK3 := Lib.hid (kp_tell KK3.out hk)
              clear hk
              have HI : InHits ways w b bm (j + 1) (.int .i64 L') (.int .i64 A') wc := ⟨L', A', s', F2, D', rfl, rfl, HS3.out, HF2.out, HM3.out, HD3.out, HK3.out, HWW.out, hr3, hh3, by omega, by omega, KK3.out⟩
              have HII := Lib.hid HI; clear HI
              go_wp2
              go_roundw
              case rel => exact ⟨j + 1, by go_num, by omega, HII.out⟩
              case measure => simp [intOf]; omega
        · have hl00 : s'.l = [] := List.eq_nil_of_length_eq_zero (by omega)
          have hw9 : ways ≤ 8 := by omega
          have hw1 : ways ≤ 0 := by omega
          clear hcl hw8 hw0
          have hl0 := hl00
          clear hl00
          have hst1 : (s'.state == 1) = false := by simpa using (fun e => HONE.out.1 e hl0)
          by_cases hs2 : s.state = 2
          · have hs2' := HT.out hs2
            go_wp2_with fail
            refine (len_site b _ _ _ HS3.out).mono ?_
            rintro e wc ⟨rfl, hk⟩
            replace HS3 := Lib.hid (HS3.out.kp hk (fun _ _ _ h => h))
            replace HM3 := Lib.hid (map_kp HM3.out hk (fun h => h))
            replace KK3 := Lib.hid (kp_tell KK3.out hk)
            clear hk
            go_wp2_with fail
            refine (deopts_site b _ _ _ HS3.out).mono ?_
            rintro e wc ⟨rfl, hk⟩
            replace HS3 := Lib.hid (HS3.out.kp hk (fun _ _ _ h => h))
            replace HM3 := Lib.hid (map_kp HM3.out hk (fun h => h))
            replace KK3 := Lib.hid (kp_tell KK3.out hk)
            clear hk
            go_wp2_with fail
            refine (rewrites_site b _ _ _ HS3.out).mono ?_
            rintro e wc ⟨rfl, hk⟩
            replace HS3 := Lib.hid (HS3.out.kp hk (fun _ _ _ h => h))
            replace HM3 := Lib.hid (map_kp HM3.out hk (fun h => h))
            replace KK3 := Lib.hid (kp_tell KK3.out hk)
            clear hk
            go_wp2_with fail
            refine (hits_site b _ _ _ HS3.out).mono ?_
            rintro e wc ⟨rfl, hk⟩
            replace HS3 := Lib.hid (HS3.out.kp hk (fun _ _ _ h => h))
            replace HM3 := Lib.hid (map_kp HM3.out hk (fun h => h))
            replace KK3 := Lib.hid (kp_tell KK3.out hk)
            clear hk
            go_wp2_with fail
            refine (state_site b _ _ _ HS3.out).mono ?_
            rintro e wc ⟨rfl, hk⟩
            replace HS3 := Lib.hid (HS3.out.kp hk (fun _ _ _ h => h))
            replace HM3 := Lib.hid (map_kp HM3.out hk (fun h => h))
            replace KK3 := Lib.hid (kp_tell KK3.out hk)
            clear hk
            go_wp2_with fail
            refine (state_site b _ _ _ HS3.out).mono ?_
            rintro e wc ⟨rfl, hk⟩
            replace HS3 := Lib.hid (HS3.out.kp hk (fun _ _ _ h => h))
            replace HM3 := Lib.hid (map_kp HM3.out hk (fun h => h))
            replace KK3 := Lib.hid (kp_tell KK3.out hk)
            clear hk
            go_wp2_with fail
            refine (len_site b _ _ _ HS3.out).mono ?_
            rintro e wc ⟨rfl, hk⟩
            replace HS3 := Lib.hid (HS3.out.kp hk (fun _ _ _ h => h))
            replace HM3 := Lib.hid (map_kp HM3.out hk (fun h => h))
            replace KK3 := Lib.hid (kp_tell KK3.out hk)
            clear hk
            have HI : InHits ways w b bm (j + 1) (.int .i64 L') (.int .i64 A') wc := ⟨L', A', s', F2, D', rfl, rfl, HS3.out, HF2.out, HM3.out, HD3.out, HK3.out, HWW.out, hr3, hh3, by omega, by omega, KK3.out⟩
            have HII := Lib.hid HI; clear HI
            go_wp2
            go_roundw
            case rel => exact ⟨j + 1, by go_num, by omega, HII.out⟩
            case measure => simp [intOf]; omega
          · have q2 : (s.state == 2) = false := by simpa using hs2
            go_wp2_with fail
            refine (len_site b _ _ _ HS3.out).mono ?_
            rintro e wc ⟨rfl, hk⟩
            replace HS3 := Lib.hid (HS3.out.kp hk (fun _ _ _ h => h))
            replace HM3 := Lib.hid (map_kp HM3.out hk (fun h => h))
            replace KK3 := Lib.hid (kp_tell KK3.out hk)
            clear hk
            go_wp2_with fail
            refine (deopts_site b _ _ _ HS3.out).mono ?_
            rintro e wc ⟨rfl, hk⟩
            replace HS3 := Lib.hid (HS3.out.kp hk (fun _ _ _ h => h))
            replace HM3 := Lib.hid (map_kp HM3.out hk (fun h => h))
            replace KK3 := Lib.hid (kp_tell KK3.out hk)
            clear hk
            go_wp2_with fail
            refine (rewrites_site b _ _ _ HS3.out).mono ?_
            rintro e wc ⟨rfl, hk⟩
            replace HS3 := Lib.hid (HS3.out.kp hk (fun _ _ _ h => h))
            replace HM3 := Lib.hid (map_kp HM3.out hk (fun h => h))
            replace KK3 := Lib.hid (kp_tell KK3.out hk)
            clear hk
            go_wp2_with fail
            refine (hits_site b _ _ _ HS3.out).mono ?_
            rintro e wc ⟨rfl, hk⟩
            replace HS3 := Lib.hid (HS3.out.kp hk (fun _ _ _ h => h))
            replace HM3 := Lib.hid (map_kp HM3.out hk (fun h => h))
            replace KK3 := Lib.hid (kp_tell KK3.out hk)
            clear hk
            go_wp2_with fail
            refine (state_site b _ _ _ HS3.out).mono ?_
            rintro e wc ⟨rfl, hk⟩
            replace HS3 := Lib.hid (HS3.out.kp hk (fun _ _ _ h => h))
            replace HM3 := Lib.hid (map_kp HM3.out hk (fun h => h))
            replace KK3 := Lib.hid (kp_tell KK3.out hk)
            clear hk
            go_wp2_with fail
            refine (len_site b _ _ _ HS3.out).mono ?_
            rintro e wc ⟨rfl, hk⟩
            replace HS3 := Lib.hid (HS3.out.kp hk (fun _ _ _ h => h))
            replace HM3 := Lib.hid (map_kp HM3.out hk (fun h => h))
            replace KK3 := Lib.hid (kp_tell KK3.out hk)
            clear hk
            have HI : InHits ways w b bm (j + 1) (.int .i64 L') (.int .i64 A') wc := ⟨L', A', s', F2, D', rfl, rfl, HS3.out, HF2.out, HM3.out, HD3.out, HK3.out, HWW.out, hr3, hh3, by omega, by omega, KK3.out⟩
            have HII := Lib.hid HI; clear HI
            go_wp2
            go_roundw
            case rel => exact ⟨j + 1, by go_num, by omega, HII.out⟩
            case measure => simp [intOf]; omega
    · go_wp2
      go_returns
      exact ⟨rfl, kk.below (Nat.le_refl _) (fun _ h => by omega)⟩
end Go.Proofs.Ytcdofhfneiednaa
