/- selkielaw20.CoroStands: the walk. -/
import Derived.Test.YtbmbfgcdbpanjaaCrM
import Derived.Deep.DeepCutAuto
import Derived.Deep.LoopGhost
namespace Go.Proofs.Ytbmbfgcdbpanjaa
set_option linter.unusedSimpArgs false
set_option linter.unusedVariables false
open Go.RowKit

theorem code3 {B : Bk} {i : Nat} : B.code i = 3 ↔ i < B.ended.length ∧ B.ended.getD i false = true := by
  unfold Bk.code
  constructor
  · intro h
    split at h
    · omega
    · split at h
      · rename_i h0 h1
        rw [Int.toNat_natCast] at h1
        exact ⟨by omega, h1⟩
      · split at h
        · omega
        · split at h <;> omega
  · rintro ⟨h, h1⟩
    rw [if_neg (by omega), Int.toNat_natCast, if_pos h1]
theorem set_true {l : List Bool} {i n : Nat} (h : i < l.length) (h1 : l.getD i false = true) : (l.set n true).getD i false = true := by
  simp only [List.getD_eq_getElem?_getD] at h1 ⊢
  rw [List.getElem?_set]
  split
  · split <;> simp_all
  · exact h1
theorem dead_stays {B : Bk} {o : Cop} {i : Nat} (h : B.code i = 3) : (B.act o).code i = 3 := by
  obtain ⟨hl, h1⟩ := code3.1 h
  apply code3.2
  have hg := (act_grows B o).2
  refine ⟨by rw [hg]; split <;> omega, ?_⟩
  unfold Bk.act Bk.create Bk.resume Bk.back Bk.finish Bk.close
  repeat' split
  all_goals first
    | exact h1
    | exact set_true hl h1
    | (simp only [List.getD_eq_getElem?_getD] at h1 ⊢; rw [List.getElem?_append_left hl]; exact h1)
theorem act_same {B : Bk} {o : Cop} (h : ¬ B.ansE o = 0) : B.act o = B := by
  unfold Bk.ansE at h
  unfold Bk.act
  split
  · rename_i h1
    rw [if_neg (by omega), if_neg (by omega), if_neg (by omega)] at h
    exact absurd rfl h
  split
  · rename_i h2
    rw [if_pos h2] at h
    unfold Bk.resume
    rw [if_neg (fun e => h (by rw [e]; rfl))]
  rename_i h1 h2
  rw [if_neg h2] at h
  have hb : ∀ p, o.k = 3 ∨ o.k = 4 → B.wait.length = 1 ∨ p := fun p hk => by
    rw [if_pos hk] at h
    unfold bkE at h
    by_cases e : B.wait.length = 1
    · exact .inl e
    · rw [if_neg e] at h; exact absurd rfl h
  split
  · rename_i h3
    have := (hb False (.inl h3)).resolve_right id
    unfold Bk.back; rw [if_pos this]
  split
  · rename_i h4
    have := (hb False (.inr h4)).resolve_right id
    unfold Bk.finish; rw [if_pos this]
  split
  · rename_i h3 h4 h5
    rw [if_neg (by omega), if_pos h5] at h
    unfold Bk.close
    rw [if_neg (fun e => h (by rw [e]; rfl))]
  · rfl
theorem code_in {B : Bk} {n : Nat} (h : n < B.ended.length) : B.code n = 0 ∨ B.code n = 1 ∨ B.code n = 2 ∨ B.code n = 3 := by
  unfold Bk.code
  rw [if_neg (by omega)]
  repeat' split
  all_goals simp

/-- What the loop keeps. -/
def InStands (w : World) (b nb pb j : Nat) (wr : World) : Prop :=
  ∃ (B : Bk) (F : Nat → Prop), Book wr b B F ∧ (∀ k, F k → w.heap.size ≤ k ∧ k ≠ nb ∧ k ≠ pb) ∧ Blk wr nb 3 #[.int .i64 B.ended.length] ∧ Blk wr pb 23 #[.pointer (some ⟨b, 0, none⟩)] ∧ B.ended.length ≤ j + 1 ∧ B.wait.length ≤ j + 1 ∧ Kp (fun k => w.heap.size ≤ k) w wr

set_option maxRecDepth 100000 in
theorem standsl_many (sa : Option Addr) (len cap : Nat) (w : World) (hl : 500 < len) (hl2 : len ≤ 140737488351232) :
    Calls Try.prog 6 #[.slice sa len cap] w fun e w' => e = .returned (.bool true) ∧ Below w.heap.size w w' := by
  go_enter Try.func6, Try.ntmps6
  go_wp2_with fail
  refine (alive_any _).mono ?_
  rintro e w1 ⟨rfl, hk⟩
  go_wp2
  go_returns
  exact ⟨rfl, hk⟩
set_option maxRecDepth 100000 in
set_option maxHeartbeats 4000000 in
theorem standsl_any (sa : Option Addr) (len cap : Nat) (w : World) (hl : len ≤ 500) (ho : len ≤ 0 ∨ ∃ ob off os, sa = some ⟨ob, off, none⟩ ∧ Cops w ob off len os) :
    Calls Try.prog 6 #[.slice sa len cap] w fun e w' => e = .returned (.bool true) ∧ Below w.heap.size w w' := by
  have HO := Lib.hid ho; clear ho
  have hP : ∀ k, w.heap.size ≤ k → w.heap.size ≤ k := fun _ h => h
  have hmf : ∀ (fn : Fn) (first cap : Array Value) (w : World), (Instr.makeFunc fn first cap).run Try.prog w = .ok (.func fn first cap) w := fun _ _ _ _ => rfl
  go_enter Try.func6, Try.ntmps6
  go_wp2_with fail
  refine (alive_any _).mono ?_
  rintro e w1 ⟨rfl, hk⟩
  have kk : Kp (fun k => w.heap.size ≤ k) w w1 := Kp.of_below hk
  replace hP := le_of_kp kk hP
  clear hk
  go_wp2_with fail
  refine (new_own hP).mono ?_
  rintro e w2 ⟨b, rfl, ⟨F0, hB0, hF0⟩, hk⟩
  replace kk := kk.trans hk
  have hsz := kk.size
  clear hk hP
  have hI : InStands w b (w2.heap.size + 1) w2.heap.size 0 ((w2.alloc (.cells #[.pointer (some ⟨b, 0, none⟩)] 23)).alloc (.cells #[.int .i64 1] 3)) :=
    ⟨⟨[0], [false]⟩, _, hB0.old.kp (((Kp.refl (fun _ => False) _).alloc _).alloc _) (fun _ _ _ h => h), fun k hk => ⟨hF0 k hk.1, by have := hk.2; omega, by have := hk.2; omega⟩, Blk.new (by simp), (Blk.new rfl).alloc _, by simp, by simp, (kk.alloc _).alloc _⟩
  clear hB0 hF0 kk
  go_wp2_with fail
  generalize hnb : w2.heap.size + 1 = nb at *
  generalize hpb : w2.heap.size = pb at *
  have HNB := Lib.hid hnb; have HPB := Lib.hid hpb; clear hnb hpb
  have hnp : ¬ nb = pb := by have := HNB.out; omega
  have hsn : w.heap.size ≤ nb := by have := HNB.out; omega
  go_loopw [23] (fun iv wr => ∃ j : Nat, iv = .int .i64 j ∧ j ≤ len ∧ InStands w b nb pb j wr) (fun iv _ => len - (intOf iv).toNat)
  case atStart => exact ⟨0, rfl, by omega, hI⟩
  case round =>
    clear hI
    obtain ⟨j, rfl, hj, B, F, hB, hF, hN, hQ, he, hw, kk⟩ := hrel
    by_cases hlt : (j : Int) < len
    · obtain ⟨ob, off, os, rfl, ho⟩ := HO.out.resolve_left (by omega)
      replace ho := ho.kp kk (by have := ho.lt; omega)
      have c0 := ho.k j (by omega)
      have c1 := ho.a j (by omega)
      have hol := ho.lt
      clear ho
      generalize os j = o at *
      obtain ⟨ok, oa⟩ := o
      dsimp only at c0 c1
      have HB := Lib.hid hB; have HF := Lib.hid hF; have KK := Lib.hid kk; have HN := Lib.hid hN; have HQ := Lib.hid hQ
      have hnl := hN.lt; have hpl := hQ.lt
      clear hB hF kk hN hQ
      go_wp2_with fail
      have hsr := KK.out.size
      have k0 : Kp (fun _ => False) wr (wr.alloc (.cells #[.int .i64 ok, .int .i64 oa] 34)) := (Kp.refl _ _).alloc _
      have X0 : Blk (wr.alloc (.cells #[.int .i64 ok, .int .i64 oa] 34)) wr.heap.size 34 #[.int .i64 ok, .int .i64 oa] := Blk.new rfl
      refine (stands_any b nb pb B F _ (HB.out.kp k0 (fun _ _ _ h => h)) ((Blk.kp HN.out k0 (fun h => h)).cell 0 _ rfl) ((Blk.kp HQ.out k0 (fun h => h)).cell 0 _ rfl) (by simp; omega) (by simp; omega)).mono ?_
      rintro e wa ⟨v1, rfl, hr1, hn1, hka⟩
      replace k0 := k0.trans hka
      replace X0 := Blk.kp X0 hka (fun h => h)
      have hsa := hka.size
      clear hka
      have q0 := (Blk.kp HQ.out k0 (fun h => h)).cell 0 _ rfl
      have x0 := X0.cell 0 (.int .i64 ok) rfl
      have x1 := X0.cell 1 (.int .i64 oa) rfl
      have hxl := X0.lt
      have hn1' : ∀ k, v1.ownBlock = some k → wr.heap.size < k := fun k hk => by have := hn1 k hk; simp at this; omega
      have HX := Lib.hid X0; have K0 := Lib.hid k0; have HR1 := Lib.hid hr1; have HN1 := Lib.hid hn1'
      clear X0 k0 c0 c1 hr1 hn1 hn1'
      go_wp2_with fail
      refine (do_book b B ⟨ok, oa⟩ (fun k => F k ∧ k < wr.heap.size) _ (HB.out.old.kp K0.out (fun _ _ _ h => h)) (by omega) (by omega)).mono ?_
      rintro e wb ⟨he', F', hs', hkb, hF'⟩
      unfold Bk.ans at he'
      obtain rfl := he'
      have hxB := Blk.kp HX.out hkb (fun h => by have := h.2; omega)
      have hsz' := hkb.size
      have kB := (KK.out.trans (K0.out.mono (fun _ _ h => h.elim))).trans (hkb.mono (fun k _ h => (HF.out k h.1).1))
      have hg := act_grows B ⟨ok, oa⟩
      have hsB := hs'.old
      have hFB : ∀ k, F' k ∧ k < wb.heap.size → w.heap.size ≤ k ∧ k ≠ nb ∧ k ≠ pb := fun k hk => (hF' k hk.1).elim (fun h => HF.out k h.1) (fun h => ⟨by omega, by omega, by omega⟩)
      have hNB := Blk.kp (Blk.kp HN.out K0.out (fun h => h)) hkb (fun h => (HF.out _ h.1).2.1 rfl)
      have hQB := Blk.kp (Blk.kp HQ.out K0.out (fun h => h)) hkb (fun h => (HF.out _ h.1).2.2 rfl)
      have hR1B := row_kp HR1.out hkb (fun k hk h => by have := HN1.out k hk; have := h.2; omega)
      have hlw : (B.act ⟨ok, oa⟩).wait.length ≤ j + 1 + 1 ∧ (B.act ⟨ok, oa⟩).ended.length ≤ j + 1 + 1 := by
        have h2 := hg.2
        split at h2 <;> omega
      have hBpos := HB.out.ok.lpos
      have hE1 := act_same (B := B) (o := ⟨ok, oa⟩)
      have hD1 := fun i => dead_stays (B := B) (o := ⟨ok, oa⟩) (i := i)
      have x0 := hxB.cell 0 (.int .i64 ok) rfl
      have n0 := hNB.cell 0 (.int .i64 B.ended.length) rfl
      have nf := hNB.free
      have hnl' := hNB.lt
      have hxl' := hxB.lt
      generalize hF2 : (fun k => F' k ∧ k < wb.heap.size) = F2 at *
      have hFB' : ∀ k, F2 k → w.heap.size ≤ k ∧ k ≠ nb ∧ k ≠ pb := fun k hk => hFB k (by rw [← hF2] at hk; exact hk)
      have HFB := Lib.hid hFB'; have HNB2 := Lib.hid hNB; have HQB := Lib.hid hQB; have HR1B := Lib.hid hR1B; have HBB := Lib.hid hsB; have KB := Lib.hid kB; have HG := Lib.hid hg.2
      have HE1 := Lib.hid hE1; have HD1 := Lib.hid hD1
      clear hFB hFB' hNB hQB hR1B hsB kB hs' hkb hF' HB HF KK HN HQ hF2 hg hE1 hD1 HX K0 HR1 hxB
      generalize hE0 : B.ansE ⟨ok, oa⟩ = E0 at *
      generalize hN0 : B.ansN ⟨ok, oa⟩ = N0 at *
      generalize hS0 : B.ansS ⟨ok, oa⟩ = S0 at *
      go_upto_if 34 with fail
      go_cut [] (fun wx => Blk wx nb 3 #[.int .i64 (B.act ⟨ok, oa⟩).ended.length] ∧ Blk wx pb 23 #[.pointer (some ⟨b, 0, none⟩)] ∧ Book wx b (B.act ⟨ok, oa⟩) F2 ∧ wx.ownsRow 0 9 1 v1 B.ended.length (stats B B.ended.length) ∧ Blk wx wb.heap.size 36 #[.int .i64 N0, .int .i64 E0, .string S0] ∧ Kp (fun k => w.heap.size ≤ k) w wx)
      case first =>
        by_cases e1 : ok = 1
        · subst e1
          have hn : N0 = B.ended.length := by rw [← hN0]; rfl
          have hen : (B.act ⟨1, oa⟩).ended.length = B.ended.length + 1 := by have := HG.out; simpa using this
          subst hn
          have HEN := Lib.hid hen
          clear hen hN0 hE0 hS0
          go_wp2
          go_meet
          case rel =>
            have k1 := (kp_set wb nb 0 (.int .i64 (B.ended.length + 1))).alloc (.cells #[.int .i64 B.ended.length, .int .i64 E0, .string S0] 36)
            refine ⟨?_, Blk.kp HQB.out k1 (fun (e : pb = nb) => hnp e.symm), HBB.out.kp k1 (fun k _ h e => (HFB.out k h).2.1 e), row_kp HR1B.out k1 (fun k hk e => ?_), ?_, KB.out.trans' k1 (fun k _ h => by have : k = nb := h; omega)⟩
            · rw [HEN.out]
              exact (Blk.set HNB2.out 0 _).alloc _
            · exact row_ne HR1B.out HNB2.out (by decide) (e ▸ hk)
            · exact Blk.new (by simp)
        · have q1 : (ok == 1) = false := by simpa using e1
          have hen : (B.act ⟨ok, oa⟩).ended.length = B.ended.length := by have := HG.out; simpa [e1] using this
          have HEN := Lib.hid hen
          clear hen hN0 hE0 hS0 e1
          go_wp2
          go_meet
          case rel =>
            have k1 := ((Kp.refl (fun _ => False) wb).alloc (.cells #[.int .i64 N0, .int .i64 E0, .string S0] 36))
            exact ⟨by rw [HEN.out]; exact Blk.kp HNB2.out k1 (fun h => h), Blk.kp HQB.out k1 (fun h => h), HBB.out.kp k1 (fun _ _ _ h => h), row_kp HR1B.out k1 (fun _ _ h => h), Blk.new rfl, KB.out.alloc _⟩
      case rest =>
        obtain ⟨hNC, hQC, hBC, hRC, hYC, kC⟩ := hcut
        generalize hact : B.act ⟨ok, oa⟩ = B' at *
        have hlen : B.ended.length ≤ B'.ended.length := by have := HG.out; split at this <;> omega
        have cn := hNC.cell 0 (.int .i64 B'.ended.length) rfl
        have cq := hQC.cell 0 (.pointer (some ⟨b, 0, none⟩)) rfl
        have hnl2 := hNC.lt; have hpl2 := hQC.lt
        have HNC := Lib.hid hNC; have HQC := Lib.hid hQC; have HBC := Lib.hid hBC; have HRC := Lib.hid hRC; have HYC := Lib.hid hYC; have KC := Lib.hid kC
        clear hNC hQC hBC hRC hYC kC HNB2 HQB HR1B HBB KB x0 n0 nf x1 q0 hN0 hE0 hS0
        go_wp2_with fail
        refine (stands_any b nb pb B' F2 _ HBC.out cn cq hnl2 hpl2).mono ?_
        rintro e wd ⟨v2, rfl, hr2, hn2, hkd⟩
        clear cn cq
        obtain ⟨g2, c2, rfl⟩ := row_some hr2 HBC.out.ok.lpos
        obtain ⟨g1, c1, rfl⟩ := row_some HRC.out hBpos
        have kd := hkd
        have HR2 := Lib.hid hr2; have HR1 := Lib.hid (row_kp HRC.out kd (fun _ _ h => h)); have HBD := Lib.hid (HBC.out.kp kd (fun _ _ _ h => h))
        have HND := Lib.hid (Blk.kp HNC.out kd (fun h => h)); have HQD := Lib.hid (Blk.kp HQC.out kd (fun h => h)); have HYD := Lib.hid (Blk.kp HYC.out kd (fun h => h)); have KD := Lib.hid (kp_tell KC.out kd)
        have HL := Lib.hid hlen
        have hg1 := (HR1.out.lt g1 rfl).2
        have hg2 := (HR2.out.lt g2 rfl).2
        have hyl := HYD.out.lt
        have hpl3 := HQD.out.lt
        have hsm := HBD.out.ok.small
        have hbp := HBD.out.ok.lpos
        clear hr2 hn2 hkd kd HNC HQC HBC HRC HYC KC hlen hnl2 hpl2
        go_wp2_with fail
        go_loopw [10, 11, 44] (fun rv nv iv wx => ∃ i : Nat, iv = .int .i64 i ∧ i ≤ B'.ended.length ∧ rv = .int .i64 (cnt B' 1 i) ∧ nv = .int .i64 (cnt B' 2 i) ∧ Kp (fun _ => False) wd wx) (fun _ _ iv _ => B'.ended.length - (intOf iv).toNat)
        case atStart => exact ⟨0, rfl, by omega, rfl, rfl, Kp.refl _ _⟩
        case round =>
          obtain ⟨i, rfl, hi, rfl, rfl, kx⟩ := hrel
          have hc1 := cnt_le B' 1 i
          have hc2 := cnt_le B' 2 i
          by_cases hlt2 : (i : Int) < B'.ended.length
          · have hib : i < B'.ended.length := by omega
            have d2 := (kx.cell (p := ⟨g2, i, none⟩) hg2 (fun h => h)).trans ((World.ownsRow.cellAt HR2.out i (by omega)).trans (stats_at B' _ i hib))
            have dq := (kx.cell (p := ⟨pb, 0, none⟩) hpl3 (fun h => h)).trans (HQD.out.cell 0 _ rfl)
            have KX := Lib.hid kx
            have hs1 := cnt_succ B' 1 i
            have hs2 := cnt_succ B' 2 i
            have HS1 := Lib.hid hs1; have HS2 := Lib.hid hs2
            clear kx hs1 hs2
            generalize cnt B' 1 i = r1 at *
            generalize cnt B' 2 i = r2 at *
            go_upto_region 21 with fail
            generalize hSS : word (B'.code i) = S at *
            have HSS := Lib.hid hSS; clear hSS
            iterate 7 (first | go_step | go_values | go_upon | go_back | go_simp)
            go_cut [10, 11] (fun rv nv wx => rv = .int .i64 (cnt B' 1 (i + 1)) ∧ nv = .int .i64 (cnt B' 2 (i + 1)) ∧ Kp (fun _ => False) wd wx)
            case first =>
              rcases code_in hib with hc | hc | hc | hc
              · obtain rfl : S = ⟨#[115, 117, 115, 112, 101, 110, 100, 101, 100]⟩ := by rw [← HSS.out, hc]; rfl
                have h1 := HS1.out; have h2 := HS2.out
                rw [hc] at h1 h2
                simp at h1 h2
                have H1 := Lib.hid h1; have H2 := Lib.hid h2
                clear h1 h2 hc
                go_wp2
                go_meet
                case rel => exact ⟨by first | (rw [H1.out]; done) | (rw [H1.out]; simp), by first | (rw [H2.out]; done) | (rw [H2.out]; simp), KX.out⟩
              · obtain rfl : S = ⟨#[114, 117, 110, 110, 105, 110, 103]⟩ := by rw [← HSS.out, hc]; rfl
                have hrun := ((code_run HBD.out.ok hib).1 hc).symm
                have h1 := HS1.out; have h2 := HS2.out
                rw [hc] at h1 h2
                simp at h1 h2
                have H1 := Lib.hid h1; have H2 := Lib.hid h2; have HR := Lib.hid hrun
                clear h1 h2 hc hrun
                go_wp2_with fail
                refine (running_book b B' F2 _ (HBD.out.kp KX.out (fun _ _ _ h => h))).mono ?_
                rw [HR.out]
                rintro e we ⟨rfl, hke⟩
                have KX2 := Lib.hid (KX.out.trans hke)
                clear hke
                go_wp2
                go_meet
                case rel => exact ⟨by rw [H1.out]; simp, by rw [H2.out], KX2.out⟩
              · obtain rfl : S = ⟨#[110, 111, 114, 109, 97, 108]⟩ := by rw [← HSS.out, hc]; rfl
                have h1 := HS1.out; have h2 := HS2.out
                rw [hc] at h1 h2
                simp at h1 h2
                have H1 := Lib.hid h1; have H2 := Lib.hid h2
                clear h1 h2 hc
                go_wp2
                go_meet
                case rel => exact ⟨by first | (rw [H1.out]; done) | (rw [H1.out]; simp), by first | (rw [H2.out]; done) | (rw [H2.out]; simp), KX.out⟩
              · obtain rfl : S = ⟨#[100, 101, 97, 100]⟩ := by rw [← HSS.out, hc]; rfl
                have h1 := HS1.out; have h2 := HS2.out
                rw [hc] at h1 h2
                simp at h1 h2
                have H1 := Lib.hid h1; have H2 := Lib.hid h2
                clear h1 h2 hc
                go_wp2
                go_meet
                case rel => exact ⟨by first | (rw [H1.out]; done) | (rw [H1.out]; simp), by first | (rw [H2.out]; done) | (rw [H2.out]; simp), KX.out⟩
            case rest =>
              obtain ⟨rfl, rfl, ky⟩ := hcut
              have ye := (ky.cell (p := ⟨wb.heap.size, 1, none⟩) hyl (fun h => h)).trans (HYD.out.cell 1 _ rfl)
              have hyl2 := Nat.lt_of_lt_of_le hyl ky.size
              have KY := Lib.hid ky
              clear dq d2 HS1 HS2
              by_cases hio : (i : Int) < B.ended.length
              · have hio' : i < B.ended.length := by omega
                have d1 := (ky.cell (p := ⟨g1, i, none⟩) hg1 (fun h => h)).trans ((World.ownsRow.cellAt HR1.out i (by omega)).trans (stats_at B _ i hio'))
                have hg1' := Nat.lt_of_lt_of_le hg1 ky.size
                clear ky
                by_cases hc : B.code (i : Nat) = 3
                · have hc' : B'.code (i : Nat) = 3 := HD1.out i hc
                  obtain rfl : S = ⟨#[100, 101, 97, 100]⟩ := by rw [← HSS.out, hc']; rfl
                  rw [show word (B.code i) = ⟨#[100, 101, 97, 100]⟩ from by rw [hc]; rfl] at d1
                  clear hc hc'
                  by_cases e0 : E0 = 0
                  · subst e0
                    go_wp2
                    all_goals
                      go_roundw
                      case rel => exact ⟨i + 1, by go_num, by omega, rfl, rfl, KY.out⟩
                      case measure => simp [intOf]; omega
                  · skip
                    go_wp2
                    all_goals
                      go_roundw
                      case rel => exact ⟨i + 1, by go_num, by omega, rfl, rfl, KY.out⟩
                      case measure => simp [intOf]; omega
                · have hsn : ¬ (word (B.code (i : Nat))).toList = [100, 101, 97, 100] := by
                    rcases code_in hio' with h | h | h | h
                    · rw [h, ByteArray.toList_eq]; decide
                    · rw [h, ByteArray.toList_eq]; decide
                    · rw [h, ByteArray.toList_eq]; decide
                    · exact absurd h hc
                  by_cases e0 : E0 = 0
                  · subst e0
                    generalize word (B.code i) = T at *
                    clear hc
                    go_wp2
                    all_goals
                      go_roundw
                      case rel => exact ⟨i + 1, by go_num, by omega, rfl, rfl, KY.out⟩
                      case measure => simp [intOf]; omega
                  · have hBB := HE1.out e0
                    have hT : word (B.code i) = S := by rw [← HSS.out]; rw [← hBB]
                    rw [hT] at d1 hsn
                    clear hBB hT hc
                    go_wp2
                    all_goals
                      go_roundw
                      case rel => exact ⟨i + 1, by go_num, by omega, rfl, rfl, KY.out⟩
                      case measure => simp [intOf]; omega
              · clear ky
                go_wp2
                all_goals
                  go_roundw
                  case rel => exact ⟨i + 1, by go_num, by omega, rfl, rfl, KY.out⟩
                  case measure => simp [intOf]; omega
          · obtain rfl : i = B'.ended.length := by omega
            rw [cnt_run HBD.out.ok, cnt_wait HBD.out.ok]
            have hwp := HBD.out.ok.ne
            have dq := (kx.cell (p := ⟨pb, 0, none⟩) hpl3 (fun h => h)).trans (HQD.out.cell 0 _ rfl)
            have KX := Lib.hid kx
            clear hc1 hc2 kx
            go_wp2_with fail
            refine (deep_book b B' F2 _ (HBD.out.kp KX.out (fun _ _ _ h => h))).mono ?_
            rintro e we ⟨rfl, hke⟩
            have hk := KX.out.trans hke
            have HI : InStands w b nb pb (j + 1) we := ⟨B', F2, HBD.out.kp hk (fun _ _ _ h => h), HFB.out, Blk.kp HND.out hk (fun h => h), Blk.kp HQD.out hk (fun h => h), by omega, by omega, kp_tell KD.out hk⟩
            have HII := Lib.hid HI
            clear HI hk hke dq
            go_wp2
            go_roundw
            case rel => exact ⟨j + 1, by go_num, by omega, HII.out⟩
            case measure => simp [intOf]; omega
    · have dn := hN.cell 0 (.int .i64 B.ended.length) rfl
      have dq := hQ.cell 0 (.pointer (some ⟨b, 0, none⟩)) rfl
      have hcn : B.code B.ended.length = -1 := by unfold Bk.code; rw [if_pos (.inr (by omega))]
      have hcm : B.code (-1) = -1 := by unfold Bk.code; rw [if_pos (.inl (by omega))]
      have HB := Lib.hid hB; have KK := Lib.hid kk; have HCN := Lib.hid hcn; have HCM := Lib.hid hcm
      have HQ := Lib.hid hQ
      have hpl := hQ.lt
      clear hB kk hcn hcm hN hQ hF
      go_wp2_with fail
      refine (status_book b B F _ _ HB.out).mono ?_
      rw [show word (B.code B.ended.length) = ⟨#[]⟩ from by rw [HCN.out]; rfl]
      rintro e wa ⟨rfl, hka⟩
      have dq := (Blk.kp HQ.out hka (fun h => h)).cell 0 (.pointer (some ⟨b, 0, none⟩)) rfl
      have KA := Lib.hid hka; clear hka
      go_wp2_with fail
      refine (status_book b B F (-1) _ (HB.out.kp KA.out (fun _ _ _ h => h))).mono ?_
      rw [show word (B.code (-1)) = ⟨#[]⟩ from by rw [HCM.out]; rfl]
      rintro e wc ⟨rfl, hkc⟩
      have KC := Lib.hid (kp_tell (kp_tell KK.out KA.out) hkc); clear hkc
      go_wp2
      go_returns
      exact ⟨rfl, KC.out.below (Nat.le_refl _) (fun _ h => by omega)⟩
end Go.Proofs.Ytbmbfgcdbpanjaa
