/- selkielaw18.alive. -/
import Derived.Test.YtcdofhfneiednaaPoN
namespace Go.Proofs.Ytcdofhfneiednaa
set_option linter.unusedSimpArgs false
set_option linter.unusedVariables false
open Go.RowKit

theorem OwnS.except {P : Nat → Prop} {w w' : World} {b g : Nat} {S : Ss} {bs : List Nat} (h : OwnS P w b S bs) (k : Kp (fun _ => False) w w') (hg : w.heap.size ≤ g) : OwnS (fun k => P k ∧ k ≠ g) w' b S bs := by
  obtain ⟨F, h1, h2⟩ := h
  exact ⟨_, h1.old.kp spy_site k (fun _ _ _ h => h), fun k hk => ⟨h2 k hk.1, by have := hk.2; omega⟩⟩
theorem OwnS.mono {P P' : Nat → Prop} {w : World} {b : Nat} {S : Ss} {bs : List Nat} (h : OwnS P w b S bs) (hp : ∀ k, P k → P' k) : OwnS P' w b S bs := by
  obtain ⟨F, h1, h2⟩ := h
  exact ⟨F, h1, fun k hk => hp k (h2 k hk)⟩
def aP : Pol := ⟨1, 0, 0, 0, [⟨2, 1, -1, 0⟩]⟩
def aS0 : SS := SS.new 1 0
def aSL : SS := ⟨1, 0, 1, 1, 1, 0, 0, [⟨1, 1, 1⟩]⟩
def aSF : SS := ⟨1, 0, 0, 0, 1, 0, 0, []⟩
theorem a_learn : aS0.learn ⟨1, 1, 1⟩ = aSL := by kernel_rfl
theorem a_at0 : (Ss.at' ⟨aP, [aS0, aS0], 0⟩ 0) = ⟨aP, [aS0, aS0], 1⟩ := by kernel_rfl
theorem a_at1 : (Ss.at' ⟨aP, [aSL, aSL], 1⟩ 1) = ⟨aP, [aSF, aSF], 2⟩ := by kernel_rfl
theorem a_at2 : (Ss.at' ⟨aP, [aSF, aSF], 2⟩ 2) = ⟨aP, [aSF, aSF], 2⟩ := by kernel_rfl
theorem a_right : aP.right = true := by kernel_rfl
theorem a_wrong : Pol.right ⟨9, 0, 0, 0, []⟩ = false := by kernel_rfl
def aL (i : Nat) : List SS := [if 0 < i then aSL else aS0, if 1 < i then aSL else aS0]

set_option maxRecDepth 100000 in
set_option maxHeartbeats 4000000 in
theorem alive18_any (w : World) : Calls Try.prog 24 #[] w fun e w' => e = .returned (.bool true) ∧ Below w.heap.size w w' := by
  go_enter Try.func24, Try.ntmps24
  go_wp2_with fail
  generalize hw1 : (w.alloc (.cells #[.int .i64 2, .int .i64 1, .int .i64 (-1), .int .i64 0] 69)).alloc (.cells #[.int .i64 1, .int .i64 0, .int .i64 0, .int .i64 0, .slice (some ⟨w.heap.size, 0, none⟩) 1 1] 58) = w1 at *
  have er : ERow 69 w1 (.slice (some ⟨w.heap.size, 0, none⟩) 1 1) aP.evs := by
    rw [← hw1]
    exact row_kp (World.ownsRow_lit (base := 0) (e := 69) (size := 4) w #[.int .i64 2, .int .i64 1, .int .i64 (-1), .int .i64 0] 1 (by omega) (by unfold maxLen; omega) rfl) ((Kp.refl (fun _ => False) _).alloc _) (fun _ _ h => h)
  have x1 : Blk w1 (w.heap.size + 1) 58 #[.int .i64 1, .int .i64 0, .int .i64 0, .int .i64 0, .slice (some ⟨w.heap.size, 0, none⟩) 1 1] := by
    rw [← hw1]; exact Blk.new (by simp)
  have k1 : Kp (fun _ => False) w w1 := by rw [← hw1]; exact ((Kp.refl _ _).alloc _).alloc _
  have hsz : w.heap.size ≤ w1.heap.size := k1.size
  have hs1 := er.lt
  have ER := Lib.hid er; have X1 := Lib.hid x1; have K1 := Lib.hid k1
  have hx1 := x1.lt
  clear er x1 k1 hw1
  refine (newp_owns (P := fun k => w1.heap.size ≤ k) aP _ 2 w1 ER.out (by decide) (by omega) (fun _ h => h)).mono ?_
  rintro e w2 ⟨b, bs, rfl, hO, hk⟩
  have kk : Kp (fun k => w1.heap.size ≤ k) w1 w2 := hk.mono (fun _ _ h => h.elim)
  have hP : ∀ k, w2.heap.size ≤ k → w1.heap.size ≤ k := fun k hk' => Nat.le_trans hk.size hk'
  have hlen : bs.length = 2 := hO.len
  have hO1 : OwnS (fun k => w1.heap.size ≤ k) w2 b ⟨aP, [aS0, aS0], 0⟩ bs := hO
  clear hk hO
  go_wp2_with fail
  refine (at_owns hO1 0 hP (by decide) (by decide) (by decide)).mono ?_
  rintro e w3 ⟨he, hO, hk⟩
  obtain rfl : e = .returned (.pointer (some ⟨bs.getD 0 0, 0, none⟩)) := he.trans rfl
  rw [a_at0] at hO
  replace kk := kk.trans hk
  replace hP := le_of_kp hk hP
  clear hk hO1 he
  generalize hb0 : bs.getD 0 0 = b0 at *
  go_wp2_with fail
  refine (all_owns hO (by omega)).mono ?_
  rintro e w4 ⟨v', rfl, hr, hn, hk⟩
  obtain ⟨gv, cv, rfl⟩ := row_some hr (by omega)
  have hgv := hn gv rfl
  have hO4 := hO.except hk hgv
  have hgv4 := (hr.lt gv rfl).2
  replace kk := kp_tell kk hk
  have hP4 : ∀ k, w4.heap.size ≤ k → w1.heap.size ≤ k ∧ k ≠ gv := fun k hk' => ⟨hP k (Nat.le_trans hk.size hk'), by omega⟩
  clear hk hn hO hP hgv
  have HR := Lib.hid hr; have HO4 := Lib.hid hO4; have KK := Lib.hid kk; have HL := Lib.hid hlen
  clear hO4 kk hr
  rw [hlen]
  clear hlen
  go_wp2_with fail
  go_loopw [23] (fun iv wr => ∃ i : Nat, iv = .int .i64 i ∧ i ≤ 2 ∧ OwnS (fun k => w1.heap.size ≤ k ∧ k ≠ gv) wr b ⟨aP, aL i, 1⟩ bs ∧ Kp (fun k => w1.heap.size ≤ k ∧ k ≠ gv) w4 wr) (fun iv _ => 2 - (intOf iv).toNat)
  case atStart => exact ⟨0, rfl, by omega, HO4.out, Kp.refl _ _⟩
  case round =>
    clear HO4
    obtain ⟨i, rfl, hi, hO, kx⟩ := hrel
    have hP : ∀ k, wr.heap.size ≤ k → w1.heap.size ≤ k ∧ k ≠ gv := fun k hk' => hP4 k (Nat.le_trans kx.size hk')
    by_cases hlt : (i : Int) < 2
    · have hrx := row_kp HR.out kx (fun q hq h => h.2 (by simp [Value.ownBlock] at hq; exact hq.symm))
      have d0 := (World.ownsRow.cellAt hrx i (by have := HL.out; omega)).trans (ptrs_at bs i (by have := HL.out; omega))
      have hg := (hrx.lt gv rfl).2
      have hil : i < (aL i).length := by simp [aL]; omega
      have hl0 : (aL i)[i]'hil = aS0 := by
        match i, hi, hlt with
        | 0, _, _ => rfl
        | 1, _, _ => rfl
      have hset : (aL i).set i aSL = aL (i + 1) := by
        match i, hi, hlt with
        | 0, _, _ => rfl
        | 1, _, _ => rfl
      have HO := Lib.hid hO; have KX := Lib.hid kx
      clear hrx hO kx
      generalize hbi : bs.getD i 0 = bi at *
      have HBI := Lib.hid hbi; clear hbi
      go_wp2_with fail
      rw [← HBI.out]
      refine (learn_at (S := ⟨aP, aL i, 1⟩) HO.out hil ⟨1, 1, 1⟩ hP (by rw [hl0]; decide)).mono ?_
      rintro e w5 ⟨rfl, hO5, hk5⟩
      simp only [hl0, a_learn, hset] at hO5
      have HO5 := Lib.hid hO5; have K5 := Lib.hid (KX.out.trans hk5)
      clear hO5 hk5 d0
      go_wp2
      go_roundw
      case rel => exact ⟨i + 1, by go_num, by omega, HO5.out, K5.out⟩
      case measure => simp [intOf]; omega
    · obtain rfl : i = 2 := by omega
      have hO' : OwnS (fun k => w1.heap.size ≤ k) wr b ⟨aP, [aSL, aSL], 1⟩ bs := hO.mono (fun _ h => h.1)
      have kk := KK.out.trans (kx.mono (fun _ _ h => h.1))
      have hP' : ∀ k, wr.heap.size ≤ k → w1.heap.size ≤ k := fun k hk' => (hP k hk').1
      clear hO kx hP HR hP4 KK hi hlt
      have hlen := HL.out
      have hd1 : ∀ q, bs.getD 1 0 = q → True := fun _ _ => trivial
      generalize hb1 : bs.getD 1 0 = b1 at *
      have HB1 := Lib.hid hb1; clear hb1 hd1
      go_wp2_with fail
      refine (all_owns hO' (by omega)).mono ?_
      rintro e wc ⟨v1, rfl, hr, hn, hk⟩
      obtain ⟨gv1, cv1, rfl⟩ := row_some hr (by omega)
      rw [hlen]
      replace hP' := le_of_kp (P := fun k => w1.heap.size ≤ k) hk hP'
      replace kk := kp_tell kk hk
      replace hO' := hO'.tell hk
      clear hk
      clear hn
      go_wp2_with fail
      refine (all_owns hO' (by omega)).mono ?_
      rintro e wc ⟨v1, rfl, hr, hn, hk⟩
      obtain ⟨gv1, cv1, rfl⟩ := row_some hr (by omega)
      rw [hlen]
      replace hP' := le_of_kp (P := fun k => w1.heap.size ≤ k) hk hP'
      replace kk := kp_tell kk hk
      replace hO' := hO'.tell hk
      clear hk
      clear hn
      have d1 := (World.ownsRow.cellAt hr 1 (by omega)).trans (ptrs_at bs 1 (by omega))
      rw [HB1.out] at d1
      have hg1 := (hr.lt gv1 rfl).2
      clear hr
      go_wp2_with fail
      have hq := hO'.site (i := 1) (by decide)
      rw [HB1.out] at hq
      refine (len_own hq).mono ?_
      rintro e wc ⟨he, hk⟩
      obtain rfl : e = .returned (.int .i64 1) := he.trans rfl
      clear hq he d1 hg1
      replace hP' := le_of_kp (P := fun k => w1.heap.size ≤ k) hk hP'
      replace kk := kp_tell kk hk
      replace hO' := hO'.tell hk
      clear hk
      go_wp2_with fail
      -- the second access
      refine (at_owns hO' 1 hP' (by decide) (by decide) (by decide)).mono ?_
      rintro e wc ⟨he, hO, hk⟩
      obtain rfl : e = .returned (.pointer (some ⟨bs.getD 1 0, 0, none⟩)) := he.trans rfl
      rw [a_at1] at hO
      rw [HB1.out]
      replace kk := kk.trans hk
      replace hP' := le_of_kp hk hP'
      replace hO' := hO
      clear hk hO he
      go_wp2_with fail
      have hq := hO'.site (i := 1) (by decide)
      rw [HB1.out] at hq
      refine (len_own hq).mono ?_
      rintro e wc ⟨he, hk⟩
      obtain rfl : e = .returned (.int .i64 0) := he.trans rfl
      clear hq he
      replace hP' := le_of_kp (P := fun k => w1.heap.size ≤ k) hk hP'
      replace kk := kp_tell kk hk
      replace hO' := hO'.tell hk
      clear hk
      go_wp2_with fail
      refine (accesses_owns hO').mono ?_
      rintro e wc ⟨rfl, hk⟩
      replace hP' := le_of_kp (P := fun k => w1.heap.size ≤ k) hk hP'
      replace kk := kp_tell kk hk
      replace hO' := hO'.tell hk
      clear hk
      go_wp2_with fail
      refine (at_owns hO' 2 hP' (by decide) (by decide) (by decide)).mono ?_
      rintro e wc ⟨he, hO, hk⟩
      obtain rfl : e = .returned (.pointer none) := he.trans rfl
      rw [a_at2] at hO
      replace kk := kk.trans hk
      replace hP' := le_of_kp hk hP'
      replace hO' := hO
      clear hk hO he
      go_wp2_with fail
      refine (accesses_owns hO').mono ?_
      rintro e wc ⟨rfl, hk⟩
      replace hP' := le_of_kp (P := fun k => w1.heap.size ≤ k) hk hP'
      replace kk := kp_tell kk hk
      replace hO' := hO'.tell hk
      clear hk
      have hxw := Blk.kp X1.out kk (fun h => by have h' : w1.heap.size ≤ w.heap.size + 1 := h; omega)
      have x0 := hxw.cell 0 (.int .i64 1) rfl
      have x1 := hxw.cell 1 (.int .i64 0) rfl
      have x2 := hxw.cell 2 (.int .i64 0) rfl
      have x3 := hxw.cell 3 (.int .i64 0) rfl
      have x4 := hxw.cell 4 (.slice (some ⟨w.heap.size, 0, none⟩) 1 1) rfl
      have hxl := hxw.lt
      have her := row_kp ER.out kk (fun q hq h => by have := (hs1 q hq).2; omega)
      clear hxw
      go_wp2_with fail
      refine (right_any aP _ _ her (by decide)).mono ?_
      rw [a_right]
      rintro e wd ⟨rfl, hk⟩
      replace kk := kp_tell kk hk
      clear hk her x0 x1 x2 x3 x4
      go_wp2_with fail
      refine (right_any ⟨9, 0, 0, 0, []⟩ (.slice none 0 0) _ (World.ownsRow_nil _ _ _ _) (by decide)).mono ?_
      rw [a_wrong]
      rintro e we ⟨rfl, hk⟩
      replace kk := kp_tell kk hk
      clear hk
      go_wp2_with fail
      refine (at_nil 0 _).mono ?_
      rintro e wf ⟨rfl, hk⟩
      replace kk := kp_tell kk hk
      clear hk hO' hP'
      have hfin : Below w.heap.size w wf := (K1.out.trans' kk (fun q hq h => by omega)).below (Nat.le_refl _) (fun _ _ h => h)
      have HFIN := Lib.hid hfin
      clear hfin kk
      go_wp2
      go_returns
      exact ⟨rfl, HFIN.out⟩
end Go.Proofs.Ytcdofhfneiednaa
