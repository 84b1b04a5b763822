/- selkielaw20.CoroCloses: the walk. -/
import Derived.Test.YtbmbfgcdbpanjaaCrJ
import Derived.Deep.LoopGhost
namespace Go.Proofs.Ytbmbfgcdbpanjaa
set_option linter.unusedSimpArgs false
set_option linter.unusedVariables false
open Go.RowKit

theorem code_closed {B : Bk} {n : Nat} (h : B.code n = 0) : (B.close n).code n = 3 ∧ (B.close n).run = B.run := by
  obtain ⟨m, hm, hn, _⟩ := code_zero h
  obtain rfl : n = m := by omega
  unfold Bk.close
  rw [if_pos h]
  refine ⟨?_, rfl⟩
  unfold Bk.code
  simp only [Int.toNat_natCast, List.length_set]
  rw [if_neg (by omega), if_pos (by simp [List.getD_eq_getElem?_getD, hn])]
theorem closed_facts {B : Bk} {n : Nat} (h : B.code n = 0 ∨ B.code n = 3) : (B.close n).code n = 3 ∧ (B.close n).run = B.run ∧ (B.close n).close n = B.close n ∧ (B.close n).resume n = B.close n ∧ (B.close n).wait.length = B.wait.length := by
  have key : (B.close n).code n = 3 ∧ (B.close n).run = B.run ∧ (B.close n).wait.length = B.wait.length := by
    rcases h with h | h
    · refine ⟨(code_closed h).1, (code_closed h).2, ?_⟩
      unfold Bk.close; split <;> rfl
    · have : B.close n = B := by unfold Bk.close; rw [if_neg (by rw [h]; decide)]
      rw [this]
      exact ⟨h, rfl, rfl⟩
  refine ⟨key.1, key.2.1, ?_, ?_, key.2.2⟩
  · generalize B.close n = C at *
    unfold Bk.close; rw [if_neg (by rw [key.1]; decide)]
  · generalize B.close n = C at *
    unfold Bk.resume; rw [if_neg (by rw [key.1]; decide)]
theorem code_in {B : Bk} {n : Nat} (h : n < B.ended.length) : B.code n = 0 ∨ B.code n = 1 ∨ B.code n = 2 ∨ B.code n = 3 := by
  unfold Bk.code
  rw [if_neg (by omega)]
  repeat' split
  all_goals simp
/-- What the loop keeps. -/
def InCloses (w : World) (b j : Nat) (av : Value) (wr : World) : Prop :=
  ∃ (B : Bk) (F : Nat → Prop), av = .int .i64 B.ended.length ∧ Book wr b B F ∧ (∀ k, F k → w.heap.size ≤ k) ∧ B.ended.length ≤ j + 1 ∧ B.wait.length ≤ j + 1 ∧ Kp (fun k => w.heap.size ≤ k) w wr

set_option maxRecDepth 100000 in
theorem closes_many (sa : Option Addr) (len cap : Nat) (a : Int) (w : World) (hl : 300 < len) (hl2 : len ≤ 140737488351232) :
    Calls Try.prog 4 #[.slice sa len cap, .int .u8 a] w fun e w' => e = .returned (.bool true) ∧ Below w.heap.size w w' := by
  go_enter Try.func4, Try.ntmps4
  go_wp2_with fail
  refine (alive_any _).mono ?_
  rintro e w1 ⟨rfl, hk⟩
  go_wp2
  go_returns
  exact ⟨rfl, hk⟩
set_option maxRecDepth 100000 in
set_option maxHeartbeats 2000000 in
theorem closes_any (sa : Option Addr) (len cap : Nat) (a : Int) (w : World) (hl : len ≤ 300) (ha : 0 ≤ a ∧ a ≤ 255) (ho : len ≤ 0 ∨ ∃ ob off os, sa = some ⟨ob, off, none⟩ ∧ Cops w ob off len os) :
    Calls Try.prog 4 #[.slice sa len cap, .int .u8 a] w fun e w' => e = .returned (.bool true) ∧ Below w.heap.size w w' := by
  have HO := Lib.hid ho; clear ho
  have hP : ∀ k, w.heap.size ≤ k → w.heap.size ≤ k := fun _ h => h
  go_enter Try.func4, Try.ntmps4
  go_wp2_with fail
  refine (alive_any _).mono ?_
  rintro e w1 ⟨rfl, hk⟩
  have kk : Kp (fun k => w.heap.size ≤ k) w w1 := Kp.of_below hk
  replace hP := le_of_kp kk hP
  clear hk
  go_wp2_with fail
  refine (new_own hP).mono ?_
  rintro e w2 ⟨b, rfl, ⟨F0, hB0, hF0⟩, hk⟩
  replace kk := kk.trans hk
  clear hk hP
  have hI : InCloses w b 0 (.int .i64 1) w2 := ⟨_, _, rfl, hB0, hF0, by simp, by simp, kk⟩
  clear hB0 hF0 kk
  go_wp2_with fail
  go_loopw [6, 26] (fun av iv wr => ∃ j : Nat, iv = .int .i64 j ∧ j ≤ len ∧ InCloses w b j av wr) (fun _ iv _ => len - (intOf iv).toNat)
  case atStart => exact ⟨0, rfl, by omega, hI⟩
  case round =>
    clear hI
    obtain ⟨j, rfl, hj, B, F, rfl, hB, hF, he, hw, kk⟩ := hrel
    by_cases hlt : (j : Int) < len
    · obtain ⟨ob, off, os, rfl, ho⟩ := HO.out.resolve_left (by omega)
      replace ho := ho.kp kk (by have := ho.lt; omega)
      have c0 := ho.k j (by omega)
      have c1 := ho.a j (by omega)
      have hol := ho.lt
      clear ho
      generalize os j = o at *
      obtain ⟨ok, oa⟩ := o
      dsimp only at c0 c1
      have HB := Lib.hid hB; have HF := Lib.hid hF; have KK := Lib.hid kk
      clear hB hF kk
      go_wp2_with fail
      have hsr := KK.out.size
      have k0 : Kp (fun _ => False) wr (wr.alloc (.cells #[.int .i64 ok, .int .i64 oa] 34)) := (Kp.refl _ _).alloc _
      have X0 : Blk (wr.alloc (.cells #[.int .i64 ok, .int .i64 oa] 34)) wr.heap.size 34 #[.int .i64 ok, .int .i64 oa] := Blk.new rfl
      refine (do_book b B ⟨ok, oa⟩ (fun k => F k ∧ k < wr.heap.size) _ (HB.out.old.kp k0 (fun _ _ _ h => h)) (by omega) (by omega)).mono ?_
      rintro e wb ⟨he', F', hs', hkb, hF'⟩
      unfold Bk.ans at he'
      obtain rfl := he'
      have hxB := Blk.kp X0 hkb (fun h => by have := h.2; omega)
      have x0 := hxB.cell 0 (.int .i64 ok) rfl
      have hxl := hxB.lt
      have hsz := hkb.size
      have kB := (KK.out.alloc (.cells #[.int .i64 ok, .int .i64 oa] 34)).trans (hkb.mono (fun k _ h => HF.out k h.1))
      have hg := act_grows B ⟨ok, oa⟩
      have hFB : ∀ k, F' k → w.heap.size ≤ k := fun k hk => (hF' k hk).elim (fun h => HF.out k h.1) (fun h => by simp at h; omega)
      have HG := Lib.hid hg; have KB := Lib.hid kB; have HS := Lib.hid hs'; have HFB := Lib.hid hFB
      clear hg kB hs' hFB hkb hF' X0 k0 c0 c1 hxB
      by_cases e1 : ok = 1
      · subst e1
        go_wp2
        go_roundw
        case rel =>
          have hg := HG.out
          simp only [if_true] at hg
          exact ⟨j + 1, by go_num, by omega, _, _, by rw [hg.2]; simp, HS.out, HFB.out, by omega, by omega, KB.out⟩
        case measure => simp [intOf]; omega
      · have q1 : (ok == 1) = false := by simpa using e1
        go_wp2
        go_roundw
        case rel =>
          have hg := HG.out
          simp only [if_neg e1] at hg
          exact ⟨j + 1, by go_num, by omega, _, _, by rw [hg.2], HS.out, HFB.out, by omega, by omega, KB.out⟩
        case measure => simp [intOf]; omega
    · have hpos := hB.ok.lpos
      obtain ⟨n, hn⟩ : ∃ n : Nat, (n : Int) = a % B.ended.length := ⟨(a % B.ended.length).toNat, by have := Int.emod_nonneg a (show (B.ended.length : Int) ≠ 0 by omega); omega⟩
      have hnl : n < B.ended.length := by have := Int.emod_lt_of_pos a (show (0 : Int) < B.ended.length by omega); omega
      have HN := Lib.hid hn; clear hn
      have hP := fun k (hk : wr.heap.size ≤ k) => Nat.le_trans kk.size hk
      have hO : OwnB (fun k => w.heap.size ≤ k) wr b B := ⟨F, hB, hF⟩
      clear hB hF
      go_wp2_with fail
      rw [← HN.out]
      rcases code_in hnl with hc | hc | hc | hc
      · have hcc := closed_facts (.inl hc)
        have HC := Lib.hid hc; clear hc
        have HCC := Lib.hid hcc
        clear hcc
        refine (status_own hO n).mono ?_
        rintro e wq ⟨he, hk'⟩
        obtain rfl : e = .returned (.string ⟨#[115, 117, 115, 112, 101, 110, 100, 101, 100]⟩) := he.trans (by rw [HC.out]; rfl)
        replace hP := le_of_kp (P := fun k => w.heap.size ≤ k) hk' hP
        replace kk := kp_tell kk hk'
        replace hO := ownb_tell hO hk'
        clear hk' he
        have HO := Lib.hid hO; clear hO
        go_wp2_with fail
        have hO := HO.out; clear HO
        refine (running_own hO).mono ?_
        rintro e wq ⟨he, hk'⟩
        obtain rfl : e = .returned (.int .i64 (B.run : Nat)) := he.trans (by rfl)
        replace hP := le_of_kp (P := fun k => w.heap.size ≤ k) hk' hP
        replace kk := kp_tell kk hk'
        replace hO := ownb_tell hO hk'
        clear hk' he
        have HO := Lib.hid hO; clear hO
        go_wp2_with fail
        have hO := HO.out; clear HO
        refine (close_own hO n).mono ?_
        rintro e wq ⟨he, hO', hk'⟩
        obtain rfl : e = .returned (.tuple #[.string ⟨#[]⟩, .int .i64 0]) := he.trans (by rw [HC.out]; rfl)
        replace hP := le_of_kp hk' hP
        replace kk := kk.trans hk'
        replace hO : OwnB (fun k => w.heap.size ≤ k) wq b (B.close n) := by change _ at hO'; exact hO'
        clear hk' hO' he
        have HO := Lib.hid hO; clear hO
        go_wp2_with fail
        have hO := HO.out; clear HO
        refine (close_own hO n).mono ?_
        rintro e wq ⟨he, hO', hk'⟩
        obtain rfl : e = .returned (.tuple #[.string ⟨#[]⟩, .int .i64 0]) := he.trans (by rw [HCC.out.1]; rfl)
        replace hP := le_of_kp hk' hP
        replace kk := kk.trans hk'
        replace hO : OwnB (fun k => w.heap.size ≤ k) wq b (B.close n) := by rw [HCC.out.2.2.1] at hO'; exact hO'
        clear hk' hO' he
        have HO := Lib.hid hO; clear hO
        go_wp2_with fail
        have hO := HO.out; clear HO
        refine (resume_own hO n hP (by rw [HCC.out.2.2.2.2]; omega)).mono ?_
        rintro e wq ⟨he, hO', hk'⟩
        obtain rfl : e = .returned (.tuple #[.string ⟨#[99, 97, 110, 110, 111, 116, 32, 114, 101, 115, 117, 109, 101, 32, 100, 101, 97, 100, 32, 99, 111, 114, 111, 117, 116, 105, 110, 101]⟩, .int .i64 19]) := he.trans (by rw [HCC.out.1]; rfl)
        replace hP := le_of_kp hk' hP
        replace kk := kk.trans hk'
        replace hO : OwnB (fun k => w.heap.size ≤ k) wq b (B.close n) := by rw [HCC.out.2.2.2.1] at hO'; exact hO'
        clear hk' hO' he
        have HO := Lib.hid hO; clear hO
        go_wp2_with fail
        have hO := HO.out; clear HO
        refine (status_own hO n).mono ?_
        rintro e wq ⟨he, hk'⟩
        obtain rfl : e = .returned (.string ⟨#[100, 101, 97, 100]⟩) := he.trans (by rw [HCC.out.1]; rfl)
        replace hP := le_of_kp (P := fun k => w.heap.size ≤ k) hk' hP
        replace kk := kp_tell kk hk'
        replace hO := ownb_tell hO hk'
        clear hk' he
        have HO := Lib.hid hO; clear hO
        go_wp2_with fail
        have hO := HO.out; clear HO
        refine (running_own hO).mono ?_
        rintro e wq ⟨he, hk'⟩
        obtain rfl : e = .returned (.int .i64 (B.run : Nat)) := he.trans (by rw [HCC.out.2.1])
        replace hP := le_of_kp (P := fun k => w.heap.size ≤ k) hk' hP
        replace kk := kp_tell kk hk'
        replace hO := ownb_tell hO hk'
        clear hk' he
        have HO := Lib.hid hO; clear hO
        go_wp2_with fail
        have hO := HO.out; clear HO
        go_returns
        exact ⟨rfl, kk.below (Nat.le_refl _) (fun _ h => by omega)⟩
      · have HC := Lib.hid hc; clear hc
        have hcl : B.close n = B := by unfold Bk.close; rw [if_neg (by rw [HC.out]; decide)]
        refine (status_own hO n).mono ?_
        rintro e wq ⟨he, hk'⟩
        obtain rfl : e = .returned (.string ⟨#[114, 117, 110, 110, 105, 110, 103]⟩) := he.trans (by rw [HC.out]; rfl)
        replace hP := le_of_kp (P := fun k => w.heap.size ≤ k) hk' hP
        replace kk := kp_tell kk hk'
        replace hO := ownb_tell hO hk'
        clear hk' he
        have HO := Lib.hid hO; clear hO
        go_wp2_with fail
        have hO := HO.out; clear HO
        refine (running_own hO).mono ?_
        rintro e wq ⟨he, hk'⟩
        obtain rfl : e = .returned (.int .i64 (B.run : Nat)) := he.trans (by rfl)
        replace hP := le_of_kp (P := fun k => w.heap.size ≤ k) hk' hP
        replace kk := kp_tell kk hk'
        replace hO := ownb_tell hO hk'
        clear hk' he
        have HO := Lib.hid hO; clear hO
        go_wp2_with fail
        have hO := HO.out; clear HO
        refine (close_own hO n).mono ?_
        rintro e wq ⟨he, hO', hk'⟩
        obtain rfl : e = .returned (.tuple #[.string ⟨#[99, 97, 110, 110, 111, 116, 32, 99, 108, 111, 115, 101, 32, 97, 32, 114, 117, 110, 110, 105, 110, 103, 32, 99, 111, 114, 111, 117, 116, 105, 110, 101]⟩, .int .i64 19]) := he.trans (by rw [HC.out]; rfl)
        replace hP := le_of_kp hk' hP
        replace kk := kk.trans hk'
        replace hO : OwnB (fun k => w.heap.size ≤ k) wq b (B) := by rw [hcl] at hO'; exact hO'
        clear hk' hO' he
        have HO := Lib.hid hO; clear hO
        go_wp2_with fail
        have hO := HO.out; clear HO
        refine (status_own hO n).mono ?_
        rintro e wq ⟨he, hk'⟩
        obtain rfl : e = .returned (.string ⟨#[114, 117, 110, 110, 105, 110, 103]⟩) := he.trans (by rw [HC.out]; rfl)
        replace hP := le_of_kp (P := fun k => w.heap.size ≤ k) hk' hP
        replace kk := kp_tell kk hk'
        replace hO := ownb_tell hO hk'
        clear hk' he
        have HO := Lib.hid hO; clear hO
        go_wp2_with fail
        have hO := HO.out; clear HO
        refine (running_own hO).mono ?_
        rintro e wq ⟨he, hk'⟩
        obtain rfl : e = .returned (.int .i64 (B.run : Nat)) := he.trans (by rfl)
        replace hP := le_of_kp (P := fun k => w.heap.size ≤ k) hk' hP
        replace kk := kp_tell kk hk'
        replace hO := ownb_tell hO hk'
        clear hk' he
        have HO := Lib.hid hO; clear hO
        go_wp2_with fail
        have hO := HO.out; clear HO
        go_returns
        exact ⟨rfl, kk.below (Nat.le_refl _) (fun _ h => by omega)⟩
      · have HC := Lib.hid hc; clear hc
        have hcl : B.close n = B := by unfold Bk.close; rw [if_neg (by rw [HC.out]; decide)]
        refine (status_own hO n).mono ?_
        rintro e wq ⟨he, hk'⟩
        obtain rfl : e = .returned (.string ⟨#[110, 111, 114, 109, 97, 108]⟩) := he.trans (by rw [HC.out]; rfl)
        replace hP := le_of_kp (P := fun k => w.heap.size ≤ k) hk' hP
        replace kk := kp_tell kk hk'
        replace hO := ownb_tell hO hk'
        clear hk' he
        have HO := Lib.hid hO; clear hO
        go_wp2_with fail
        have hO := HO.out; clear HO
        refine (running_own hO).mono ?_
        rintro e wq ⟨he, hk'⟩
        obtain rfl : e = .returned (.int .i64 (B.run : Nat)) := he.trans (by rfl)
        replace hP := le_of_kp (P := fun k => w.heap.size ≤ k) hk' hP
        replace kk := kp_tell kk hk'
        replace hO := ownb_tell hO hk'
        clear hk' he
        have HO := Lib.hid hO; clear hO
        go_wp2_with fail
        have hO := HO.out; clear HO
        refine (close_own hO n).mono ?_
        rintro e wq ⟨he, hO', hk'⟩
        obtain rfl : e = .returned (.tuple #[.string ⟨#[99, 97, 110, 110, 111, 116, 32, 99, 108, 111, 115, 101, 32, 97, 32, 114, 117, 110, 110, 105, 110, 103, 32, 99, 111, 114, 111, 117, 116, 105, 110, 101]⟩, .int .i64 19]) := he.trans (by rw [HC.out]; rfl)
        replace hP := le_of_kp hk' hP
        replace kk := kk.trans hk'
        replace hO : OwnB (fun k => w.heap.size ≤ k) wq b (B) := by rw [hcl] at hO'; exact hO'
        clear hk' hO' he
        have HO := Lib.hid hO; clear hO
        go_wp2_with fail
        have hO := HO.out; clear HO
        refine (status_own hO n).mono ?_
        rintro e wq ⟨he, hk'⟩
        obtain rfl : e = .returned (.string ⟨#[110, 111, 114, 109, 97, 108]⟩) := he.trans (by rw [HC.out]; rfl)
        replace hP := le_of_kp (P := fun k => w.heap.size ≤ k) hk' hP
        replace kk := kp_tell kk hk'
        replace hO := ownb_tell hO hk'
        clear hk' he
        have HO := Lib.hid hO; clear hO
        go_wp2_with fail
        have hO := HO.out; clear HO
        refine (running_own hO).mono ?_
        rintro e wq ⟨he, hk'⟩
        obtain rfl : e = .returned (.int .i64 (B.run : Nat)) := he.trans (by rfl)
        replace hP := le_of_kp (P := fun k => w.heap.size ≤ k) hk' hP
        replace kk := kp_tell kk hk'
        replace hO := ownb_tell hO hk'
        clear hk' he
        have HO := Lib.hid hO; clear hO
        go_wp2_with fail
        have hO := HO.out; clear HO
        go_returns
        exact ⟨rfl, kk.below (Nat.le_refl _) (fun _ h => by omega)⟩
      · have hcc := closed_facts (.inr hc)
        have HC := Lib.hid hc; clear hc
        have HCC := Lib.hid hcc
        clear hcc
        refine (status_own hO n).mono ?_
        rintro e wq ⟨he, hk'⟩
        obtain rfl : e = .returned (.string ⟨#[100, 101, 97, 100]⟩) := he.trans (by rw [HC.out]; rfl)
        replace hP := le_of_kp (P := fun k => w.heap.size ≤ k) hk' hP
        replace kk := kp_tell kk hk'
        replace hO := ownb_tell hO hk'
        clear hk' he
        have HO := Lib.hid hO; clear hO
        go_wp2_with fail
        have hO := HO.out; clear HO
        refine (running_own hO).mono ?_
        rintro e wq ⟨he, hk'⟩
        obtain rfl : e = .returned (.int .i64 (B.run : Nat)) := he.trans (by rfl)
        replace hP := le_of_kp (P := fun k => w.heap.size ≤ k) hk' hP
        replace kk := kp_tell kk hk'
        replace hO := ownb_tell hO hk'
        clear hk' he
        have HO := Lib.hid hO; clear hO
        go_wp2_with fail
        have hO := HO.out; clear HO
        refine (close_own hO n).mono ?_
        rintro e wq ⟨he, hO', hk'⟩
        obtain rfl : e = .returned (.tuple #[.string ⟨#[]⟩, .int .i64 0]) := he.trans (by rw [HC.out]; rfl)
        replace hP := le_of_kp hk' hP
        replace kk := kk.trans hk'
        replace hO : OwnB (fun k => w.heap.size ≤ k) wq b (B.close n) := by change _ at hO'; exact hO'
        clear hk' hO' he
        have HO := Lib.hid hO; clear hO
        go_wp2_with fail
        have hO := HO.out; clear HO
        refine (close_own hO n).mono ?_
        rintro e wq ⟨he, hO', hk'⟩
        obtain rfl : e = .returned (.tuple #[.string ⟨#[]⟩, .int .i64 0]) := he.trans (by rw [HCC.out.1]; rfl)
        replace hP := le_of_kp hk' hP
        replace kk := kk.trans hk'
        replace hO : OwnB (fun k => w.heap.size ≤ k) wq b (B.close n) := by rw [HCC.out.2.2.1] at hO'; exact hO'
        clear hk' hO' he
        have HO := Lib.hid hO; clear hO
        go_wp2_with fail
        have hO := HO.out; clear HO
        refine (resume_own hO n hP (by rw [HCC.out.2.2.2.2]; omega)).mono ?_
        rintro e wq ⟨he, hO', hk'⟩
        obtain rfl : e = .returned (.tuple #[.string ⟨#[99, 97, 110, 110, 111, 116, 32, 114, 101, 115, 117, 109, 101, 32, 100, 101, 97, 100, 32, 99, 111, 114, 111, 117, 116, 105, 110, 101]⟩, .int .i64 19]) := he.trans (by rw [HCC.out.1]; rfl)
        replace hP := le_of_kp hk' hP
        replace kk := kk.trans hk'
        replace hO : OwnB (fun k => w.heap.size ≤ k) wq b (B.close n) := by rw [HCC.out.2.2.2.1] at hO'; exact hO'
        clear hk' hO' he
        have HO := Lib.hid hO; clear hO
        go_wp2_with fail
        have hO := HO.out; clear HO
        refine (status_own hO n).mono ?_
        rintro e wq ⟨he, hk'⟩
        obtain rfl : e = .returned (.string ⟨#[100, 101, 97, 100]⟩) := he.trans (by rw [HCC.out.1]; rfl)
        replace hP := le_of_kp (P := fun k => w.heap.size ≤ k) hk' hP
        replace kk := kp_tell kk hk'
        replace hO := ownb_tell hO hk'
        clear hk' he
        have HO := Lib.hid hO; clear hO
        go_wp2_with fail
        have hO := HO.out; clear HO
        refine (running_own hO).mono ?_
        rintro e wq ⟨he, hk'⟩
        obtain rfl : e = .returned (.int .i64 (B.run : Nat)) := he.trans (by rw [HCC.out.2.1])
        replace hP := le_of_kp (P := fun k => w.heap.size ≤ k) hk' hP
        replace kk := kp_tell kk hk'
        replace hO := ownb_tell hO hk'
        clear hk' he
        have HO := Lib.hid hO; clear hO
        go_wp2_with fail
        have hO := HO.out; clear HO
        go_returns
        exact ⟨rfl, kk.below (Nat.le_refl _) (fun _ h => by omega)⟩
end Go.Proofs.Ytbmbfgcdbpanjaa
