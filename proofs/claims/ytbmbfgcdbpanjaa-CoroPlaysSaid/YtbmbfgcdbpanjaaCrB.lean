/- The walks of package coro: Running, Deep, Status; what words.Field says. -/
import Derived.Test.YtbmbfgcdbpanjaaCrA
namespace Go.Proofs.Ytbmbfgcdbpanjaa
set_option linter.unusedSimpArgs false
set_option linter.unusedVariables false
open Go.RowKit

def wSus : ByteArray := ⟨#[115, 117, 115, 112, 101, 110, 100, 101, 100]⟩
def wRun : ByteArray := ⟨#[114, 117, 110, 110, 105, 110, 103]⟩
def wNor : ByteArray := ⟨#[110, 111, 114, 109, 97, 108]⟩
def wDead : ByteArray := ⟨#[100, 101, 97, 100]⟩
def wNone : ByteArray := ⟨#[]⟩
def mDead : ByteArray := ⟨#[99, 97, 110, 110, 111, 116, 32, 114, 101, 115, 117, 109, 101, 32, 100, 101, 97, 100, 32, 99, 111, 114, 111, 117, 116, 105, 110, 101]⟩
def mRes : ByteArray := ⟨#[99, 97, 110, 110, 111, 116, 32, 114, 101, 115, 117, 109, 101, 32, 110, 111, 110, 45, 115, 117, 115, 112, 101, 110, 100, 101, 100, 32, 99, 111, 114, 111, 117, 116, 105, 110, 101]⟩
def mYield : ByteArray := ⟨#[97, 116, 116, 101, 109, 112, 116, 32, 116, 111, 32, 121, 105, 101, 108, 100, 32, 102, 114, 111, 109, 32, 111, 117, 116, 115, 105, 100, 101, 32, 97, 32, 99, 111, 114, 111, 117, 116, 105, 110, 101]⟩
def mClose : ByteArray := ⟨#[99, 97, 110, 110, 111, 116, 32, 99, 108, 111, 115, 101, 32, 97, 32, 114, 117, 110, 110, 105, 110, 103, 32, 99, 111, 114, 111, 117, 116, 105, 110, 101]⟩
set_option maxRecDepth 100000 in
theorem field_dead (w : World) : Calls Try.prog 25 #[.string ⟨#[100, 101, 97, 100]⟩] w fun e w' => e = .returned (.string mDead) ∧ Kp (fun _ => False) w w' := by
  go_enter Try.func25, Try.ntmps25
  go_wp2
  go_returns
  exact ⟨rfl, Kp.refl _ _⟩
set_option maxRecDepth 100000 in
theorem field_running (w : World) : Calls Try.prog 25 #[.string ⟨#[114, 117, 110, 110, 105, 110, 103]⟩] w fun e w' => e = .returned (.string mRes) ∧ Kp (fun _ => False) w w' := by
  go_enter Try.func25, Try.ntmps25
  go_wp2
  go_returns
  exact ⟨rfl, Kp.refl _ _⟩
set_option maxRecDepth 100000 in
theorem field_yield (w : World) : Calls Try.prog 25 #[.string ⟨#[121, 105, 101, 108, 100]⟩] w fun e w' => e = .returned (.string mYield) ∧ Kp (fun _ => False) w w' := by
  go_enter Try.func25, Try.ntmps25
  go_wp2
  go_returns
  exact ⟨rfl, Kp.refl _ _⟩
set_option maxRecDepth 100000 in
theorem field_close (w : World) : Calls Try.prog 25 #[.string ⟨#[99, 108, 111, 115, 101]⟩] w fun e w' => e = .returned (.string mClose) ∧ Kp (fun _ => False) w w' := by
  go_enter Try.func25, Try.ntmps25
  go_wp2
  go_returns
  exact ⟨rfl, Kp.refl _ _⟩

def Bk.run (B : Bk) : Nat := B.wait.getLastD 0
def Bk.code (B : Bk) (id : Int) : Int :=
  if id < 0 ∨ (B.ended.length : Int) ≤ id then -1 else if B.ended.getD id.toNat false = true then 3 else if (B.run : Int) = id then 1 else if hasN B.wait id = true then 2 else 0
def word (c : Int) : ByteArray := if c = 0 then wSus else if c = 1 then wRun else if c = 2 then wNor else if c = 3 then wDead else wNone
structure BOk (B : Bk) : Prop where
  head : B.wait.head? = some 0
  nodup : B.wait.Nodup
  lt : ∀ i ∈ B.wait, i < B.ended.length
  live : ∀ i ∈ B.wait, B.ended[i]? = some false
  small : B.ended.length ≤ 100000 ∧ B.wait.length ≤ 100000
theorem BOk.ne {B : Bk} (h : BOk B) : 0 < B.wait.length := by
  have := h.head
  cases hw : B.wait with
  | nil => rw [hw] at this; cases this
  | cons a r => simp
theorem BOk.lpos {B : Bk} (h : BOk B) : 0 < B.ended.length := by
  have h1 := h.head
  cases hw : B.wait with
  | nil => rw [hw] at h1; cases h1
  | cons a r => have := h.lt a (by rw [hw]; simp); omega
/-- A book over the blocks F. -/
def Book (w : World) (b : Nat) (B : Bk) (F : Nat → Prop) : Prop :=
  ∃ vw ve, Blk w b 52 #[vw, ve] ∧ NAt w vw B.wait ∧ TAt w ve B.ended ∧ BOk B ∧ F b ∧ (∀ k, vw.ownBlock = some k → F k) ∧ (∀ k, ve.ownBlock = some k → F k)
theorem Book.kp {S : Nat → Prop} {w w' : World} {b : Nat} {B : Bk} {F : Nat → Prop} (h : Book w b B F) (k : Kp S w w') (hn : ∀ k, k < w.heap.size → F k → ¬ S k) : Book w' b B F := by
  obtain ⟨vw, ve, h1, h2, h3, h4, h5, h6, h7⟩ := h
  exact ⟨vw, ve, Blk.kp h1 k (hn b h1.lt h5), row_kp h2 k (fun g hg => hn g (h2.lt g hg).2 (h6 g hg)), row_kp h3 k (fun g hg => hn g (h3.lt g hg).2 (h7 g hg)), h4, h5, h6, h7⟩
theorem Book.ok {w : World} {b : Nat} {B : Bk} {F : Nat → Prop} (h : Book w b B F) : BOk B := by obtain ⟨vw, ve, h1, h2, h3, h4, _⟩ := h; exact h4
theorem Book.lt {w : World} {b : Nat} {B : Bk} {F : Nat → Prop} (h : Book w b B F) : b < w.heap.size := by obtain ⟨vw, ve, h1, _⟩ := h; exact h1.lt
theorem Book.old {w : World} {b : Nat} {B : Bk} {F : Nat → Prop} (h : Book w b B F) : Book w b B (fun k => F k ∧ k < w.heap.size) := by
  obtain ⟨vw, ve, h1, h2, h3, h4, h5, h6, h7⟩ := h
  exact ⟨vw, ve, h1, h2, h3, h4, ⟨h5, h1.lt⟩, fun k hk => ⟨h6 k hk, (h2.lt k hk).2⟩, fun k hk => ⟨h7 k hk, (h3.lt k hk).2⟩⟩

theorem getLastD_at {l : List Nat} {m : Nat} (h : l.length = m + 1) : l[m]? = some (l.getLastD 0) := by
  rw [List.getLastD_eq_getLast?, List.getLast?_eq_getElem?, h]
  simp only [Nat.add_sub_cancel]
  rw [List.getElem?_eq_getElem (by omega)]
  rfl
set_option maxRecDepth 100000 in
theorem running_book (b : Nat) (B : Bk) (F : Nat → Prop) (w : World) (h : Book w b B F) :
    Calls Try.prog 12 #[.pointer (some ⟨b, 0, none⟩)] w fun e w' => e = .returned (.int .i64 (B.run : Nat)) ∧ Kp (fun _ => False) w w' := by
  obtain ⟨vw, ve, h1, h2, h3, h4, _⟩ := h
  have hne := h4.ne
  have hsm := h4.small
  obtain ⟨g, cap, rfl⟩ := row_some h2 hne
  obtain ⟨m, hm⟩ : ∃ m, B.wait.length = m + 1 := ⟨B.wait.length - 1, by omega⟩
  have hl := getLastD_at hm
  have c0 := World.ownsRow.cellAt h2 m (by omega)
  have c1 : w.cell? ⟨g, m, none⟩ = some (.int .i64 (B.run : Nat)) := by
    rw [c0]; unfold nums Bk.run; rw [List.getElem?_map, hl]; rfl
  have hg := (h2.lt g rfl).2
  have hb := h1.lt
  rw [hm] at h1 hsm
  have d0 := h1.cell 0 (.slice (some ⟨g, 0, none⟩) (m + 1) cap) rfl
  clear h1 h2 h3 h4 c0 hl hm hne
  go_enter Try.func12, Try.ntmps12
  go_wp2_with fail
  go_quiet (fail)
  go_wp2
  go_returns
  exact ⟨rfl, by (repeat (first | (with_reducible exact Kp.refl _ _) | (with_reducible assumption) | (with_reducible refine Kp.drew ?_) | (with_reducible refine Kp.drewN ?_ _) | (with_reducible refine Kp.alloc ?_ _) | (with_reducible refine Kp.setCell ?_ ?_ _) | (left; rfl) | (left; left; rfl) | (right; simp; done) | (right; simp; omega) | go_size))⟩
set_option maxRecDepth 100000 in
theorem deep_book (b : Nat) (B : Bk) (F : Nat → Prop) (w : World) (h : Book w b B F) :
    Calls Try.prog 14 #[.pointer (some ⟨b, 0, none⟩)] w fun e w' => e = .returned (.int .i64 (B.wait.length - 1 : Nat)) ∧ Kp (fun _ => False) w w' := by
  obtain ⟨vw, ve, h1, h2, h3, h4, _⟩ := h
  have hne := h4.ne
  have hsm := h4.small
  obtain ⟨g, cap, rfl⟩ := row_some h2 hne
  obtain ⟨m, hm⟩ : ∃ m, B.wait.length = m + 1 := ⟨B.wait.length - 1, by omega⟩
  have hb := h1.lt
  rw [hm] at h1 hsm
  have d0 := h1.cell 0 (.slice (some ⟨g, 0, none⟩) (m + 1) cap) rfl
  rw [hm]
  clear h1 h2 h3 h4 hm hne
  go_enter Try.func14, Try.ntmps14
  go_wp2
  go_returns
  exact ⟨ret_int (by omega), by (repeat (first | (with_reducible exact Kp.refl _ _) | (with_reducible assumption) | (with_reducible refine Kp.drew ?_) | (with_reducible refine Kp.drewN ?_ _) | (with_reducible refine Kp.alloc ?_ _) | (with_reducible refine Kp.setCell ?_ ?_ _) | (left; rfl) | (left; left; rfl) | (right; simp; done) | (right; simp; omega) | go_size))⟩
set_option maxRecDepth 100000 in
theorem status_book (b : Nat) (B : Bk) (F : Nat → Prop) (id : Int) (w : World) (h : Book w b B F) :
    Calls Try.prog 13 #[.pointer (some ⟨b, 0, none⟩), .int .i64 id] w fun e w' => e = .returned (.string (word (B.code id))) ∧ Kp (fun _ => False) w w' := by
  have HB := Lib.hid h
  obtain ⟨vw, ve, h1, h2, h3, h4, _⟩ := h
  have hsm := h4.small
  have hb := h1.lt
  obtain ⟨ge, ce, rfl⟩ := row_some h3 h4.lpos
  obtain ⟨gw, cw, rfl⟩ := row_some h2 h4.ne
  have d0 := h1.cell 0 (.slice (some ⟨gw, 0, none⟩) B.wait.length cw) rfl
  have d1 := h1.cell 1 (.slice (some ⟨ge, 0, none⟩) B.ended.length ce) rfl
  have hge := (h3.lt ge rfl).2
  have H2 := Lib.hid h2
  by_cases e1 : id < 0
  · have hc : B.code id = -1 := by unfold Bk.code; rw [if_pos (.inl e1)]
    rw [hc]
    clear h1 h2 h3 h4
    go_enter Try.func13, Try.ntmps13
    go_wp2
    go_returns
    exact ⟨rfl, Kp.refl _ _⟩
  by_cases e2 : (B.ended.length : Int) ≤ id
  · have hc : B.code id = -1 := by unfold Bk.code; rw [if_pos (.inr e2)]
    rw [hc]
    clear h1 h2 h3 h4
    go_enter Try.func13, Try.ntmps13
    go_wp2
    go_returns
    exact ⟨rfl, Kp.refl _ _⟩
  obtain ⟨n, rfl⟩ : ∃ n : Nat, id = n := ⟨id.toNat, by omega⟩
  have hn : n < B.ended.length := by omega
  have c0 := TAt.cell h3 n hn
  have hc0 : B.code n = if B.ended[n] = true then 3 else if (B.run : Int) = n then 1 else if hasN B.wait n = true then 2 else 0 := by
    unfold Bk.code
    rw [if_neg (by omega)]
    simp [List.getD_eq_getElem?_getD, hn]
  rw [hc0]
  clear hc0 h1 h2 h3 h4 e1 e2
  generalize B.ended[n] = x at *
  cases x with
  | true =>
    rw [if_pos rfl]
    go_enter Try.func13, Try.ntmps13
    go_wp2
    go_returns
    exact ⟨rfl, Kp.refl _ _⟩
  | false =>
    rw [if_neg (by decide)]
    by_cases e3 : (B.run : Int) = n
    · have q3 : ((B.run : Int) == n) = true := by simpa using e3
      rw [if_pos e3]
      clear e3
      go_enter Try.func13, Try.ntmps13
      go_wp2_with fail
      refine (running_book b B F _ HB.out).mono ?_
      rintro e wa ⟨rfl, hka⟩
      go_wp2
      go_returns
      exact ⟨rfl, hka⟩
    · have q3 : ((B.run : Int) == n) = false := by simpa using e3
      rw [if_neg e3]
      clear e3
      cases hh : hasN B.wait n with
      | true =>
        rw [if_pos rfl]
        go_enter Try.func13, Try.ntmps13
        go_wp2_with fail
        refine (running_book b B F _ HB.out).mono ?_
        rintro e wa ⟨rfl, hka⟩
        have d0' := (hka.cell (p := ⟨b, 0, none⟩) hb (fun h => h)).trans d0
        have hba := Nat.lt_of_lt_of_le hb hka.size
        have HW := Lib.hid (row_kp H2.out hka (fun _ _ h => h))
        clear d0
        go_wp2_with fail
        refine (contains_any _ B.wait n _ HW.out (by omega)).mono ?_
        rw [hh]
        rintro e wb ⟨rfl, hkb⟩
        go_wp2
        go_returns
        exact ⟨rfl, hka.trans hkb⟩
      | false =>
        rw [if_neg (by decide)]
        go_enter Try.func13, Try.ntmps13
        go_wp2_with fail
        refine (running_book b B F _ HB.out).mono ?_
        rintro e wa ⟨rfl, hka⟩
        have d0' := (hka.cell (p := ⟨b, 0, none⟩) hb (fun h => h)).trans d0
        have hba := Nat.lt_of_lt_of_le hb hka.size
        have HW := Lib.hid (row_kp H2.out hka (fun _ _ h => h))
        clear d0
        go_wp2_with fail
        refine (contains_any _ B.wait n _ HW.out (by omega)).mono ?_
        rw [hh]
        rintro e wb ⟨rfl, hkb⟩
        go_wp2
        go_returns
        exact ⟨rfl, hka.trans hkb⟩
end Go.Proofs.Ytbmbfgcdbpanjaa
