/- Sites: where they lie; the walks of package site: New, find, Ask and the tellers. -/
import Derived.Test.YtcdofhfneiednaaRows
import Derived.Test.YtcdofhfneiednaaKp
import Derived.Test.YtcdofhfneiednaaAp
import Derived.Test.YtcdofhfneiednaaRg
import Derived.WalkKit
import Derived.ProofKit
import Derived.Handy
import Derived.StillTailTactics
import Derived.BigQuiet
import Derived.Lib.Hide
import Derived.Deep.AppendLies
namespace Go.Proofs.Ytcdofhfneiednaa
set_option linter.unusedSimpArgs false
set_option linter.unusedVariables false
open Go.RowKit

theorem ret_int {k : IntKind} {a b : Int} (h : a = b) : Ending.returned (.int k a) = .returned (.int k b) := by rw [h]

structure Ent where
  (sh sl ep : Int)
  deriving DecidableEq
def Ent.cells (e : Ent) : List Value := [.int .i64 e.sh, .int .i64 e.sl, .int .u64 e.ep]
/-- A site: its numbers and its entries. -/
structure SS where
  (ways warm count state rw hits deopts : Int)
  l : List Ent
def SS.cells (s : SS) (v : Value) : Array Value := #[.int .i64 s.ways, .int .i64 s.warm, .int .i64 s.count, .int .i64 s.state, v, .int .i64 s.rw, .int .i64 s.hits, .int .i64 s.deopts]
/-- The entries that a slice value holds. -/
def EAt (w : World) (v : Value) (l : List Ent) : Prop := w.ownsRow 0 92 3 v l.length (l.flatMap Ent.cells)
def SAt (w : World) (b : Nat) (s : SS) (v : Value) : Prop := Blk w b 89 (s.cells v)
theorem EAt.kp {S : Nat → Prop} {w w' : World} {v : Value} {l : List Ent} (h : EAt w v l) (k : Kp S w w') (hn : ∀ g, v.ownBlock = some g → ¬ S g) : EAt w' v l := by
  refine ⟨h.1, ?_⟩
  rcases h.2 with h2 | ⟨g, cap, cur, rfl, h0, hh, r⟩
  · exact Or.inl h2
  · exact Or.inr ⟨g, cap, cur, rfl, h0, by rw [k.block g (lt_of_block hh) (hn g rfl)]; exact hh, r⟩
theorem EAt.ne {w : World} {v : Value} {l : List Ent} (h : EAt w v l) {b : Nat} {t : TypeId} {cs : Array Value} (hb : Blk w b t cs) (ht : t ≠ 92) : v.ownBlock ≠ some b := by
  rcases h.2 with ⟨rfl, _⟩ | ⟨g, cap, cur, rfl, h0, hh, r⟩
  · simp [Value.ownBlock]
  · intro e
    simp [Value.ownBlock] at e
    subst e
    unfold Blk at hb
    rw [hh] at hb
    simp at hb
    exact ht hb.2.symm
theorem flat_at (l : List Ent) (i : Nat) (hi : i < l.length) : (l.flatMap Ent.cells)[i * 3]? = some (.int .i64 l[i].sh) ∧ (l.flatMap Ent.cells)[i * 3 + 1]? = some (.int .i64 l[i].sl) ∧ (l.flatMap Ent.cells)[i * 3 + 2]? = some (.int .u64 l[i].ep) := by
  induction l generalizing i with
  | nil => simp at hi
  | cons a r ih =>
    cases i with
    | zero => simp [List.flatMap_cons, Ent.cells]
    | succ i =>
      have := ih i (by simpa using hi)
      simp only [List.flatMap_cons, List.getElem_cons_succ]
      have hl : (Ent.cells a).length = 3 := rfl
      refine ⟨?_, ?_, ?_⟩
      · rw [List.getElem?_append_right (by omega), hl, show (i + 1) * 3 - 3 = i * 3 by omega]; exact this.1
      · rw [List.getElem?_append_right (by omega), hl, show (i + 1) * 3 + 1 - 3 = i * 3 + 1 by omega]; exact this.2.1
      · rw [List.getElem?_append_right (by omega), hl, show (i + 1) * 3 + 2 - 3 = i * 3 + 2 by omega]; exact this.2.2
theorem flat_len (l : List Ent) : (l.flatMap Ent.cells).length = l.length * 3 := by
  induction l with
  | nil => rfl
  | cons a r ih => simp [List.flatMap_cons, ih, Ent.cells]; omega
/-- An entry's cells. -/
theorem EAt.cell {w : World} {g : Nat} {cap : Nat} {l : List Ent} (h : EAt w (.slice (some ⟨g, 0, none⟩) l.length cap) l) (i : Nat) (hi : i < l.length) :
    w.cell? ⟨g, i * 3, none⟩ = some (.int .i64 l[i].sh) ∧ w.cell? ⟨g, i * 3 + 1, none⟩ = some (.int .i64 l[i].sl) ∧ w.cell? ⟨g, i * 3 + 2, none⟩ = some (.int .u64 l[i].ep) := by
  obtain ⟨h1, h2, h3⟩ := flat_at l i hi
  exact ⟨(World.ownsRow.cellAt h _ (by omega)).trans h1, (World.ownsRow.cellAt h _ (by omega)).trans h2, (World.ownsRow.cellAt h _ (by omega)).trans h3⟩

/-- A shape's place, or -1. -/
def fidx (l : List Ent) (k : Int) : Int := if l.findIdx (fun e => e.sh == k) < l.length then l.findIdx (fun e => e.sh == k) else -1

theorem find_at {l : List Ent} {k : Int} {i : Nat} (hi : i < l.length) (he : l[i].sh = k) (hn : ∀ j, (h : j < i) → l[j].sh ≠ k) : fidx l k = i := by
  have : l.findIdx (fun e => e.sh == k) = i := by
    rw [List.findIdx_eq hi]
    exact ⟨by simpa using he, fun j hj => by simpa using hn j hj⟩
  unfold fidx
  rw [this, if_pos hi]
theorem find_no {l : List Ent} {k : Int} (hn : ∀ j, (h : j < l.length) → l[j].sh ≠ k) : fidx l k = -1 := by
  unfold fidx
  rw [if_neg]
  intro h
  have := List.findIdx_getElem (p := fun e : Ent => e.sh == k) (w := h)
  exact hn _ h (by simpa using this)

set_option maxRecDepth 100000 in
set_option maxHeartbeats 1000000 in
theorem index_some (g cap bk : Nat) (l : List Ent) (k : Int) (w : World) (h : EAt w (.slice (some ⟨g, 0, none⟩) l.length cap) l) (hk : w.cell? ⟨bk, 0, none⟩ = some (.int .i64 k)) (hkb : bk < w.heap.size) (hlen : l.length ≤ 8) :
    Calls Try.prog 60 #[.slice (some ⟨g, 0, none⟩) l.length cap, .func (.func 61) #[] #[.pointer (some ⟨bk, 0, none⟩)]] w fun e w' => e = .returned (.int .i64 (fidx l k)) ∧ Below w.heap.size w w' := by
  have hg : g < w.heap.size := (h.lt g rfl).2
  have HE := Lib.hid h; clear h
  go_enter Try.func60, Try.ntmps60
  go_wp2_with fail
  go_loopw [8] (fun iv wr => ∃ i : Nat, iv = .int .i64 i ∧ i ≤ l.length ∧ (∀ j, (h : j < i) → (h' : j < l.length) → l[j].sh ≠ k) ∧ Below w.heap.size w wr) (fun iv _ => l.length - (intOf iv).toNat)
  case atStart => exact ⟨0, rfl, Nat.zero_le _, fun _ h => absurd h (Nat.not_lt_zero _), Below.refl _ _⟩
  case round =>
    obtain ⟨i, rfl, hi, hno, hb⟩ := hrel
    have HNO := Lib.hid hno; clear hno
    have hsz := hb.size
    by_cases hlt : i < l.length
    · obtain ⟨c0, c1, c2⟩ := HE.out.cell i hlt
      have d0 := (hb.cell (p := ⟨g, i * 3, none⟩) hg).trans c0
      have d1 := (hb.cell (p := ⟨g, i * 3 + 1, none⟩) hg).trans c1
      have d2 := (hb.cell (p := ⟨g, i * 3 + 2, none⟩) hg).trans c2
      have dk := (hb.cell (p := ⟨bk, 0, none⟩) hkb).trans hk
      clear c0 c1 c2
      have hbk : bk < wr.heap.size := by omega
      by_cases he : l[i].sh = k
      · have hf := find_at hlt he (fun j hj => HNO.out j hj (by omega))
        have HF := Lib.hid hf; clear hf
        have he2 : (l[i].sh == k) = true := by simpa using he
        clear he
        generalize l[i] = x at *
        go_wp2
        go_returns
        exact ⟨ret_int HF.out.symm, by go_grown⟩
      · have he2 : (l[i].sh == k) = false := by simpa using he
        have HN2 := Lib.hid he; clear he
        generalize hx : l[i] = x at *
        have HX := Lib.hid hx; clear hx
        go_wp2
        go_roundw
        case rel =>
          refine ⟨i + 1, by go_num, by omega, fun j hj hj' => ?_, by go_grown⟩
          rcases Nat.lt_succ_iff_lt_or_eq.1 hj with h | h
          · exact HNO.out j h hj'
          · subst h; rw [HX.out]; exact HN2.out
        case measure => simp [intOf]; omega
    · have hf := find_no (l := l) (k := k) (fun j hj => HNO.out j (by omega) hj)
      have HF := Lib.hid hf; clear hf
      go_wp2
      go_returns
      exact ⟨ret_int HF.out.symm, hb⟩

set_option maxRecDepth 100000 in
theorem index_none (sa : Option Addr) (cap : Nat) (f : Value) (w : World) :
    Calls Try.prog 60 #[.slice sa 0 cap, f] w fun e w' => e = .returned (.int .i64 (-1)) ∧ w = w' := by
  go_enter Try.func60, Try.ntmps60
  go_wp2
  go_rounds 1
  go_returns
  exact ⟨rfl, rfl⟩

set_option maxRecDepth 100000 in
set_option maxHeartbeats 400000 in
theorem find_any (b : Nat) (s : SS) (v : Value) (k : Int) (w : World) (h : SAt w b s v) (hl : EAt w v s.l) (hlen : s.l.length ≤ 8) :
    Calls Try.prog 41 #[.pointer (some ⟨b, 0, none⟩), .int .i64 k] w fun e w' => e = .returned (.int .i64 (fidx s.l k)) ∧ Below w.heap.size w w' := by
  have hmf : ∀ (fn : Fn) (first cap : Array Value) (w : World), (Instr.makeFunc fn first cap).run Try.prog w = .ok (.func fn first cap) w := fun _ _ _ _ => rfl
  have hb := h.lt
  have h4 := h.cell 4 v rfl
  have hl1 := hl.kp ((Kp.refl (fun _ => False) w).alloc (.cells #[.int .i64 k] 3)) (fun _ _ h => h)
  clear h
  rcases hl.2 with ⟨rfl, h0⟩ | ⟨g, cap, cur, rfl, _, _, _⟩
  · have e0 : s.l = [] := List.eq_nil_of_length_eq_zero h0
    have hf : fidx s.l k = -1 := by rw [e0]; rfl
    rw [hf]
    clear h0 e0 hl hl1 hlen hf
    go_enter Try.func41, Try.ntmps41
    go_wp2_with fail
    refine (index_none _ _ _ _).mono ?_
    rintro e w1 ⟨rfl, rfl⟩
    go_wp2
    go_returns
    exact ⟨rfl, by go_grown⟩
  · have HL1 := Lib.hid hl1
    clear hl hl1
    go_enter Try.func41, Try.ntmps41
    go_wp2_with fail
    refine (index_some g cap w.heap.size s.l k _ HL1.out (by simp) (by simp) hlen).mono ?_
    rintro e w1 ⟨rfl, hk⟩
    have hb2 : Below w.heap.size w w1 := ((Below.refl _ _).alloc (Nat.le_refl _) _).trans (hk.mono (by simp))
    clear hk
    go_wp2
    go_returns
    exact ⟨rfl, hb2⟩

-- the tellers
set_option maxRecDepth 100000 in
theorem state_any (b : Nat) (s : SS) (v : Value) (w : World) (h : SAt w b s v) : Calls Try.prog 17 #[.pointer (some ⟨b, 0, none⟩)] w fun e w' => e = .returned (.int .i64 s.state) ∧ Kp (fun _ => False) w w' := by
  have hmf : ∀ (fn : Fn) (first cap : Array Value) (w : World), (Instr.makeFunc fn first cap).run Try.prog w = .ok (.func fn first cap) w := fun _ _ _ _ => rfl
  have hb := h.lt
  have h3 := h.cell 3 (.int .i64 s.state) rfl
  clear h
  go_enter Try.func17, Try.ntmps17
  go_wp2
  go_returns
  exact ⟨rfl, by (repeat (first | (with_reducible exact Kp.refl _ _) | (with_reducible assumption) | (with_reducible refine Kp.drew ?_) | (with_reducible refine Kp.drewN ?_ _) | (with_reducible refine Kp.alloc ?_ _) | (with_reducible refine Kp.setCell ?_ ?_ _) | (left; rfl) | (left; left; rfl) | (right; simp; done) | (right; simp; omega) | go_size))⟩
end Go.Proofs.Ytcdofhfneiednaa
