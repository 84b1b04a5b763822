/- Books of threads: where they lie; the walks of package coro: Index, Contains, Running, Deep, Status. -/
import Derived.Test.YtbmbfgcdbpanjaaRows
import Derived.Test.YtbmbfgcdbpanjaaKp
import Derived.Test.YtbmbfgcdbpanjaaAp
import Derived.Test.YtbmbfgcdbpanjaaRg
import Derived.WalkKit
import Derived.ProofKit
import Derived.Handy
import Derived.StillTailTactics
import Derived.BigQuiet
import Derived.Lib.Hide
import Derived.Deep.AppendLies
namespace Go.Proofs.Ytbmbfgcdbpanjaa
set_option linter.unusedSimpArgs false
set_option linter.unusedVariables false
open Go.RowKit

theorem ret_int {k : IntKind} {a b : Int} (h : a = b) : Ending.returned (.int k a) = .returned (.int k b) := by rw [h]
theorem ret_bool {a b : Bool} (h : a = b) : Ending.returned (.bool a) = .returned (.bool b) := by rw [h]

/-- A book: who waits (the last one runs), and who has ended. -/
structure Bk where
  wait : List Nat
  ended : List Bool
def nums (l : List Nat) : List Value := l.map (fun (i : Nat) => Value.int .i64 (i : Int))
def bits (l : List Bool) : List Value := l.map .bool
def NAt (w : World) (v : Value) (l : List Nat) : Prop := w.ownsRow 0 3 1 v l.length (nums l)
def TAt (w : World) (v : Value) (l : List Bool) : Prop := w.ownsRow 0 4 1 v l.length (bits l)
theorem row_kp {S : Nat → Prop} {w w' : World} {base n size : Nat} {e : TypeId} {v : Value} {xs : List Value} (h : w.ownsRow base e size v n xs) (k : Kp S w w') (hn : ∀ g, v.ownBlock = some g → ¬ S g) : w'.ownsRow base e size v n xs := by
  refine ⟨h.1, ?_⟩
  rcases h.2 with h2 | ⟨g, cap, cur, rfl, h0, hh, r⟩
  · exact Or.inl h2
  · exact Or.inr ⟨g, cap, cur, rfl, h0, by rw [k.block g (lt_of_block hh) (hn g rfl)]; exact hh, r⟩
theorem row_ne {w : World} {base n size : Nat} {e : TypeId} {v : Value} {xs : List Value} (h : w.ownsRow base e size v n xs) {b : Nat} {t : TypeId} {cs : Array Value} (hb : Blk w b t cs) (ht : t ≠ e) : v.ownBlock ≠ some b := by
  rcases h.2 with ⟨rfl, _⟩ | ⟨g, cap, cur, rfl, h0, hh, r⟩
  · simp [Value.ownBlock]
  · intro c
    simp [Value.ownBlock] at c
    subst c
    unfold Blk at hb
    rw [hh] at hb
    simp at hb
    exact ht hb.2.symm
theorem row_apart {w : World} {base n size base' n' size' : Nat} {e e' : TypeId} {v v' : Value} {xs xs' : List Value} (h : w.ownsRow base e size v n xs) (h' : w.ownsRow base' e' size' v' n' xs') (ht : e ≠ e') {k : Nat} (hk : v.ownBlock = some k) : v'.ownBlock ≠ some k := by
  rcases h.2 with ⟨rfl, _⟩ | ⟨g, cap, cur, rfl, h0, hh, r⟩
  · cases hk
  · rcases h'.2 with ⟨rfl, _⟩ | ⟨g', cap', cur', rfl, h0', hh', r'⟩
    · simp [Value.ownBlock]
    · intro c
      simp [Value.ownBlock] at c hk
      subst hk; subst c
      rw [hh] at hh'
      simp at hh'
      exact ht hh'.2
theorem row_form {w : World} {base n size : Nat} {e : TypeId} {v : Value} {xs : List Value} (h : w.ownsRow base e size v n xs) : ∃ ao cap, v = .slice ao n cap := by
  rcases h.2 with ⟨rfl, rfl⟩ | ⟨g, cap, cur, rfl, _⟩
  · exact ⟨none, 0, rfl⟩
  · exact ⟨_, _, rfl⟩
theorem row_some {w : World} {base n size : Nat} {e : TypeId} {v : Value} {xs : List Value} (h : w.ownsRow base e size v n xs) (hn : 0 < n) : ∃ g cap, v = .slice (some ⟨g, 0, none⟩) n cap := by
  rcases h.2 with ⟨_, h0⟩ | ⟨g, cap, cur, rfl, _⟩
  · omega
  · exact ⟨_, _, rfl⟩
theorem NAt.cell {w : World} {g cap : Nat} {l : List Nat} (h : NAt w (.slice (some ⟨g, 0, none⟩) l.length cap) l) (i : Nat) (hi : i < l.length) : w.cell? ⟨g, i, none⟩ = some (.int .i64 (l[i] : Nat)) := by
  rw [World.ownsRow.cellAt h i (by omega)]
  simp [nums, hi]
theorem TAt.cell {w : World} {g cap : Nat} {l : List Bool} (h : TAt w (.slice (some ⟨g, 0, none⟩) l.length cap) l) (i : Nat) (hi : i < l.length) : w.cell? ⟨g, i, none⟩ = some (.bool l[i]) := by
  rw [World.ownsRow.cellAt h i (by omega)]
  simp [bits, hi]

def nidx (l : List Nat) (k : Int) : Int := if l.findIdx (fun (i : Nat) => (i : Int) == k) < l.length then l.findIdx (fun (i : Nat) => (i : Int) == k) else -1
def hasN (l : List Nat) (k : Int) : Bool := l.any (fun i => (i : Int) == k)
theorem nidx_at {l : List Nat} {k : Int} {i : Nat} (hi : i < l.length) (he : (l[i] : Int) = k) (hn : ∀ j, (h : j < i) → (l[j] : Int) ≠ k) : nidx l k = i := by
  have : l.findIdx (fun (i : Nat) => (i : Int) == k) = i := by
    rw [List.findIdx_eq hi]
    exact ⟨by simpa using he, fun j hj => by simpa using hn j hj⟩
  unfold nidx
  rw [this, if_pos hi]
theorem nidx_no {l : List Nat} {k : Int} (hn : ∀ j, (h : j < l.length) → (l[j] : Int) ≠ k) : nidx l k = -1 := by
  unfold nidx
  rw [if_neg]
  intro h
  have := List.findIdx_getElem (p := fun (i : Nat) => (i : Int) == k) (w := h)
  exact hn _ h (by simpa using this)
theorem nidx_has (l : List Nat) (k : Int) : decide (0 ≤ nidx l k) = hasN l k := by
  unfold nidx hasN
  rw [Bool.eq_iff_iff]
  split
  · rename_i h
    have := List.findIdx_getElem (p := fun (i : Nat) => (i : Int) == k) (w := h)
    simp only [List.any_eq_true, decide_eq_true_eq]
    exact ⟨fun _ => ⟨_, List.getElem_mem h, this⟩, fun _ => by omega⟩
  · rename_i h
    simp only [List.any_eq_true, decide_eq_true_eq]
    refine ⟨fun h => by omega, fun ⟨x, hx, he⟩ => ?_⟩
    exact absurd (List.findIdx_lt_length_of_exists ⟨x, hx, he⟩) h

set_option maxRecDepth 100000 in
set_option maxHeartbeats 1000000 in
theorem index_any (v : Value) (l : List Nat) (k : Int) (w : World) (h : NAt w v l) (hlen : l.length ≤ 1000000) :
    Calls Try.prog 34 #[v, .int .i64 k] w fun e w' => e = .returned (.int .i64 (nidx l k)) ∧ Kp (fun _ => False) w w' := by
  by_cases h0 : l.length = 0
  · obtain ⟨ao, cap, rfl⟩ := row_form h
    have hn : nidx l k = -1 := nidx_no (fun j hj => by omega)
    rw [h0, hn]
    clear h hn
    go_enter Try.func34, Try.ntmps34
    go_wp2
    go_rounds 1
    go_returns
    exact ⟨rfl, Kp.refl _ _⟩
  obtain ⟨g, cap, rfl⟩ := row_some h (by omega)
  have hg : g < w.heap.size := (h.lt g rfl).2
  have HE := Lib.hid h; clear h
  go_enter Try.func34, Try.ntmps34
  go_wp2_with fail
  go_loopw [8] (fun iv wr => ∃ i : Nat, iv = .int .i64 i ∧ i ≤ l.length ∧ (∀ j, (h : j < i) → (h' : j < l.length) → (l[j] : Int) ≠ k) ∧ Kp (fun _ => False) w wr) (fun iv _ => l.length - (intOf iv).toNat)
  case atStart => exact ⟨0, rfl, Nat.zero_le _, fun _ h => absurd h (Nat.not_lt_zero _), Kp.refl _ _⟩
  case round =>
    obtain ⟨i, rfl, hi, hno, hb⟩ := hrel
    have HNO := Lib.hid hno; clear hno
    have hsz := hb.size
    by_cases hlt : (i : Int) < l.length
    · have hlt' : i < l.length := by omega
      have c0 := NAt.cell HE.out i hlt'
      have d0 := (hb.cell (p := ⟨g, i, none⟩) hg (fun h => h)).trans c0
      clear c0
      by_cases he : (l[i] : Int) = k
      · have hf := nidx_at hlt' he (fun j hj => HNO.out j hj (by omega))
        have HF := Lib.hid hf; clear hf
        have he2 : (k == (l[i] : Int)) = true := by simpa using he.symm
        clear he
        generalize l[i] = x at *
        go_wp2
        go_returns
        exact ⟨ret_int HF.out.symm, hb⟩
      · have he2 : (k == (l[i] : Int)) = false := by simpa using (fun e => he e.symm)
        have HN2 := Lib.hid he; clear he
        generalize hx : l[i] = x at *
        have HX := Lib.hid hx; clear hx
        go_wp2
        go_roundw
        case rel =>
          refine ⟨i + 1, by go_num, by omega, fun j hj hj' => ?_, hb⟩
          rcases Nat.lt_succ_iff_lt_or_eq.1 hj with h | h
          · exact HNO.out j h hj'
          · subst h; rw [HX.out]; exact HN2.out
        case measure => simp [intOf]; omega
    · have hf := nidx_no (l := l) (k := k) (fun j hj => HNO.out j (by omega) hj)
      have HF := Lib.hid hf; clear hf
      go_wp2
      go_returns
      exact ⟨ret_int HF.out.symm, hb⟩
set_option maxRecDepth 100000 in
theorem contains_any (v : Value) (l : List Nat) (k : Int) (w : World) (h : NAt w v l) (hlen : l.length ≤ 1000000) :
    Calls Try.prog 26 #[v, .int .i64 k] w fun e w' => e = .returned (.bool (hasN l k)) ∧ Kp (fun _ => False) w w' := by
  obtain ⟨ao, cap, rfl⟩ := row_form h
  have H := Lib.hid h; clear h
  have hh := Lib.hid (nidx_has l k)
  go_enter Try.func26, Try.ntmps26
  go_wp2_with fail
  refine (index_any _ l k _ H.out hlen).mono ?_
  rintro e wa ⟨rfl, hka⟩
  go_wp2
  go_returns
  exact ⟨ret_bool hh.out, hka⟩
end Go.Proofs.Ytbmbfgcdbpanjaa
