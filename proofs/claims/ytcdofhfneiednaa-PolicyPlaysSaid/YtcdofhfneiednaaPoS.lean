/- The accesses that came in; the law of late events. -/
import Derived.Test.YtcdofhfneiednaaPoR
namespace Go.Proofs.Ytcdofhfneiednaa
set_option linter.unusedSimpArgs false
set_option linter.unusedVariables false
open Go.RowKit

structure Acc where
  (id sh : Int)
instance : Inhabited Acc := ⟨⟨0, 0⟩⟩
def AIn (w : World) (ao : Option Addr) (l : List Acc) : Prop :=
  l.length = 0 ∨ ∃ b off, ao = some ⟨b, off, none⟩ ∧ b < w.heap.size ∧ ∀ i, (h : i < l.length) → w.cell? ⟨b, off + i * 2, none⟩ = some (.int .i64 l[i].id) ∧ w.cell? ⟨b, off + i * 2 + 1, none⟩ = some (.int .i64 l[i].sh)
theorem AIn.kp {w w' : World} {ao : Option Addr} {l : List Acc} {S : Nat → Prop} (h : AIn w ao l) (k : Kp S w w') (hS : ∀ i, i < w.heap.size → ¬ S i) : AIn w' ao l := by
  refine h.imp id ?_
  rintro ⟨b, off, rfl, hb, hc⟩
  exact ⟨b, off, rfl, Nat.lt_of_lt_of_le hb k.size, fun i hi => ⟨(k.cell (p := ⟨b, _, none⟩) hb (hS b hb)).trans (hc i hi).1, (k.cell (p := ⟨b, _, none⟩) hb (hS b hb)).trans (hc i hi).2⟩⟩
/-- A policy whose late events are left out. -/
def lateP (p : Pol) (N : Int) : Pol := { p with evs := p.evs.filter (fun e => decide (e.at' ≤ N)) }
theorem due_late (es : List Ev) (N m : Int) (h : m ≤ N) : due (es.filter (fun e => decide (e.at' ≤ N))) m = due es m := by
  unfold due
  rw [List.filter_filter]
  apply List.filter_congr
  intro e _
  by_cases he : e.at' = m
  · simp [he, h]
  · simp [he]
theorem late_step (p : Pol) (l : List SS) (n N : Int) (id : Int) {i : Int} (hN : n + 1 ≤ N) (h4 : l.length = 4) (hl : Lo i l) :
    ∃ l2 n2, Ss.at' ⟨p, l, n⟩ id = ⟨p, l2, n2⟩ ∧ Ss.at' ⟨lateP p N, l, n⟩ id = ⟨lateP p N, l2, n2⟩ ∧ l2.length = 4 ∧ n ≤ n2 ∧ n2 ≤ n + 1 ∧ Lo i l2 := by
  cases hin : inR id l.length with
  | false =>
    refine ⟨l, n, ?_, ?_, h4, by omega, by omega, hl⟩ <;> simp [Ss.at', hin]
  | true =>
    refine ⟨(due p.evs (n + 1)).foldl force l, n + 1, ?_, ?_, by rw [fold_len]; exact h4, by omega, by omega, lo_fold _ hl⟩
    · simp [Ss.at', hin]
    · simp [Ss.at', hin, lateP, due_late p.evs N (n + 1) hN]
theorem inR_mem {id : Int} {n : Nat} (h : inR id n = true) : ∃ j : Nat, id = j ∧ j < n := by
  unfold inR at h
  simp at h
  exact ⟨id.toNat, by omega, by omega⟩
theorem s0_four (p : Pol) (N : Int) : List.replicate 4 (s0of (lateP p N)) = List.replicate 4 (s0of p) := rfl
/-- What the loop over the accesses keeps. -/
structure Lat (R : Nat → Prop) (wc : World) (p p' : Pol) (b : Nat) (bs : List Nat) (b' : Nat) (bs' : List Nat) (i : Nat) (l : List SS) (n : Int) (wr : World) : Prop where
  two : Two R wr b ⟨p, l, n⟩ bs b' ⟨p', l, n⟩ bs'
  four : l.length = 4
  lo : 0 ≤ n
  hi : n ≤ i
  few : Lo i l
  kp : Kp R wc wr
end Go.Proofs.Ytcdofhfneiednaa
