/- Events and policies: where they lie; within, Event.right, Right on both sides. -/
import Derived.Test.YtcdofhfneiednaaSiP
import Derived.Deep.LoopGhost
namespace Go.Proofs.Ytcdofhfneiednaa
set_option linter.unusedSimpArgs false
set_option linter.unusedVariables false
open Go.RowKit

structure Ev where
  (at' kind site way : Int)
  deriving DecidableEq
instance : Inhabited Ev := ⟨⟨0, 0, 0, 0⟩⟩
def Ev.cells (e : Ev) : List Value := [.int .i64 e.at', .int .i64 e.kind, .int .i64 e.site, .int .i64 e.way]
def Ev.agg (e : Ev) : Value := .agg #[.int .i64 e.at', .int .i64 e.kind, .int .i64 e.site, .int .i64 e.way]
/-- A row of events of the call's own (t: 69 the program's, 96 the document's). -/
def ERow (t : TypeId) (w : World) (v : Value) (l : List Ev) : Prop := w.ownsRow 0 t 4 v l.length (l.flatMap Ev.cells)
theorem eflat_len (l : List Ev) : (l.flatMap Ev.cells).length = l.length * 4 := by
  induction l with
  | nil => rfl
  | cons a r ih => simp [List.flatMap_cons, ih, Ev.cells]; omega
theorem eflat_at (l : List Ev) (i : Nat) (hi : i < l.length) : (l.flatMap Ev.cells)[i * 4]? = some (.int .i64 l[i].at') ∧ (l.flatMap Ev.cells)[i * 4 + 1]? = some (.int .i64 l[i].kind) ∧ (l.flatMap Ev.cells)[i * 4 + 2]? = some (.int .i64 l[i].site) ∧ (l.flatMap Ev.cells)[i * 4 + 3]? = some (.int .i64 l[i].way) := by
  induction l generalizing i with
  | nil => simp at hi
  | cons a r ih =>
    cases i with
    | zero => simp [List.flatMap_cons, Ev.cells]
    | succ i =>
      have := ih i (by simpa using hi)
      simp only [List.flatMap_cons, List.getElem_cons_succ]
      have hl : (Ev.cells a).length = 4 := rfl
      refine ⟨?_, ?_, ?_, ?_⟩
      · rw [List.getElem?_append_right (by omega), hl, show (i + 1) * 4 - 4 = i * 4 by omega]; exact this.1
      · rw [List.getElem?_append_right (by omega), hl, show (i + 1) * 4 + 1 - 4 = i * 4 + 1 by omega]; exact this.2.1
      · rw [List.getElem?_append_right (by omega), hl, show (i + 1) * 4 + 2 - 4 = i * 4 + 2 by omega]; exact this.2.2.1
      · rw [List.getElem?_append_right (by omega), hl, show (i + 1) * 4 + 3 - 4 = i * 4 + 3 by omega]; exact this.2.2.2
theorem ERow.cell {t : TypeId} {w : World} {g : Nat} {cap : Nat} {l : List Ev} (h : ERow t w (.slice (some ⟨g, 0, none⟩) l.length cap) l) (i : Nat) (hi : i < l.length) :
    w.cell? ⟨g, i * 4, none⟩ = some (.int .i64 l[i].at') ∧ w.cell? ⟨g, i * 4 + 1, none⟩ = some (.int .i64 l[i].kind) ∧ w.cell? ⟨g, i * 4 + 2, none⟩ = some (.int .i64 l[i].site) ∧ w.cell? ⟨g, i * 4 + 3, none⟩ = some (.int .i64 l[i].way) := by
  obtain ⟨h1, h2, h3, h4⟩ := eflat_at l i hi
  exact ⟨(World.ownsRow.cellAt h _ (by omega)).trans h1, (World.ownsRow.cellAt h _ (by omega)).trans h2, (World.ownsRow.cellAt h _ (by omega)).trans h3, (World.ownsRow.cellAt h _ (by omega)).trans h4⟩
theorem row_kp {S : Nat → Prop} {w w' : World} {base n size : Nat} {e : TypeId} {v : Value} {xs : List Value} (h : w.ownsRow base e size v n xs) (k : Kp S w w') (hn : ∀ g, v.ownBlock = some g → ¬ S g) : w'.ownsRow base e size v n xs := by
  refine ⟨h.1, ?_⟩
  rcases h.2 with h2 | ⟨g, cap, cur, rfl, h0, hh, r⟩
  · exact Or.inl h2
  · exact Or.inr ⟨g, cap, cur, rfl, h0, by rw [k.block g (lt_of_block hh) (hn g rfl)]; exact hh, r⟩
theorem row_ne {w : World} {base n size : Nat} {e : TypeId} {v : Value} {xs : List Value} (h : w.ownsRow base e size v n xs) {b : Nat} {t : TypeId} {cs : Array Value} (hb : Blk w b t cs) (ht : t ≠ e) : v.ownBlock ≠ some b := by
  rcases h.2 with ⟨rfl, _⟩ | ⟨g, cap, cur, rfl, h0, hh, r⟩
  · simp [Value.ownBlock]
  · intro c
    simp [Value.ownBlock] at c
    subst c
    unfold Blk at hb
    rw [hh] at hb
    simp at hb
    exact ht hb.2.symm
theorem row_form {w : World} {base n size : Nat} {e : TypeId} {v : Value} {xs : List Value} (h : w.ownsRow base e size v n xs) : ∃ ao cap, v = .slice ao n cap := by
  rcases h.2 with ⟨rfl, rfl⟩ | ⟨g, cap, cur, rfl, _⟩
  · exact ⟨none, 0, rfl⟩
  · exact ⟨_, _, rfl⟩
theorem row_some {w : World} {base n size : Nat} {e : TypeId} {v : Value} {xs : List Value} (h : w.ownsRow base e size v n xs) (hn : 0 < n) : ∃ g cap, v = .slice (some ⟨g, 0, none⟩) n cap := by
  rcases h.2 with ⟨_, h0⟩ | ⟨g, cap, cur, rfl, _⟩
  · omega
  · exact ⟨_, _, rfl⟩

structure Pol where
  (ways warm deep fan : Int)
  evs : List Ev
def Pol.cells (p : Pol) (v : Value) : Array Value := #[.int .i64 p.ways, .int .i64 p.warm, .int .i64 p.deep, .int .i64 p.fan, v]
def within (n lo hi : Int) : Bool := decide (lo ≤ n) && decide (n ≤ hi)
def Ev.right (e : Ev) : Bool := decide (1 ≤ e.at') && within e.kind 1 3
def Pol.right (p : Pol) : Bool := within p.ways 0 8 && within p.warm 0 255 && within p.deep 0 64 && within p.fan 0 64 && decide (p.evs.length ≤ 64) && p.evs.all Ev.right

theorem ret_bool {a b : Bool} (h : a = b) : Ending.returned (.bool a) = .returned (.bool b) := by rw [h]
set_option maxRecDepth 100000 in
theorem within_any (n lo hi : Int) (w : World) : Calls Try.prog 55 #[.int .i64 n, .int .i64 lo, .int .i64 hi] w fun e w' => e = .returned (.bool (within n lo hi)) ∧ w' = w := by
  unfold within
  by_cases h1 : lo ≤ n
  · have q : decide (lo ≤ n) = true := by simpa using h1
    rw [q]
    go_enter Try.func55, Try.ntmps55
    go_wp2
    go_returns
    exact ⟨ret_bool (by simp), rfl⟩
  · have q : decide (lo ≤ n) = false := by simpa using h1
    rw [q]
    go_enter Try.func55, Try.ntmps55
    go_wp2
    go_returns
    exact ⟨ret_bool (by simp), rfl⟩
set_option maxRecDepth 100000 in
theorem evright_any (e : Ev) (w : World) : Calls Try.prog 56 #[e.agg] w fun r w' => r = .returned (.bool e.right) ∧ Kp (fun _ => False) w w' := by
  obtain ⟨a, k, s, y⟩ := e
  unfold Ev.right Ev.agg
  dsimp only
  by_cases h1 : 1 ≤ a
  · have q : decide (1 ≤ a) = true := by simpa using h1
    rw [q]
    go_enter Try.func56, Try.ntmps56
    go_wp2_with fail
    refine (within_any k 1 3 _).mono ?_
    rintro e wa ⟨rfl, rfl⟩
    go_wp2
    go_returns
    exact ⟨ret_bool (by simp), (Kp.refl _ _).alloc _⟩
  · have q : decide (1 ≤ a) = false := by simpa using h1
    rw [q]
    go_enter Try.func56, Try.ntmps56
    go_wp2
    go_returns
    exact ⟨ret_bool (by simp), (Kp.refl _ _).alloc _⟩
end Go.Proofs.Ytcdofhfneiednaa
