/- The walks of package coro: New, Create, back, Resume, Yield, Finish, Close. -/
import Derived.Test.YtbmbfgcdbpanjaaCrB
namespace Go.Proofs.Ytbmbfgcdbpanjaa
set_option linter.unusedSimpArgs false
set_option linter.unusedVariables false
open Go.RowKit

theorem info3 : (Try.prog.info? 3).map (fun i => (i.zero, i.size, i.bytes)) = some (some (.int .i64 0), 1, 8) := by kernel_rfl
theorem info4 : (Try.prog.info? 4).map (fun i => (i.zero, i.size, i.bytes)) = some (some (.bool false), 1, 1) := by kernel_rfl

def Bk.create (B : Bk) : Bk := { B with ended := B.ended ++ [false] }
def Bk.resume (B : Bk) (id : Int) : Bk := if B.code id = 0 then { B with wait := B.wait ++ [id.toNat] } else B
def Bk.back (B : Bk) : Bk := if B.wait.length = 1 then B else { B with wait := B.wait.dropLast }
def Bk.finish (B : Bk) : Bk := if B.wait.length = 1 then B else { wait := B.wait.dropLast, ended := B.ended.set B.run true }
def Bk.close (B : Bk) (id : Int) : Bk := if B.code id = 0 then { B with ended := B.ended.set id.toNat true } else B
def resS (c : Int) : ByteArray := if c = 3 then mDead else if c = 1 ∨ c = 2 then mRes else wNone
def resE (c : Int) : Int := if c = 0 then 0 else if c = -1 then 16 else 19
def cloS (c : Int) : ByteArray := if c = 1 ∨ c = 2 then mClose else wNone
def cloE (c : Int) : Int := if c = 0 ∨ c = 3 then 0 else if c = -1 then 16 else 19
def bkS (B : Bk) : ByteArray := if B.wait.length = 1 then mYield else wNone
def bkE (B : Bk) : Int := if B.wait.length = 1 then 19 else 0

theorem code_cases (B : Bk) (id : Int) : B.code id = -1 ∨ B.code id = 0 ∨ B.code id = 1 ∨ B.code id = 2 ∨ B.code id = 3 := by
  unfold Bk.code
  repeat' split
  all_goals simp
/-- A suspended thread. -/
theorem code_zero {B : Bk} {id : Int} (h : B.code id = 0) : ∃ n : Nat, id = n ∧ n < B.ended.length ∧ B.ended[n]? = some false ∧ n ∉ B.wait := by
  unfold Bk.code at h
  split at h
  · omega
  rename_i h0
  split at h
  · omega
  rename_i h1
  split at h
  · omega
  split at h
  · omega
  rename_i h2
  obtain ⟨n, rfl⟩ : ∃ n : Nat, id = n := ⟨id.toNat, by omega⟩
  have hn : n < B.ended.length := by omega
  refine ⟨n, rfl, hn, ?_, ?_⟩
  · simp [List.getD_eq_getElem?_getD, hn] at h1
    rw [List.getElem?_eq_getElem hn, h1]
  · intro hm
    apply h2
    unfold hasN
    rw [List.any_eq_true]
    exact ⟨n, hm, by simp⟩
theorem mem_dropLast {l : List Nat} {x : Nat} (h : x ∈ l.dropLast) : x ∈ l := (List.dropLast_sublist l).subset h
theorem head_dropLast {l : List Nat} (h : l.head? = some 0) (hl : ¬ l.length = 1) : l.dropLast.head? = some 0 := by
  match l, h with
  | [a], _ => simp at hl
  | a :: b :: r, h => simpa using h
theorem ok_create {B : Bk} (h : BOk B) (hs : B.ended.length < 100000) : BOk B.create := by
  refine ⟨h.head, h.nodup, fun i hi => ?_, fun i hi => ?_, by simp [Bk.create]; have := h.small; omega⟩
  · have := h.lt i hi; simp [Bk.create]; omega
  · have := h.lt i hi; simp only [Bk.create]; rw [List.getElem?_append_left this]; exact h.live i hi
theorem ok_resume {B : Bk} (h : BOk B) (hs : B.wait.length < 100000) (id : Int) : BOk (B.resume id) := by
  unfold Bk.resume
  split
  · rename_i hc
    obtain ⟨n, rfl, hn, hl, hm⟩ := code_zero hc
    simp only [Int.toNat_natCast]
    refine ⟨?_, ?_, fun i hi => ?_, fun i hi => ?_, by simp; have := h.small; omega⟩
    · have := h.head; simp only [List.head?_append, this]; rfl
    · rw [List.nodup_append]
      refine ⟨h.nodup, by simp, ?_⟩
      intro a ha b hb e
      simp at hb
      subst hb; subst e
      exact hm ha
    · simp at hi
      rcases hi with hi | rfl
      · exact h.lt i hi
      · exact hn
    · simp at hi
      rcases hi with hi | rfl
      · exact h.live i hi
      · exact hl
  · exact h
theorem ok_back {B : Bk} (h : BOk B) : BOk B.back := by
  unfold Bk.back
  split
  · exact h
  · rename_i hl
    exact ⟨head_dropLast h.head hl, h.nodup.sublist (List.dropLast_sublist _), fun i hi => h.lt i (mem_dropLast hi), fun i hi => h.live i (mem_dropLast hi), by simp; have := h.small; omega⟩
theorem run_notin {B : Bk} (h : BOk B) {i : Nat} (hi : i ∈ B.wait.dropLast) : i ≠ B.run := by
  intro e
  have hp := h.ne
  have hn := h.nodup
  have hg : B.wait = B.wait.dropLast ++ [B.run] := by
    have hne : B.wait ≠ [] := List.ne_nil_of_length_pos hp
    have := List.dropLast_concat_getLast hne
    unfold Bk.run
    rw [List.getLastD_eq_getLast?, List.getLast?_eq_some_getLast hne]
    exact this.symm
  rw [hg, List.nodup_append] at hn
  exact hn.2.2 i hi B.run (by simp) e
theorem ok_finish {B : Bk} (h : BOk B) : BOk B.finish := by
  unfold Bk.finish
  split
  · exact h
  · rename_i hl
    refine ⟨head_dropLast h.head hl, h.nodup.sublist (List.dropLast_sublist _), fun i hi => by simpa using h.lt i (mem_dropLast hi), fun i hi => ?_, by simp; have := h.small; omega⟩
    simp only
    rw [List.getElem?_set_ne (Ne.symm (run_notin h hi))]
    exact h.live i (mem_dropLast hi)
theorem ok_close {B : Bk} (h : BOk B) (id : Int) : BOk (B.close id) := by
  unfold Bk.close
  split
  · rename_i hc
    obtain ⟨n, rfl, hn, hl, hm⟩ := code_zero hc
    simp only [Int.toNat_natCast]
    refine ⟨h.head, h.nodup, fun i hi => by simpa using h.lt i hi, fun i hi => ?_, by simpa using h.small⟩
    simp only
    rw [List.getElem?_set_ne (fun e => hm (by rw [e]; exact hi))]
    exact h.live i hi
  · exact h

/-- What a step of a book leaves. -/
def ThenB (b : Nat) (B' : Bk) (F : Nat → Prop) (w w' : World) : Prop := ∃ F', Book w' b B' F' ∧ Kp F w w' ∧ ∀ k, F' k → F k ∨ w.heap.size ≤ k
theorem thenb_same {b : Nat} {B : Bk} {F : Nat → Prop} {w w' : World} (h : Book w b B F) (k : Kp (fun _ => False) w w') : ThenB b B F w w' :=
  ⟨F, h.kp k (fun _ _ _ h => h), k.mono (fun _ _ h => h.elim), fun _ h => .inl h⟩
theorem thenb_pre {b : Nat} {B : Bk} {F : Nat → Prop} {w wa w' : World} (k : Kp (fun _ => False) w wa) (h : ThenB b B F wa w') : ThenB b B F w w' := by
  obtain ⟨F', h1, h2, h3⟩ := h
  exact ⟨F', h1, (k.mono (fun _ _ h => h.elim)).trans h2, fun i hi => (h3 i hi).imp id (fun h => Nat.le_trans k.size h)⟩

set_option maxRecDepth 100000 in
theorem newb_any (w : World) : Calls Try.prog 9 #[] w fun e w' => ∃ b F, e = .returned (.pointer (some ⟨b, 0, none⟩)) ∧ Book w' b ⟨[0], [false]⟩ F ∧ (∀ k, F k → w.heap.size ≤ k) ∧ Below w.heap.size w w' := by
  go_enter Try.func9, Try.ntmps9
  go_wp2
  go_returns
  refine ⟨_, fun k => w.heap.size ≤ k, rfl, ⟨_, _, Blk.new (by simp), ?_, ?_, ⟨rfl, by simp, by simp, by simp, by simp⟩, by omega, ?_, ?_⟩, fun _ h => h, by go_grown⟩
  · exact row_kp (World.ownsRow_lit (base := 0) (e := 3) (size := 1) w #[.int .i64 0] 1 (by omega) (by unfold maxLen; omega) rfl) (((Kp.refl (fun _ => False) _).alloc _).alloc _) (fun _ _ h => h)
  · have h := World.ownsRow_lit (base := 0) (e := 4) (size := 1) (w.alloc (.cells #[.int .i64 0] 3)) #[.bool false] 1 (by omega) (by unfold maxLen; omega) rfl
    rw [show (w.alloc (.cells #[.int .i64 0] 3)).heap.size = w.heap.size + 1 by simp] at h
    exact row_kp h ((Kp.refl (fun _ => False) _).alloc _) (fun _ _ h => h)
  · intro k hk; simp [Value.ownBlock] at hk; omega
  · intro k hk; simp [Value.ownBlock] at hk; omega
end Go.Proofs.Ytbmbfgcdbpanjaa
