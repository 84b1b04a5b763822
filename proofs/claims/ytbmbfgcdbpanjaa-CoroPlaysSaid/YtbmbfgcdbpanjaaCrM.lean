/- How many threads stand so; the walk of CoroStands' closure. -/
import Derived.Test.YtbmbfgcdbpanjaaCrJ
import Derived.Deep.LoopGhost
namespace Go.Proofs.Ytbmbfgcdbpanjaa
set_option linter.unusedSimpArgs false
set_option linter.unusedVariables false
open Go.RowKit

theorem countP_or {l : List Nat} {p q : Nat → Bool} (h : ∀ k, p k = true → q k = true → False) : l.countP (fun k => p k || q k) = l.countP p + l.countP q := by
  induction l with
  | nil => rfl
  | cons a r ih =>
    simp only [List.countP_cons, ih]
    have := h a
    cases hp : p a <;> cases hq : q a <;> simp_all <;> omega
theorem countP_eq (n a : Nat) (h : a < n) : (List.range n).countP (fun k => decide (k = a)) = 1 := by
  induction n with
  | zero => omega
  | succ n ih =>
    rw [List.range_succ, List.countP_append]
    by_cases e : a = n
    · subst e
      have : (List.range a).countP (fun k => decide (k = a)) = 0 := by
        rw [List.countP_eq_zero]
        intro k hk
        simp at hk ⊢
        omega
      rw [this]; simp
    · rw [ih (by omega)]
      have : ¬ n = a := fun h => e h.symm
      simp [this]
theorem countP_mem (n : Nat) (l : List Nat) (hn : l.Nodup) (h : ∀ i ∈ l, i < n) : (List.range n).countP (fun k => decide (k ∈ l)) = l.length := by
  induction l with
  | nil => simp
  | cons a r ih =>
    rw [List.nodup_cons] at hn
    have e : (fun k => decide (k ∈ a :: r)) = (fun k => decide (k = a) || decide (k ∈ r)) := by
      funext k; simp
    rw [e, countP_or (fun k h1 h2 => by simp at h1 h2; subst h1; exact hn.1 h2), countP_eq n a (h a (by simp)), ih hn.2 (fun i hi => h i (by simp [hi]))]
    simp; omega
def cnt (B : Bk) (c : Int) (i : Nat) : Nat := (List.range i).countP (fun k => decide (B.code (k : Nat) = c))
theorem cnt_succ (B : Bk) (c : Int) (i : Nat) : cnt B c (i + 1) = cnt B c i + if B.code (i : Nat) = c then 1 else 0 := by
  unfold cnt
  rw [List.range_succ, List.countP_append]
  simp [List.countP_cons]
theorem cnt_le (B : Bk) (c : Int) (i : Nat) : cnt B c i ≤ i := by
  unfold cnt
  have := List.countP_le_length (p := fun k => decide (B.code (k : Nat) = c)) (l := List.range i)
  simpa using this
theorem wait_split {B : Bk} (h : BOk B) : B.wait = B.wait.dropLast ++ [B.run] := by
  have hne : B.wait ≠ [] := List.ne_nil_of_length_pos h.ne
  have := List.dropLast_concat_getLast hne
  unfold Bk.run
  rw [List.getLastD_eq_getLast?, List.getLast?_eq_some_getLast hne]
  exact this.symm
theorem code_in' {B : Bk} {n : Nat} (h : n < B.ended.length) : B.code n = 0 ∨ B.code n = 1 ∨ B.code n = 2 ∨ B.code n = 3 := by
  unfold Bk.code
  rw [if_neg (by omega)]
  repeat' split
  all_goals simp
theorem code_run {B : Bk} (h : BOk B) {k : Nat} (hk : k < B.ended.length) : B.code k = 1 ↔ k = B.run := by
  have hr : B.run ∈ B.wait := by rw [wait_split h]; simp
  have hl := h.live _ hr
  unfold Bk.code
  rw [if_neg (by omega), Int.toNat_natCast]
  constructor
  · intro e
    split at e
    · omega
    · split at e
      · omega
      · split at e <;> omega
  · rintro rfl
    rw [if_neg (by simp [List.getD_eq_getElem?_getD, hl]), if_pos rfl]
theorem code_wait {B : Bk} (h : BOk B) {k : Nat} (hk : k < B.ended.length) : B.code k = 2 ↔ k ∈ B.wait.dropLast := by
  have hs := wait_split h
  unfold Bk.code
  rw [if_neg (by omega), Int.toNat_natCast]
  constructor
  · intro e
    split at e
    · omega
    · split at e
      · omega
      · rename_i h1 h2
        split at e
        · rename_i h3
          unfold hasN at h3
          rw [List.any_eq_true] at h3
          obtain ⟨x, hx, he⟩ := h3
          simp at he
          obtain rfl : x = k := by omega
          rw [hs] at hx
          simp at hx
          rcases hx with hx | hx
          · exact hx
          · omega
        · omega
  · intro hm
    have hw : k ∈ B.wait := mem_dropLast hm
    have hl := h.live _ hw
    rw [if_neg (by simp [List.getD_eq_getElem?_getD, hl]), if_neg (fun e => run_notin h hm (by omega)), if_pos]
    unfold hasN
    rw [List.any_eq_true]
    exact ⟨k, hw, by simp⟩
theorem countP_congr' {l : List Nat} {p q : Nat → Bool} (h : ∀ k ∈ l, p k = q k) : l.countP p = l.countP q := by
  induction l with
  | nil => rfl
  | cons a r ih =>
    rw [List.countP_cons, List.countP_cons, ih (fun k hk => h k (by simp [hk])), h a (by simp)]
theorem cnt_run {B : Bk} (h : BOk B) : cnt B 1 B.ended.length = 1 := by
  have hr : B.run ∈ B.wait := by rw [wait_split h]; simp
  unfold cnt
  rw [countP_congr' (q := fun k => decide (k = B.run)) (fun k hk => by rw [List.mem_range] at hk; exact decide_eq_decide.2 (code_run h hk))]
  exact countP_eq _ _ (h.lt _ hr)
theorem cnt_wait {B : Bk} (h : BOk B) : cnt B 2 B.ended.length = B.wait.length - 1 := by
  unfold cnt
  rw [countP_congr' (q := fun k => decide (k ∈ B.wait.dropLast)) (fun k hk => by rw [List.mem_range] at hk; exact decide_eq_decide.2 (code_wait h hk))]
  rw [countP_mem _ _ (h.nodup.sublist (List.dropLast_sublist _)) (fun i hi => h.lt i (mem_dropLast hi))]
  simp

/-- What the closure tells: each thread's word. -/
def stats (B : Bk) (n : Nat) : List Value := (List.range n).map (fun (i : Nat) => Value.string (word (B.code (i : Nat))))
theorem stats_len (B : Bk) (n : Nat) : (stats B n).length = n := by simp [stats]
theorem stats_succ (B : Bk) (n : Nat) : stats B (n + 1) = stats B n ++ [.string (word (B.code (n : Nat)))] := by simp [stats, List.range_succ]
theorem stats_at (B : Bk) (n i : Nat) (h : i < n) : (stats B n)[i]? = some (.string (word (B.code (i : Nat)))) := by simp [stats, h]
theorem info9 : (Try.prog.info? 9).map (fun i => (i.zero, i.size, i.bytes)) = some (some (.string ByteArray.empty), 1, 16) := by kernel_rfl

set_option maxRecDepth 100000 in
set_option maxHeartbeats 1000000 in
theorem stands_any (b nb pb : Nat) (B : Bk) (F : Nat → Prop) (w : World) (h : Book w b B F) (hn : w.cell? ⟨nb, 0, none⟩ = some (.int .i64 B.ended.length)) (hp : w.cell? ⟨pb, 0, none⟩ = some (.pointer (some ⟨b, 0, none⟩))) (hnl : nb < w.heap.size) (hpl : pb < w.heap.size) :
    Calls Try.prog 23 #[.pointer (some ⟨nb, 0, none⟩), .pointer (some ⟨pb, 0, none⟩)] w fun e w' => ∃ v, e = .returned v ∧ w'.ownsRow 0 9 1 v B.ended.length (stats B B.ended.length) ∧ (∀ k, v.ownBlock = some k → w.heap.size ≤ k) ∧ Kp (fun _ => False) w w' := by
  obtain ⟨i0, hi, hz0, hz1, hz2⟩ := info_parts info9
  have hsm := h.ok.small
  have H := Lib.hid h; clear h
  go_enter Try.func23, Try.ntmps23
  go_wp2_with fail
  go_loopw [3, 6] (fun sv iv wr => ∃ i : Nat, iv = .int .i64 i ∧ i ≤ B.ended.length ∧ wr.ownsRow 0 9 1 sv i (stats B i) ∧ (∀ k, sv.ownBlock = some k → w.heap.size ≤ k) ∧ Kp (fun _ => False) w wr) (fun _ iv _ => B.ended.length - (intOf iv).toNat)
  case atStart => exact ⟨0, rfl, by omega, World.ownsRow_nil _ _ _ _, (fun k hk => by cases hk), Kp.refl _ _⟩
  case round =>
    obtain ⟨i, rfl, hi', hrow, hnew, kk⟩ := hrel
    by_cases hlt : (i : Int) < B.ended.length
    · obtain ⟨ao, ac, rfl⟩ := row_form hrow
      have cp := (kk.cell (p := ⟨pb, 0, none⟩) hpl (fun h => h)).trans hp
      have HR := Lib.hid hrow; have HNW := Lib.hid hnew; have KK := Lib.hid kk
      clear hrow hnew kk
      go_wp2_with fail
      refine (status_book b B F i _ (H.out.kp KK.out (fun _ _ _ h => h))).mono ?_
      rintro e wa ⟨rfl, hka⟩
      have HR2 := Lib.hid (row_kp HR.out hka (fun _ _ h => h))
      have hsz := KK.out.size
      have hsz2 := hka.size
      have KA := Lib.hid hka
      clear hka cp
      go_wp2_with (at_builtin; refine wpList_append2 _ rfl (.tmp 9) (.tmp 13) 47 rfl 9 i0 (.string ByteArray.empty) 1 16 Try.underlying47 hi hz0 hz1 hz2 rfl (by decide) (.slice ao i ac) i (stats B i) rfl ?own ⟨wa.heap.size, 0, none⟩ 1 1 [.string (word (B.code i))] rfl rfl ?c1 ?c2 ?c3 ?c4 ?h)
      case own => exact row_kp HR2.out ((Kp.refl (fun _ => False) _).alloc _) (fun _ _ h => h)
      case c1 => exact cell_one _ _ _ _ rfl
      case c2 => intro u hu; simp at hu; subst hu; rfl
      case c3 => unfold maxLen; omega
      case c4 => omega
      case h =>
        intro v' w1' hown hgr hsn
        have HOW := Lib.hid hown
        have hnew' : ∀ k, v'.ownBlock = some k → w.heap.size ≤ k := fun k hk => by
          rcases hsn with h | h
          · exact HNW.out k (by rw [← h]; exact hk)
          · have := h k hk; simp at this; omega
        have k1 : Kp (fun _ => False) w w1' := by
          have k2 : Kp (fun k => w.heap.size ≤ k) wa w1' := ((Kp.refl _ wa).alloc _).grown hgr (fun k e => .inl (HNW.out k e))
          exact (KK.out.trans KA.out).trans' k2 (fun k hk h => by omega)
        have K1 := Lib.hid k1; have HN1 := Lib.hid hnew'
        clear hown k1 hnew' hgr hsn HR2
        go_wp2
        go_roundw
        case rel => exact ⟨i + 1, by go_num, by omega, by rw [stats_succ]; exact HOW.out, HN1.out, K1.out⟩
        case measure => simp [intOf]; omega
    · obtain rfl : i = B.ended.length := by omega
      have HR := Lib.hid hrow; have HNW := Lib.hid hnew; have KK := Lib.hid kk
      clear hrow hnew kk
      go_wp2
      go_returns
      exact ⟨_, rfl, HR.out, HNW.out, KK.out⟩
end Go.Proofs.Ytbmbfgcdbpanjaa
