/- The walks of package site: slices.Clone, slices.Delete at its entries; Evict. -/
import Derived.Test.YtcdofhfneiednaaSiG
import Derived.Lib.SliceRun
namespace Go.Proofs.Ytcdofhfneiednaa
set_option linter.unusedSimpArgs false
set_option linter.unusedVariables false
open Go.RowKit

theorem flat_one (l : List Ent) : ∀ u ∈ l.flatMap Ent.cells, u.oneCell' = true := by
  intro u hu
  obtain ⟨e, _, he⟩ := List.mem_flatMap.1 hu
  simp [Ent.cells] at he
  rcases he with rfl | rfl | rfl <;> rfl
theorem take_mid {α : Type} (A N D : List α) (k : Nat) (h : A.length + N.length = k) : (A ++ (N ++ D)).take k = A ++ N := by
  rw [← List.append_assoc, ← h, ← List.length_append, List.take_left]
theorem flat_take (l : List Ent) : ∀ i, (l.flatMap Ent.cells).take (i * 3) = (l.take i).flatMap Ent.cells := by
  induction l with
  | nil => simp
  | cons a r ih =>
    intro i
    cases i with
    | zero => simp
    | succ i =>
      rw [List.flatMap_cons, show (i + 1) * 3 = (Ent.cells a).length + i * 3 by simp [Ent.cells]; omega, List.take_length_add_append, ih i, List.take_succ_cons, List.flatMap_cons]
theorem flat_drop (l : List Ent) : ∀ i, (l.flatMap Ent.cells).drop (i * 3) = (l.drop i).flatMap Ent.cells := by
  induction l with
  | nil => simp
  | cons a r ih =>
    intro i
    cases i with
    | zero => simp
    | succ i =>
      rw [List.flatMap_cons, show (i + 1) * 3 = (Ent.cells a).length + i * 3 by simp [Ent.cells]; omega, List.drop_length_add_append, ih i, List.drop_succ_cons]

set_option maxRecDepth 100000 in
set_option maxHeartbeats 400000 in
theorem clone_any (v : Value) (l : List Ent) (w : World) (hl : EAt w v l) (h0 : l ≠ []) (h8 : l.length ≤ 8) :
    Calls Try.prog 64 #[v] w fun e w' => ∃ g cap, e = .returned (.slice (some ⟨g, 0, none⟩) l.length cap) ∧ EAt w' (.slice (some ⟨g, 0, none⟩) l.length cap) l ∧ w.heap.size ≤ g ∧ Below w.heap.size w w' := by
  obtain ⟨i0, hi, hz0, hz1, hz2⟩ := info_parts Try.info92
  have q45 : ∀ (w : World) (a : Option Addr) (n c n' c' : Nat), (binOp .eql 87 (.slice a n c) (.slice none n' c')).run Try.prog w = .ok (.bool a.isNone) w := fun w a n c n' c' => Lib.run_eql_slice_nil w _ _ a n c n' c' Try.underlying87
  have hn : 0 < l.length := by cases l with | nil => exact absurd rfl h0 | cons a r => simp
  obtain ⟨g, cap, rfl, _, hg⟩ := World.ownsRow.form hl hn
  have HC := Lib.hid (hl.cells (g := g) rfl)
  have HF := Lib.hid (flat_len l)
  clear hl h0
  go_enter Try.func64, Try.ntmps64
  go_wp2_with (at_builtin; refine wpList_append_lies _ rfl (.tmp 5) (.tmp 6) 87 rfl 0 92 i0 _ 3 24 Try.underlying87 hi hz0 hz1 hz2 rfl (by decide) (.slice (some ⟨w.heap.size, 0, none⟩) 0 0) 0 [] rfl ?own ⟨g, 0, none⟩ l.length cap (l.flatMap Ent.cells) rfl HF.out ?c1 (flat_one l) hn ?c3 ?c4 (Nat.zero_le _) (w.heap.size + 1) (by simp) ?h)
  case own => exact ⟨rfl, .inr ⟨w.heap.size, 0, #[], rfl, Nat.zero_le _, Blk.new rfl, Nat.le_refl _, Nat.zero_le _, rfl, rfl⟩⟩
  case c1 => exact fun j u hu => (World.cell?_alloc_lt _ _ _ (by unfold Addr.add; split <;> simpa using hg)).trans (HC.out j u hu)
  case c3 => unfold maxLen; omega
  case c4 => omega
  case h =>
    intro g' cap' w1 hown hgr hat hlt
    have HO := Lib.hid hown; clear hown
    go_wp2
    go_returns
    have ho := HO.out
    refine ⟨g', cap', rfl, ho, ?_, ((Below.refl _ _).alloc (Nat.le_refl _) _).grown hgr (by simp) (fun k e => by simp [Value.ownBlock] at e; omega)⟩
    rcases hat with h | h
    · simp [Value.ownBlock] at h; omega
    · omega

theorem Kp.setRow {S : Nat → Prop} {a w : World} (h : Kp S a w) {g : Nat} (hg : S g ∨ a.heap.size ≤ g) (cs : Array Value) : Kp S a (w.setRow g cs) :=
  ⟨h.os, h.tape, h.output, by simp [World.setRow]; exact h.size, fun k hk hn => by
    rw [setRow_other w g k cs (fun e => by subst e; rcases hg with hg | hg; exact hn hg; omega)]
    exact h.block k hk hn⟩

/-- append where there is room in a row known whole, at a step of a region that draws. -/
theorem step_append_row {P : Program} {ops : Array Oper} {o : Oper} {a : Act} {w : World} {K : Act → World → Prop} {Q : Exit → Act → World → Prop} {E : Prop} (hgd : o.guard = none) (s x : Operand) (t : TypeId)
    (ho : o.op = .call { callee := .builtin .append, args := #[s, x], argTypes := #[t, t] })
    (e : TypeId) (i : TypeInfo) (size : Nat) (ht : P.underlying t = some (.slice e)) (hi : P.info? e = some i) (hsize : i.size = size)
    (g n cap : Nat) (cur : Array Value) (hs : a.eval s = .slice (some ⟨g, 0, none⟩) n cap) (hg : w.heap[g]? = some (.cells cur e (0, 0)))
    (ad : Addr) (m c : Nat) (news : List Value) (hx : a.eval x = .slice (some ad) m c) (hl : news.length = m * size) (hnews : ∀ j u, news[j]? = some u → w.cell? (ad.add j) = some u) (h1 : ∀ u ∈ news, u.oneCell' = true)
    (hroom : n + m ≤ cap) (hfit : n * size + news.length ≤ cur.size)
    (h : K (a.put o.dst (.slice (some ⟨g, 0, none⟩) (n + m) cap)) (w.setRow g (cur.toList.take (n * size) ++ news ++ cur.toList.drop (n * size + news.length)).toArray)) :
    if Region.wanted o (yielded ops a.tmps) = true then Oper.wp P o a w K Q else E := by
  have hw : Region.wanted o (yielded ops a.tmps) = true := by simp [Region.wanted, hgd]
  rw [if_pos hw]
  subst hsize
  have hr := run_append_room (P := P) w t o.type e i ht hi g n cap cur hg ad m c news hl hnews h1 hroom hfit
  unfold Oper.wp execOp
  simp only [ho, resolve, invoke, builtin, Sem.run_bind, Sem.run_pure, Result.andThen_ok, List.map_toArray, List.map_cons, List.map_nil, hs, hx, hr]
  exact h

/-- clear of one entry in a row known whole. -/
theorem run_clear_ent (w : World) (ty : TypeId) (g o c : Nat) (cur : Array Value) (hg : w.heap[g]? = some (.cells cur 92 (0, 0))) (hfit : o + 3 ≤ cur.size) :
    (Builtin.clear_ #[87] ty #[.slice (some ⟨g, o, none⟩) 1 c]).run Try.prog w = .ok (.tuple #[]) (w.setRow g (cur.toList.take o ++ [Value.int .i64 0, .int .i64 0, .int .u64 0] ++ cur.toList.drop (o + 3)).toArray) := by
  obtain ⟨i0, hi0, hz0, hz1, hz2⟩ := info_parts Try.info92
  have hst := run_storeCells_at Try.prog g o 92 [.int .i64 0, .int .i64 0, .int .u64 0] 0 cur w hg (by simpa using hfit) (by intro v hv; simp at hv; rcases hv with rfl | rfl | rfl <;> rfl)
  simp only [Nat.add_zero] at hst
  have hv : ∀ w, (zeroValue 92).run Try.prog w = .ok (.agg #[.int .i64 0, .int .i64 0, .int .u64 0]) w := fun w => by simp [zeroValue, typeInfo, hi0, hz0]
  have hzc : (Builtin.zeroCells (Value.cells (.agg #[.int .i64 0, .int .i64 0, .int .u64 0])) 1).toList = [.int .i64 0, .int .i64 0, .int .u64 0] := by kernel_rfl
  simp [Builtin.clear_, run_underlying Try.underlying87, hv, hzc, hst]

set_option maxRecDepth 100000 in
set_option maxHeartbeats 400000 in
theorem delete_any (g cap n : Nat) (l : List Ent) (w : World) (hln : l.length = n + 1) (hl : EAt w (.slice (some ⟨g, 0, none⟩) l.length cap) l) (i : Nat) (hi : i < n + 1) (h8 : n ≤ 8) :
    Calls Try.prog 63 #[.slice (some ⟨g, 0, none⟩) (n + 1) cap, .int .i64 i, .int .i64 (i + 1)] w fun e w' => e = .returned (.slice (some ⟨g, 0, none⟩) n cap) ∧ EAt w' (.slice (some ⟨g, 0, none⟩) n cap) (l.take i ++ l.drop (i + 1)) ∧ Kp (· = g) w w' := by
  obtain ⟨i0, hi0, hz0, hz1, hz2⟩ := info_parts Try.info92
  rcases hl.2 with ⟨hv, _⟩ | ⟨g', cap', cur, hv, _, hh, hnc, hcm, hcs, htake⟩
  · simp at hv
  simp only [Value.slice.injEq, Option.some.injEq, Addr.mk.injEq] at hv
  obtain ⟨⟨rfl, _⟩, _, rfl⟩ := hv
  rw [hln] at hnc htake
  have hnews : ((l.drop (i + 1)).flatMap Ent.cells).length = (n - i) * 3 := by rw [flat_len]; simp; omega
  have hone := flat_one (l.drop (i + 1))
  have hcur : ∀ j u, ((l.drop (i + 1)).flatMap Ent.cells)[j]? = some u → cur[(i + 1) * 3 + j]? = some u := by
    intro j u hu
    rw [← flat_drop, List.getElem?_drop, ← htake, List.getElem?_take] at hu
    split at hu
    · simpa using hu
    · cases hu
  have hct : cur.toList.take (i * 3) = (l.take i).flatMap Ent.cells := by
    rw [← flat_take, ← htake, List.take_take, Nat.min_eq_left (by omega)]
  have hflat : (l.take i).flatMap Ent.cells ++ (l.drop (i + 1)).flatMap Ent.cells = (l.take i ++ l.drop (i + 1)).flatMap Ent.cells := List.flatMap_append.symm
  have hfl : ((l.take i).flatMap Ent.cells).length = i * 3 := by rw [flat_len]; simp; omega
  have HLN := Lib.hid hln; clear hln hl
  have HH := Lib.hid hh; clear hh htake
  have HF := Lib.hid hflat; clear hflat
  have HCT := Lib.hid hct; clear hct
  have HFL := Lib.hid hfl; clear hfl
  have HN := Lib.hid hnews; clear hnews
  have HC := Lib.hid hcur; clear hcur
  have HS := Lib.hid hcs; clear hcs
  have HM := Lib.hid hcm; clear hcm
  generalize hnw : (l.drop (i + 1)).flatMap Ent.cells = news at *
  have HNW := Lib.hid hnw; clear hnw
  have HO := Lib.hid hone; clear hone
  have hin : i + (n - i) = n := by omega
  have b0 : (i : Int) ≤ (i : Int) + 1 := by omega
  have b1 : 0 ≤ (i : Int) + 1 := by omega
  have b2 : (i : Int) + 1 ≤ (n : Int) + 1 := by omega
  have b3 : (i : Int) ≤ cap := by omega
  have b4 : (n : Int) ≤ (n : Int) + 1 := by omega
  have b5 : (n : Int) + 1 ≤ cap := by omega
  have b6 : ¬ cap = n := by omega
  obtain ⟨X, hX⟩ : ∃ X : Array Value, X = (cur.toList.take (i * 3) ++ news ++ cur.toList.drop (i * 3 + news.length)).toArray := ⟨_, rfl⟩
  have hXs : X.size = cap * 3 := by rw [hX]; simp [HS.out, HN.out]; omega
  have HX := Lib.hid hX; clear hX
  obtain ⟨W1, hW1⟩ : ∃ W1, w.drew.setRow g (cur.toList.take (i * 3) ++ news ++ cur.toList.drop (i * 3 + news.length)).toArray = W1 := ⟨_, rfl⟩
  have HW1 := Lib.hid (show w.drew.setRow g X = W1 by rw [HX.out]; exact hW1)
  have HOS : W1.os = w.os := by rw [← hW1]; rfl
  by_cases hcj : cap = i + 1
  · obtain rfl := hcj
    obtain rfl : i = n := by omega
    go_enter Try.func63, Try.ntmps63
    go_wp2_with fail
    refine wp_region_K (S := fun w' => w'.os = w.os) (K := 8) (by kernel_rfl) ?_
    have hHeld : (fun w' => w'.os = w.os) (World.drew _) := (show w.drew.os = w.os from rfl)
    refine wpK_take (i := 0) (v := ?_) rfl (by kernel_rfl) (fun _ _ _ h => h) (Or.inl ⟨by kernel_rfl, ?_⟩) hHeld ?_
    rotate_left
    · intro w hSw; (try dsimp only at hSw); go_simp; (try with_reducible rfl)
    simp only [Act.put, List.setIfInBounds_toArray, List.set_cons_zero, List.set_cons_succ]
    refine wpK_take (i := 1) (v := ?_) rfl (by kernel_rfl) (fun _ _ _ h => h) (Or.inl ⟨by kernel_rfl, ?_⟩) hHeld ?_
    rotate_left
    · intro w hSw; (try dsimp only at hSw); go_simp; (try with_reducible rfl)
    simp only [Act.put, List.setIfInBounds_toArray, List.set_cons_zero, List.set_cons_succ]
    refine wpK_take (i := 2) (v := ?_) rfl (by kernel_rfl) (fun _ _ _ h => h) (Or.inl ⟨by kernel_rfl, ?_⟩) hHeld ?_
    rotate_left
    · intro w hSw; (try dsimp only at hSw); go_simp; (try with_reducible rfl)
    simp only [Act.put, List.setIfInBounds_toArray, List.set_cons_zero, List.set_cons_succ]
    refine wpK_take (i := 3) (v := ?_) rfl (by kernel_rfl) (fun _ _ _ h => h) (Or.inl ⟨by kernel_rfl, ?_⟩) hHeld ?_
    rotate_left
    · intro w hSw; (try dsimp only at hSw); go_simp; (try with_reducible rfl)
    simp only [Act.put, List.setIfInBounds_toArray, List.set_cons_zero, List.set_cons_succ]
    refine wpK_take (i := 4) (v := ?_) rfl (by kernel_rfl) (fun _ _ _ h => h) (Or.inl ⟨by kernel_rfl, ?_⟩) hHeld ?_
    rotate_left
    · intro w hSw; (try dsimp only at hSw); go_simp; (try with_reducible rfl)
    simp only [Act.put, List.setIfInBounds_toArray, List.set_cons_zero, List.set_cons_succ]
    refine wpK_take (i := 5) (v := ?_) rfl (by kernel_rfl) (fun _ _ _ h => h) (Or.inl ⟨by kernel_rfl, ?_⟩) hHeld ?_
    rotate_left
    · intro w hSw; (try dsimp only at hSw); go_simp; (try with_reducible rfl)
    simp only [Act.put, List.setIfInBounds_toArray, List.set_cons_zero, List.set_cons_succ]
    refine wpK_one (i := 6) (by kernel_rfl) rfl (fun K' hK => ?_)
    refine step_append_row (by rfl) _ _ _ (by rfl) 92 i0 3 Try.underlying87 hi0 hz1 g i (i + 1) cur (by simp [Act.eval, Act.put]) HH.out ⟨g, 0, none⟩ (i - i) 0 news (by simp [Act.eval, Act.put]) HN.out (fun j u h => by have := (List.getElem?_eq_some_iff.1 h).1; have := HN.out; omega) HO.out (by omega) (by have := HN.out; have := HS.out; omega) ?_
    rw [hW1, hin]
    refine hK.out _ _ (fun _ => HOS) (fun hHeld' => ?_)
    have hHeld := hHeld' (by decide)
    clear hHeld' hK K'
    refine wpK_take (i := 7) (v := ?_) rfl (by kernel_rfl) (fun _ _ _ h => h) (Or.inl ⟨by kernel_rfl, ?_⟩) hHeld ?_
    rotate_left
    · intro w hSw; (try dsimp only at hSw); go_simp; (try with_reducible rfl)
    simp only [Act.put, List.setIfInBounds_toArray, List.set_cons_zero, List.set_cons_succ]
    refine wpK_done (by kernel_rfl) ?_ _
    clear hW1
    obtain ⟨Y, hY⟩ : ∃ Y, (X.toList.take (i * 3) ++ [Value.int .i64 0, .int .i64 0, .int .u64 0] ++ X.toList.drop (i * 3 + 3)).toArray = Y := ⟨_, rfl⟩
    have hX : W1.heap[g]? = some (.cells X 92 (0, 0)) := by rw [← HW1.out]; exact setRow_heap _ g cur _ 92 (0, 0) HH.out
    have hcl : ∀ ty c, (Builtin.clear_ #[87] ty #[.slice (some ⟨g, i * 3, none⟩) 1 c]).run Try.prog W1 = .ok (.tuple #[]) (W1.setRow g Y) := by
      intro ty c; rw [← hY]; exact run_clear_ent W1 ty g (i * 3) c X hX (by omega)
    have hWY := setRow_heap W1 g X Y 92 (0, 0) hX
    have HWY := Lib.hid hWY
    have HY := Lib.hid hY
    clear hX hY hWY
    go_wp2
    go_returns
    refine ⟨by simp [hin], ?_, ?_⟩
    · have hlen : (l.take i ++ l.drop (i + 1)).length = i := by have := HLN.out; simp; omega
      unfold EAt
      rw [hlen]
      refine ⟨by rw [flat_len, hlen], .inr ⟨g, _, _, rfl, Nat.zero_le _, HWY.out, by omega, HM.out, ?_, ?_⟩⟩
      · rw [← HY.out]; simp; omega
      · have h1 : (X.toList.take (i * 3)).length = i * 3 := by simp; omega
        rw [← HY.out, ← HF.out, ← HCT.out, ← HNW.out, HX.out]
        rw [HX.out] at h1
        simp only [List.append_assoc]
        rw [List.take_append_of_le_length (by simpa using Nat.le_of_eq h1.symm), List.take_take, Nat.min_self]
        rw [HNW.out]
        exact take_mid _ _ _ _ (by have := HN.out; have := HS.out; simp only [List.length_take, Array.length_toList]; omega)
    · rw [← HW1.out]
      exact Kp.setRow (S := (· = g)) (Kp.setRow (S := (· = g)) (Kp.drew (Kp.refl _ _)) (.inl rfl) _) (.inl rfl) _
  · go_enter Try.func63, Try.ntmps63
    go_wp2_with fail
    refine wp_region_K (S := fun w' => w'.os = w.os) (K := 8) (by kernel_rfl) ?_
    have hHeld : (fun w' => w'.os = w.os) (World.drew _) := (show w.drew.os = w.os from rfl)
    refine wpK_take (i := 0) (v := ?_) rfl (by kernel_rfl) (fun _ _ _ h => h) (Or.inl ⟨by kernel_rfl, ?_⟩) hHeld ?_
    rotate_left
    · intro w hSw; (try dsimp only at hSw); go_simp; (try with_reducible rfl)
    simp only [Act.put, List.setIfInBounds_toArray, List.set_cons_zero, List.set_cons_succ]
    refine wpK_take (i := 1) (v := ?_) rfl (by kernel_rfl) (fun _ _ _ h => h) (Or.inl ⟨by kernel_rfl, ?_⟩) hHeld ?_
    rotate_left
    · intro w hSw; (try dsimp only at hSw); go_simp; (try with_reducible rfl)
    simp only [Act.put, List.setIfInBounds_toArray, List.set_cons_zero, List.set_cons_succ]
    refine wpK_take (i := 2) (v := ?_) rfl (by kernel_rfl) (fun _ _ _ h => h) (Or.inl ⟨by kernel_rfl, ?_⟩) hHeld ?_
    rotate_left
    · intro w hSw; (try dsimp only at hSw); go_simp; (try with_reducible rfl)
    simp only [Act.put, List.setIfInBounds_toArray, List.set_cons_zero, List.set_cons_succ]
    refine wpK_take (i := 3) (v := ?_) rfl (by kernel_rfl) (fun _ _ _ h => h) (Or.inl ⟨by kernel_rfl, ?_⟩) hHeld ?_
    rotate_left
    · intro w hSw; (try dsimp only at hSw); go_simp; (try with_reducible rfl)
    simp only [Act.put, List.setIfInBounds_toArray, List.set_cons_zero, List.set_cons_succ]
    refine wpK_take (i := 4) (v := ?_) rfl (by kernel_rfl) (fun _ _ _ h => h) (Or.inl ⟨by kernel_rfl, ?_⟩) hHeld ?_
    rotate_left
    · intro w hSw; (try dsimp only at hSw); go_simp; (try with_reducible rfl)
    simp only [Act.put, List.setIfInBounds_toArray, List.set_cons_zero, List.set_cons_succ]
    refine wpK_take (i := 5) (v := ?_) rfl (by kernel_rfl) (fun _ _ _ h => h) (Or.inl ⟨by kernel_rfl, ?_⟩) hHeld ?_
    rotate_left
    · intro w hSw; (try dsimp only at hSw); go_simp; (try with_reducible rfl)
    simp only [Act.put, List.setIfInBounds_toArray, List.set_cons_zero, List.set_cons_succ]
    refine wpK_one (i := 6) (by kernel_rfl) rfl (fun K' hK => ?_)
    refine step_append_row (by rfl) _ _ _ (by rfl) 92 i0 3 Try.underlying87 hi0 hz1 g i cap cur (by simp [Act.eval, Act.put]) HH.out ⟨g, (i + 1) * 3, none⟩ (n - i) (cap - (i + 1)) news (by simp [Act.eval, Act.put]) HN.out (fun j u h => by rw [Addr.add_lit]; exact (cell_of_row w g _ cur 92 (0, 0) HH.out).trans (HC.out j u h)) HO.out (by omega) (by have := HN.out; have := HS.out; omega) ?_
    rw [hW1, hin]
    refine hK.out _ _ (fun _ => HOS) (fun hHeld' => ?_)
    have hHeld := hHeld' (by decide)
    clear hHeld' hK K'
    refine wpK_take (i := 7) (v := ?_) rfl (by kernel_rfl) (fun _ _ _ h => h) (Or.inl ⟨by kernel_rfl, ?_⟩) hHeld ?_
    rotate_left
    · intro w hSw; (try dsimp only at hSw); go_simp; (try with_reducible rfl)
    simp only [Act.put, List.setIfInBounds_toArray, List.set_cons_zero, List.set_cons_succ]
    refine wpK_done (by kernel_rfl) ?_ _
    clear hW1
    obtain ⟨Y, hY⟩ : ∃ Y, (X.toList.take (n * 3) ++ [Value.int .i64 0, .int .i64 0, .int .u64 0] ++ X.toList.drop (n * 3 + 3)).toArray = Y := ⟨_, rfl⟩
    have hX : W1.heap[g]? = some (.cells X 92 (0, 0)) := by rw [← HW1.out]; exact setRow_heap _ g cur _ 92 (0, 0) HH.out
    have hcl : ∀ ty c, (Builtin.clear_ #[87] ty #[.slice (some ⟨g, n * 3, none⟩) 1 c]).run Try.prog W1 = .ok (.tuple #[]) (W1.setRow g Y) := by
      intro ty c; rw [← hY]; exact run_clear_ent W1 ty g (n * 3) c X hX (by omega)
    have hWY := setRow_heap W1 g X Y 92 (0, 0) hX
    have HWY := Lib.hid hWY
    have HY := Lib.hid hY
    clear hX hY hWY
    go_wp2
    go_returns
    refine ⟨by simp [hin], ?_, ?_⟩
    · have hlen : (l.take i ++ l.drop (i + 1)).length = n := by have := HLN.out; simp; omega
      unfold EAt
      rw [hlen]
      refine ⟨by rw [flat_len, hlen], .inr ⟨g, _, _, rfl, Nat.zero_le _, HWY.out, by omega, HM.out, ?_, ?_⟩⟩
      · rw [← HY.out]; simp; omega
      · have h1 : (X.toList.take (n * 3)).length = n * 3 := by simp; omega
        rw [← HY.out, ← HF.out, ← HCT.out, ← HNW.out, HX.out]
        rw [HX.out] at h1
        simp only [List.append_assoc]
        rw [List.take_append_of_le_length (by simpa using Nat.le_of_eq h1.symm), List.take_take, Nat.min_self]
        rw [HNW.out]
        exact take_mid _ _ _ _ (by have := HN.out; have := HS.out; simp only [List.length_take, Array.length_toList]; omega)
    · rw [← HW1.out]
      exact Kp.setRow (S := (· = g)) (Kp.setRow (S := (· = g)) (Kp.drew (Kp.refl _ _)) (.inl rfl) _) (.inl rfl) _

def SS.evict (s : SS) (k : Int) : SS :=
  if k < 0 ∨ s.l.length ≤ k then s
  else if s.l.length = 1 then s.forget
  else { s with l := s.l.take k.toNat ++ s.l.drop (k.toNat + 1) }

set_option maxRecDepth 100000 in
theorem evict_out (b : Nat) (s : SS) (v : Value) (k : Int) (w : World) (h : SAt w b s v) (hl : EAt w v s.l) (hk : k < 0 ∨ s.l.length ≤ k) (h8 : s.l.length ≤ 8) :
    Calls Try.prog 49 #[.pointer (some ⟨b, 0, none⟩), .int .i64 k] w (Sited b s v w) := by
  have hb := h.lt
  obtain ⟨ao, cap, rfl⟩ := hl.form
  have h4 := h.cell 4 (.slice ao s.l.length cap) rfl
  have H := Lib.hid h; clear h
  have HL := Lib.hid hl; clear hl
  by_cases hn : k < 0
  · go_enter Try.func49, Try.ntmps49
    go_wp2
    go_returns
    exact ⟨_, rfl, H.out, HL.out, Kp.refl _ _, .inl rfl⟩
  · have hk2 : (s.l.length : Int) ≤ k := by omega
    go_enter Try.func49, Try.ntmps49
    go_wp2
    go_returns
    exact ⟨_, rfl, H.out, HL.out, Kp.refl _ _, .inl rfl⟩

set_option maxRecDepth 100000 in
set_option maxHeartbeats 400000 in
theorem evict_in (b : Nat) (s : SS) (v : Value) (i n : Nat) (w : World) (h : SAt w b s v) (hl : EAt w v s.l) (hn : s.l.length = n + 1) (hi : i < n + 1) (h8 : n ≤ 7) :
    Calls Try.prog 49 #[.pointer (some ⟨b, 0, none⟩), .int .i64 i] w (Sited b (s.evict i) v w) := by
  have hb := h.lt
  have fr := h.free
  obtain ⟨ao, cap, rfl⟩ := hl.form
  have hne := hl.ne h (by decide)
  have h4 := h.cell 4 (.slice ao s.l.length cap) rfl
  rw [hn] at h4
  have H := Lib.hid h; clear h
  have HL := Lib.hid hl; clear hl
  have HN := Lib.hid hn; clear hn
  have e1 : ¬ ((i : Int) < 0) := by omega
  have e2 : ¬ ((n : Int) + 1 ≤ i) := by omega
  go_enter Try.func49, Try.ntmps49
  go_wp2_with fail
  rw [← HN.out]
  refine (clone_any _ s.l _ HL.out (fun e => by have := HN.out; rw [e] at this; simp at this) (by have := HN.out; omega)).mono ?_
  rintro e w1 ⟨g, c2, rfl, hg, hgw, hk⟩
  have H1 := H.out.below hk hb
  have k1 : Kp (fun k => k = b ∨ w.heap.size ≤ k) w w1 := Kp.of_below hk
  rw [HN.out]
  have hs1 := hk.size
  clear h4 hk
  go_wp2_with fail
  refine (delete_any g c2 n s.l _ HN.out hg i hi (by omega)).mono ?_
  rintro e w2 ⟨rfl, hd, hk⟩
  have hgb : g ≠ b := by omega
  have H2 : SAt w2 b s (.slice ao s.l.length cap) := Blk.kp H1 hk (fun e => hgb e.symm)
  have k2 := k1.trans' hk (fun k _ e => .inr (e ▸ hgw))
  have fr2 := H2.free
  have hb2 := H2.lt
  have H3 := Lib.hid H2
  have HD := Lib.hid hd
  have d4 := H2.cell 4 (.slice ao s.l.length cap) rfl
  clear H1 k1 hk hg hd H2 fr
  have hsv : ∀ g', (Value.slice (some ⟨g, 0, none⟩) n c2).ownBlock = some g' → w.heap.size ≤ g' := fun g' h => by simp [Value.ownBlock] at h; omega
  have hev : s.evict i = if s.l.length = 1 then s.forget else { s with l := s.l.take i ++ s.l.drop (i + 1) } := by
    unfold SS.evict
    rw [if_neg (by have := HN.out; omega)]
    simp
  have HEV := Lib.hid hev
  have K2 : Kp (fun k => k = b ∨ (Value.slice ao s.l.length cap).ownBlock = some k) w (w2.setCell ⟨b, 4, none⟩ (.slice (some ⟨g, 0, none⟩) n c2)) := by
    refine Kp.setCell (p := ⟨b, 4, none⟩) ?_ (.inl (.inl rfl)) _
    exact ⟨k2.os, k2.tape, k2.output, k2.size, fun k hk hn => k2.block k hk (fun h => h.elim (fun e => hn (.inl e)) (fun e => by omega))⟩
  have SA2 : SAt (w2.setCell ⟨b, 4, none⟩ (.slice (some ⟨g, 0, none⟩) n c2)) b s (.slice (some ⟨g, 0, none⟩) n c2) := SAt.of (Blk.set H3.out 4 _) rfl
  have EA2 : EAt (w2.setCell ⟨b, 4, none⟩ (.slice (some ⟨g, 0, none⟩) n c2)) (.slice (some ⟨g, 0, none⟩) n c2) (s.l.take i ++ s.l.drop (i + 1)) :=
    HD.out.kp (Kp.setCell (S := (· = b)) (p := ⟨b, 4, none⟩) (Kp.refl _ _) (.inl rfl) _) (fun g' hg' e => by simp [Value.ownBlock] at hg'; omega)
  have HK := Lib.hid K2; have HSA := Lib.hid SA2; have HEA := Lib.hid EA2
  clear K2 SA2 EA2 hev k2
  cases n with
  | zero =>
    go_wp2_with fail
    refine (forget_any b s _ _ HSA.out).mono ?_
    rintro e w4 ⟨v', rfl, f1, f2, f3, f4⟩
    have F : Sited b s.forget (Value.slice ao s.l.length cap) w (.returned (.tuple #[])) w4 := by
      refine ⟨v', rfl, f1, f2, ?_, .inr fun g' hg' => ?_⟩
      · have f3' := f3
        have hK := HK.out
        exact ⟨f3.os.trans hK.os, f3.tape.trans hK.tape, f3.output.trans hK.output, Nat.le_trans hK.size f3.size, fun k hk hn => by
          rw [f3.block k (Nat.lt_of_lt_of_le hk hK.size) (fun h => h.elim (fun e => hn (.inl e)) (fun e => by have := hsv k e; omega))]
          exact hK.block k hk hn⟩
      · rcases f4 with h | h
        · exact hsv g' (h ▸ hg')
        · exact Nat.le_trans HK.out.size (h g' hg')
    have HF := Lib.hid F; clear F f1 f2 f3 f4
    go_wp2
    go_returns
    rw [HEV.out, if_pos HN.out]
    exact HF.out
  | succ m =>
    have hm : ((m : Int) + 1 == 0) = false := by simp; omega
    go_wp2
    go_returns
    rw [HEV.out, if_neg (by have := HN.out; omega)]
    exact ⟨_, rfl, HSA.out, HEA.out, HK.out, .inr hsv⟩
/-- Evict, whatever the site. -/
theorem evict_any (b : Nat) (s : SS) (v : Value) (k : Int) (w : World) (h : SAt w b s v) (hl : EAt w v s.l) (h8 : s.l.length ≤ 8) :
    Calls Try.prog 49 #[.pointer (some ⟨b, 0, none⟩), .int .i64 k] w (Sited b (s.evict k) v w) := by
  by_cases hk : k < 0 ∨ (s.l.length : Int) ≤ k
  · have : s.evict k = s := by unfold SS.evict; rw [if_pos hk]
    rw [this]; exact evict_out b s v k w h hl hk h8
  · obtain ⟨i, rfl⟩ : ∃ i : Nat, k = i := ⟨k.toNat, by omega⟩
    exact evict_in b s v i (s.l.length - 1) w h hl (by omega) (by omega) (by omega)
theorem ok_evict {s : SS} (k : Int) (h : SOk s) : SOk (s.evict k) := by
  unfold SS.evict
  split
  · exact h
  · rename_i hk
    have hne : s.l ≠ [] := fun e => by rw [e] at hk; simp at hk; omega
    have h1 := h.one.2 hne
    split
    · exact ok_forget h (by omega)
    · rename_i hl
      have hk0 : k.toNat < s.l.length := by omega
      have hlen : (s.l.take k.toNat ++ s.l.drop (k.toNat + 1)).length = s.l.length - 1 := by simp; omega
      refine ⟨h.ways, h.warm, h.count, h.st, h.rw, h.hits, h.deopts, ?_, ?_, h.two, h.cold, ?_⟩
      · have := h.len; simp only; rw [hlen]; omega
      · simp only [h1, true_iff]
        intro e
        rw [e] at hlen; simp at hlen; omega
      · have hd := h.nodup
        rw [← List.eraseIdx_eq_take_drop_succ]
        exact hd.sublist ((List.eraseIdx_sublist _ _).map _)
theorem evict_site (b : Nat) (s : SS) (k : Int) (F : Nat → Prop) (w : World) (h : Site w b s F) :
    Calls Try.prog 49 #[.pointer (some ⟨b, 0, none⟩), .int .i64 k] w fun e w' => e = .returned (.tuple #[]) ∧ Then b (s.evict k) F w w' := by
  obtain ⟨v, h1, h2, h3, h4, h5⟩ := h
  exact (evict_any b s v k w h1 h2 (by have := h3.len; have := h3.ways; omega)).mono fun e w' hh => then_of (ok_evict k h3) h4 h5 hh
theorem evict_own {P : Nat → Prop} {b : Nat} {s : SS} {w : World} (h : Own P w b s) (k : Int) (hP : ∀ k, w.heap.size ≤ k → P k) :
    Calls Try.prog 49 #[.pointer (some ⟨b, 0, none⟩), .int .i64 k] w fun e w' => e = .returned (.tuple #[]) ∧ Own P w' b (s.evict k) ∧ Kp P w w' := by
  obtain ⟨F, h1, h2⟩ := h
  exact (evict_site b s k F w h1).mono fun e w' ⟨he, ht⟩ => ⟨he, own_of hP h2 ht⟩
end Go.Proofs.Ytcdofhfneiednaa
