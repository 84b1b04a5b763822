/- append onto an empty slice, of nothing too; copies of rows of events. -/
import Derived.Test.YtcdofhfneiednaaPoA
namespace Go.Proofs.Ytcdofhfneiednaa
set_option linter.unusedSimpArgs false
set_option linter.unusedVariables false
open Go.RowKit

section
variable {P : Program} (w : World)
theorem run_append_zero (t ty e : TypeId) (i : TypeInfo) (z : Value) (ht : P.underlying t = some (.slice e)) (hi : P.info? e = some i) (hz : i.zero = some z) (b : Addr) (ao : Option Addr) (c : Nat) :
    (Builtin.append_ #[t, t] ty #[.slice (some b) 0 0, .slice ao 0 c]).run P w = .ok (.slice (some b) 0 0) w := by
  cases ao with
  | none => simp [Builtin.append_, run_underlying ht, sizeOf, typeInfo, hi, Builtin.lenOf, run_firstCells_none, storeCells]
  | some a =>
    have hf := run_firstCells_some (P := P) w i.size 0 a 0 c [] (by simp) (by simp)
    simp [Builtin.append_, run_underlying ht, sizeOf, typeInfo, hi, Builtin.lenOf, hf, storeCells]
/-- append onto a new empty slice: a copy, in the empty block or in a new one. -/
theorem run_copy (t ty e : TypeId) (i : TypeInfo) (z : Value) (size bytes : Nat) (ht : P.underlying t = some (.slice e)) (hi : P.info? e = some i) (hz : i.zero = some z)
    (hsize : i.size = size) (hby : i.bytes = bytes) (hzs : z.cells.size = size) (hsz : 0 < size) (zb : Nat) (hzb : Blk w zb e #[]) (ao : Option Addr) (n c : Nat) (xs : List Value) (hl : xs.length = n * size)
    (hsrc : n = 0 ∨ ∃ a, ao = some a ∧ ∀ j u, xs[j]? = some u → w.cell? (a.add j) = some u) (h1 : ∀ u ∈ xs, u.oneCell' = true) (h63 : n ≤ maxLen) (hbytes : n * bytes ≤ 140737488355328) :
    ∃ v' w', (Builtin.append_ #[t, t] ty #[.slice (some ⟨zb, 0, none⟩) 0 0, .slice ao n c]).run P w = .ok v' w' ∧ w'.ownsRow 0 e size v' n xs ∧ Kp (· = zb) w w' ∧ (∀ k, v'.ownBlock = some k → k = zb ∨ w.heap.size ≤ k) := by
  have own : w.ownsRow 0 e size (.slice (some ⟨zb, 0, none⟩) 0 0) 0 [] := ⟨by simp, .inr ⟨zb, 0, #[], rfl, Nat.zero_le _, hzb, Nat.le_refl _, Nat.zero_le _, by simp, by simp⟩⟩
  by_cases h0 : n = 0
  · subst h0
    obtain rfl : xs = [] := List.eq_nil_of_length_eq_zero (by simpa using hl)
    exact ⟨_, _, run_append_zero w t ty e i z ht hi hz _ ao c, own, Kp.refl _ _, fun k hk => by simp [Value.ownBlock] at hk; exact .inl hk.symm⟩
  · obtain ⟨a, rfl, hnews⟩ := hsrc.resolve_left h0
    obtain ⟨v', w', hr, h2, h3, h4⟩ := run_append2 (P := P) w t ty e i z size bytes ht hi hz hsize hby hzs hsz _ 0 [] own a n c xs hl hnews h1 (by omega) (by simpa using hbytes)
    refine ⟨v', w', hr, by simpa using h2, (Kp.refl _ _).grown h3 (fun k e => .inl (by simp [Value.ownBlock] at e; exact e.symm)), fun k hk => ?_⟩
    rcases h4 with h | h
    · rw [h] at hk; simp [Value.ownBlock] at hk; exact .inl hk.symm
    · exact .inr (h k hk)
theorem wpList_copy {ops : Array Oper} {rest : List Oper} {o : Oper} {a : Act} {Q : Exit → Act → World → Prop} (hgd : o.guard = none) (s x : Operand) (t : TypeId)
    (ho : o.op = .call { callee := .builtin .append, args := #[s, x], argTypes := #[t, t] })
    (e : TypeId) (i : TypeInfo) (z : Value) (size bytes : Nat) (ht : P.underlying t = some (.slice e)) (hi : P.info? e = some i) (hz : i.zero = some z)
    (hsize : i.size = size) (hby : i.bytes = bytes) (hzs : z.cells.size = size) (hsz : 0 < size) (zb : Nat) (hs : a.eval s = .slice (some ⟨zb, 0, none⟩) 0 0) (hzb : Blk w zb e #[]) (ao : Option Addr) (n c : Nat) (hx : a.eval x = .slice ao n c) (xs : List Value) (hl : xs.length = n * size)
    (hsrc : n = 0 ∨ ∃ a, ao = some a ∧ ∀ j u, xs[j]? = some u → w.cell? (a.add j) = some u) (h1 : ∀ u ∈ xs, u.oneCell' = true) (h63 : n ≤ maxLen) (hbytes : n * bytes ≤ 140737488355328)
    (h : ∀ v' w', w'.ownsRow 0 e size v' n xs → Kp (· = zb) w w' → (∀ k, v'.ownBlock = some k → k = zb ∨ w.heap.size ≤ k) → wpList P ops Q rest (a.put o.dst v') w') : wpList P ops Q (o :: rest) a w := by
  refine wpList_plain hgd fun K hK => ?_
  obtain ⟨v', w', hr, h2, h3, h4⟩ := run_copy (P := P) w t o.type e i z size bytes ht hi hz hsize hby hzs hsz zb hzb ao n c xs hl hsrc h1 h63 hbytes
  unfold Oper.wp
  simp [execOp, ho, resolve, invoke, builtin, hs, hx, hr, Result.andThen]
  exact hK _ _ (h v' w' h2 h3 h4)
theorem step_copy {ops : Array Oper} {o : Oper} {a : Act} {K : Act → World → Prop} {Q : Exit → Act → World → Prop} {E : Prop} (hgd : o.guard = none) (s x : Operand) (t : TypeId)
    (ho : o.op = .call { callee := .builtin .append, args := #[s, x], argTypes := #[t, t] })
    (e : TypeId) (i : TypeInfo) (z : Value) (size bytes : Nat) (ht : P.underlying t = some (.slice e)) (hi : P.info? e = some i) (hz : i.zero = some z)
    (hsize : i.size = size) (hby : i.bytes = bytes) (hzs : z.cells.size = size) (hsz : 0 < size) (zb : Nat) (hs : a.eval s = .slice (some ⟨zb, 0, none⟩) 0 0) (hzb : Blk w zb e #[]) (ao : Option Addr) (n c : Nat) (hx : a.eval x = .slice ao n c) (xs : List Value) (hl : xs.length = n * size)
    (hsrc : n = 0 ∨ ∃ a, ao = some a ∧ ∀ j u, xs[j]? = some u → w.cell? (a.add j) = some u) (h1 : ∀ u ∈ xs, u.oneCell' = true) (h63 : n ≤ maxLen) (hbytes : n * bytes ≤ 140737488355328)
    (h : ∀ v' w', w'.ownsRow 0 e size v' n xs → Kp (· = zb) w w' → (∀ k, v'.ownBlock = some k → k = zb ∨ w.heap.size ≤ k) → K (a.put o.dst v') w') : if Region.wanted o (yielded ops a.tmps) = true then Oper.wp P o a w K Q else E := by
  have hw : Region.wanted o (yielded ops a.tmps) = true := by simp [Region.wanted, hgd]
  rw [if_pos hw]
  obtain ⟨v', w', hr, h2, h3, h4⟩ := run_copy (P := P) w t o.type e i z size bytes ht hi hz hsize hby hzs hsz zb hzb ao n c xs hl hsrc h1 h63 hbytes
  unfold Oper.wp
  simp [execOp, ho, resolve, invoke, builtin, hs, hx, hr, Result.andThen]
  exact h v' w' h2 h3 h4
end

/-- Events that came in. -/
def EIn (w : World) (v : Value) (l : List Ev) : Prop :=
  ∃ ao cap, v = .slice ao l.length cap ∧ (l.length = 0 ∨ ∃ b off, ao = some ⟨b, off, none⟩ ∧ b < w.heap.size ∧ ∀ j u, (l.flatMap Ev.cells)[j]? = some u → w.cell? ⟨b, off + j, none⟩ = some u)
theorem EIn.kp {w w' : World} {v : Value} {l : List Ev} {S : Nat → Prop} (h : EIn w v l) (k : Kp S w w') (hS : ∀ i, i < w.heap.size → ¬ S i) : EIn w' v l := by
  obtain ⟨ao, cap, rfl, h⟩ := h
  refine ⟨ao, cap, rfl, h.imp id ?_⟩
  rintro ⟨b, off, rfl, hb, hc⟩
  exact ⟨b, off, rfl, Nat.lt_of_lt_of_le hb k.size, fun j u hu => (k.cell (p := ⟨b, off + j, none⟩) hb (hS b hb)).trans (hc j u hu)⟩
theorem add_at (b off j : Nat) : (⟨b, off, none⟩ : Addr).add j = ⟨b, off + j, none⟩ := by
  unfold Addr.add
  split
  · rename_i h; simp [show j = 0 by omega]
  · rfl
theorem EIn.src {w : World} {ao : Option Addr} {cap : Nat} {l : List Ev} (h : EIn w (.slice ao l.length cap) l) : l.length = 0 ∨ ∃ a, ao = some a ∧ ∀ j u, (l.flatMap Ev.cells)[j]? = some u → w.cell? (a.add j) = some u := by
  obtain ⟨ao', cap', he, h⟩ := h
  simp only [Value.slice.injEq] at he
  obtain ⟨rfl, _, rfl⟩ := he
  refine h.imp id ?_
  rintro ⟨b, off, rfl, hb, hc⟩
  exact ⟨_, rfl, fun j u hu => by rw [add_at]; exact hc j u hu⟩
theorem ERow.src {t : TypeId} {w : World} {ao : Option Addr} {cap : Nat} {l : List Ev} (h : ERow t w (.slice ao l.length cap) l) : l.length = 0 ∨ ∃ a, ao = some a ∧ ∀ j u, (l.flatMap Ev.cells)[j]? = some u → w.cell? (a.add j) = some u := by
  by_cases h0 : l.length = 0
  · exact .inl h0
  · right
    obtain ⟨g, cap', he⟩ := row_some h (by omega)
    simp only [Value.slice.injEq] at he
    obtain ⟨rfl, _, rfl⟩ := he
    exact ⟨_, rfl, h.cells rfl⟩
theorem ecells_one (l : List Ev) : ∀ u ∈ l.flatMap Ev.cells, u.oneCell' = true := by
  intro u hu
  rw [List.mem_flatMap] at hu
  obtain ⟨e, _, h⟩ := hu
  simp [Ev.cells] at h
  rcases h with rfl | rfl | rfl | rfl <;> rfl
theorem info69' : (Try.prog.info? 69).map (fun i => (i.zero, i.size, i.bytes)) = some (some (.agg #[.int .i64 0, .int .i64 0, .int .i64 0, .int .i64 0]), 4, 32) := by kernel_rfl
theorem info96' : (Try.prog.info? 96).map (fun i => (i.zero, i.size, i.bytes)) = some (some (.agg #[.int .i64 0, .int .i64 0, .int .i64 0, .int .i64 0]), 4, 32) := by kernel_rfl
set_option maxRecDepth 100000 in
theorem eclone_any (v : Value) (l : List Ev) (w : World) (h : ERow 69 w v l) (hl : l.length ≤ 100000) :
    Calls Try.prog 57 #[v] w fun e w' => ∃ v', e = .returned v' ∧ ERow 69 w' v' l ∧ (∀ k, v'.ownBlock = some k → w.heap.size ≤ k) ∧ Kp (fun _ => False) w w' := by
  obtain ⟨i0, hi, hz0, hz1, hz2⟩ := info_parts info69'
  have q45 : ∀ (w : World) (a : Option Addr) (n c n' c' : Nat), (binOp .eql 56 (.slice a n c) (.slice none n' c')).run Try.prog w = .ok (.bool a.isNone) w := fun w a n c n' c' => Lib.run_eql_slice_nil w _ _ a n c n' c' Try.underlying56
  rcases h.2 with ⟨rfl, h0⟩ | ⟨g, cap, cur, rfl, h0, hh, r⟩
  · have e0 : l = [] := List.eq_nil_of_length_eq_zero h0
    subst e0
    clear h h0
    go_enter Try.func57, Try.ntmps57
    go_wp2
    go_returns
    exact ⟨_, rfl, World.ownsRow_nil _ _ _ _, (fun k hk => by cases hk), Kp.refl _ _⟩
  · have hs := ERow.src h
    have H := Lib.hid hs
    have hg := lt_of_block hh
    have H2 := Lib.hid h
    clear h hh r hs
    go_enter Try.func57, Try.ntmps57
    go_wp2_with (at_builtin; refine wpList_copy _ rfl (.tmp 5) (.tmp 6) 56 rfl 69 i0 _ 4 32 Try.underlying56 hi hz0 hz1 hz2 rfl (by decide) w.heap.size rfl (Blk.new rfl) (some ⟨g, 0, none⟩) l.length cap rfl (l.flatMap Ev.cells) (eflat_len l) ?src (ecells_one l) ?c3 ?c4 ?h)
    case src => exact (ERow.src (row_kp H2.out ((Kp.refl (fun _ => False) _).alloc _) (fun _ _ h => h)))
    case c3 => unfold maxLen; omega
    case c4 => omega
    case h =>
      intro v' w1 hown hk hnew
      have HO := Lib.hid hown
      have k1 : Kp (fun _ => False) w w1 := ((Kp.refl (fun _ => False) w).alloc _).trans' hk (fun i hi e => by have e' : i = w.heap.size := e; omega)
      have hn : ∀ k, v'.ownBlock = some k → w.heap.size ≤ k := fun k hk => (hnew k hk).elim (fun h => by omega) (fun h => by have := (World.grownBy_alloc w (.cells #[] 69) none).size; omega)
      have K1 := Lib.hid k1; have HN := Lib.hid hn
      clear hown hk hnew k1 hn
      go_wp2
      go_returns
      exact ⟨_, rfl, HO.out, HN.out, K1.out⟩
end Go.Proofs.Ytcdofhfneiednaa
