/- SiteHits: what a hit tells was learned last: the plain part, and the map of what was learned. -/
import Derived.Test.YtcdofhfneiednaaSiS
import Derived.Maps.OwnSet
namespace Go.Proofs.Ytcdofhfneiednaa
set_option linter.unusedSimpArgs false
set_option linter.unusedVariables false
open Go.RowKit

theorem act_ways (s : SS) (o : Sop) : (s.act o).ways = s.ways := by
  unfold SS.act SS.asked SS.learn SS.put SS.evict SS.flush SS.dep SS.deopt SS.forget
  dsimp only
  repeat' split
  all_goals rfl
theorem act_two {s : SS} (h : SOk s) (o : Sop) (h2 : s.state = 2) : (s.act o).state = 2 := by
  have hl : s.l = [] := by
    by_cases hn : s.l = []
    · exact hn
    · have := h.one.2 hn; omega
  unfold SS.act SS.asked SS.learn SS.evict SS.flush SS.dep
  rw [hl]
  repeat' split
  all_goals first | exact h2 | (exfalso; simp at *; omega) | (exfalso; omega) | simp_all
theorem act_other {s : SS} {o : Sop} (h1 : ¬ o.k = 1) (h2 : ¬ o.k = 2) : (s.act o).rw = s.rw ∧ (s.act o).hits = s.hits := by
  have h3 := rw_deopt s
  unfold SS.act SS.evict SS.flush SS.dep SS.forget
  rw [if_neg h1, if_neg h2]
  repeat' split
  all_goals first | exact ⟨rfl, rfl⟩ | exact h3
theorem mem_other {s : SS} {o : Sop} (hk : ¬ o.k = 2) {e : Ent} (he : e ∈ (s.act o).l) : e ∈ s.l := by
  unfold SS.act at he
  rw [if_neg hk] at he
  split at he
  · unfold SS.asked at he; split at he <;> exact he
  split at he
  · unfold SS.evict at he
    split at he
    · exact he
    split at he
    · simp [SS.forget] at he
    · simp only [List.mem_append] at he
      rcases he with h | h
      · exact List.mem_of_mem_take h
      · exact List.mem_of_mem_drop h
  split at he
  · unfold SS.flush at he; split at he
    · exact he
    · simp [SS.forget] at he
  split at he
  · unfold SS.dep at he; split at he
    · exact he
    · unfold SS.deopt at he; split at he <;> simp at he
  · exact he
theorem sh_inj {l : List Ent} (h : (l.map Ent.sh).Nodup) {i j : Nat} (hi : i < l.length) (hj : j < l.length) (e : l[i].sh = l[j].sh) : i = j := by
  induction l generalizing i j with
  | nil => simp at hi
  | cons a r ih =>
    simp only [List.map_cons, List.nodup_cons] at h
    match i, j with
    | 0, 0 => rfl
    | 0, j + 1 => exact absurd (List.mem_map.2 ⟨_, List.getElem_mem (by simpa using hj), by simpa using e.symm⟩) h.1
    | i + 1, 0 => exact absurd (List.mem_map.2 ⟨_, List.getElem_mem (by simpa using hi), by simpa using e⟩) h.1
    | i + 1, j + 1 => exact congrArg (· + 1) (ih (i := i) (j := j) h.2 (by simpa using hi) (by simpa using hj) (by simpa using e))
theorem mem_put {s : SS} {x : Ent} (h : (s.l.map Ent.sh).Nodup) {e : Ent} (he : e ∈ (s.put x).l) : e = x ∨ (e ∈ s.l ∧ e.sh ≠ x.sh) := by
  unfold SS.put at he
  dsimp only at he
  split at he
  · rename_i hi
    have hsh : (s.l[s.l.findIdx (fun e => e.sh == x.sh)]'hi).sh = x.sh := by
      have := List.findIdx_getElem (p := fun e : Ent => e.sh == x.sh) (w := hi)
      simpa using this
    generalize s.l.findIdx (fun e => e.sh == x.sh) = i at *
    split at he
    · rename_i hx
      rw [List.getElem?_eq_getElem hi] at hx
      simp at hx
      obtain ⟨j, hj, rfl⟩ := List.getElem_of_mem he
      by_cases hs : s.l[j].sh = x.sh
      · left
        have := sh_inj h hi hj (hsh.trans hs.symm)
        subst this
        exact hx
      · exact .inr ⟨he, hs⟩
    · simp only at he
      obtain ⟨j, hj, rfl⟩ := List.getElem_of_mem he
      rw [List.getElem_set]
      split
      · exact .inl rfl
      · rename_i hij
        have hj' : j < s.l.length := by simpa using hj
        exact .inr ⟨List.getElem_mem hj', fun hs => hij (sh_inj h hi hj' (hsh.trans hs.symm))⟩
  · rename_i hi
    split at he
    · simp only [List.mem_append, List.mem_singleton] at he
      rcases he with he | he
      · refine .inr ⟨he, fun hs => not_mem_sh hi ?_⟩
        rw [← hs]; exact List.mem_map.2 ⟨_, he, rfl⟩
      · exact .inl he
    · unfold SS.deopt at he; split at he <;> simp at he
theorem mem_learn {s : SS} {x : Ent} (h : SOk s) (h0 : ∀ e ∈ s.l, 0 ≤ e.sh) {e : Ent} (he : e ∈ (s.learn x).l) : (e = x ∧ 0 ≤ x.sh) ∨ (e ∈ s.l ∧ e.sh ≠ x.sh) := by
  unfold SS.learn at he
  split at he
  · rename_i hx
    refine .inr ⟨he, ?_⟩
    rcases hx with hx | hx
    · have := h0 e he; omega
    · have := h.len
      have := List.length_pos_of_mem he
      omega
  · rename_i hx
    split at he
    · rename_i hs
      have hl : s.l = [] := by
        by_cases hn : s.l = []
        · exact hn
        · have := h.one.2 hn; omega
      split at he
      · simp [hl] at he
      · have := mem_put (s := { s with count := s.count + 1, state := 1 }) h.nodup he
        rcases this with h1 | h1
        · exact .inl ⟨h1, by omega⟩
        · exact .inr h1
    · split at he
      · rcases mem_put h.nodup he with h1 | h1
        · exact .inl ⟨h1, by omega⟩
        · exact .inr h1
      · rename_i h1 h2
        have := h.st
        have hl : s.l = [] := by
          by_cases hn : s.l = []
          · exact hn
          · have := h.one.2 hn; omega
        simp [hl] at he

def knownD (a b : Int) : DataW Unit := .agg [.lit (.int .i64 a), .lit (.int .u64 b)]
theorem knownD_inj {a b c d : Int} (h : knownD a b = knownD c d) : a = c ∧ b = d := by
  unfold knownD at h
  injection h with h
  injection h with h1 h
  injection h with h2 h
  injection h1 with h1
  injection h2 with h2
  injection h1 with _ h1
  injection h2 with _ h2
  exact ⟨h1, h2⟩
def knownR (v : Value) : Option (DataW Unit × List MemPlace) :=
  match v with
  | .agg cs => match cs.toList with
    | [.int .i64 a, .int .u64 b] => some (knownD a b, [])
    | _ => none
  | _ => none
theorem knownR_inv {v : Value} {z : DataW Unit × List MemPlace} (h : knownR v = some z) : ∃ a b, v = .agg #[.int .i64 a, .int .u64 b] ∧ z = (knownD a b, []) := by
  unfold knownR at h
  split at h
  · rename_i cs
    split at h
    · rename_i a b hc
      cases h
      refine ⟨a, b, ?_, rfl⟩
      have : cs = #[.int .i64 a, .int .u64 b] := by
        have e := congrArg List.toArray hc
        simpa using e
      rw [this]
    · cases h
  · cases h

/-- What the map holds of the entries. -/
def KnownBy (D : DataW Unit) (l : List Ent) : Prop :=
  ∀ e ∈ l, 0 ≤ e.sh ∧ Maps.has D (.int .i64 e.sh) = true ∧ D.atKey (.int .i64 e.sh) (knownD 0 0) = knownD e.sl e.ep
theorem known_put {D : DataW Unit} {s : SS} (x : Ent) (hD : Maps.IsMap D) (h : SOk s) (hk : KnownBy D s.l) : KnownBy (D.put (.int .i64 x.sh) (knownD x.sl x.ep)) (s.learn x).l := by
  intro e he
  rcases mem_learn h (fun e he => (hk e he).1) he with ⟨rfl, h0⟩ | ⟨he, hne⟩
  · have hk' : WideAt.IsKeyLit (.int .i64 e.sh) := trivial
    exact ⟨h0, Maps.has_put_same hD hk' _, Maps.atKey_put_same hD hk' _ _⟩
  · obtain ⟨h1, h2, h3⟩ := hk e he
    have hn : (Lit.int .i64 e.sh) ≠ .int .i64 x.sh := fun c => hne (by injection c)
    exact ⟨h1, by rw [Maps.has_put_other hn]; exact h2, by rw [Maps.atKey_put_other hn]; exact h3⟩
theorem known_other {D : DataW Unit} {s : SS} {o : Sop} (hk : ¬ o.k = 2) (h : KnownBy D s.l) : KnownBy D (s.act o).l := fun e he => h e (mem_other hk he)
theorem known_hit {D : DataW Unit} {s : SS} {k ep : Int} (h : KnownBy D s.l) (ha : s.askIs k ep = true) : Maps.has D (.int .i64 k) = true ∧ D.atKey (.int .i64 k) (knownD 0 0) = knownD (s.askN k ep) ep := by
  unfold SS.askIs at ha
  unfold SS.askN
  cases hl : s.look k ep with
  | none => rw [hl] at ha; cases ha
  | some x =>
    dsimp only
    unfold SS.look at hl
    rw [Option.filter_eq_some_iff] at hl
    obtain ⟨h1, h2⟩ := hl
    have hm := List.mem_of_find?_eq_some h1
    have hs := List.find?_some h1
    simp at hs h2
    obtain ⟨_, h4, h5⟩ := h x hm
    subst hs
    subst h2
    exact ⟨h4, h5⟩

theorem map_kp {S : Nat → Prop} {w w' : World} {b n : Nat} {D : DataW Unit} (h : w.ownsMap Try.prog 3 knownR b n D) (k : Kp S w w') (hn : ¬ S b) : w'.ownsMap Try.prog 3 knownR b n D := by
  have hlt := h.lt
  obtain ⟨es, clock, hb, F, hs, hD⟩ := h
  exact ⟨es, clock, (k.block b hlt hn).trans hb, F, hs, hD⟩
theorem zero50 (w : World) : (zeroValue 50).run Try.prog w = .ok (.agg #[.int .i64 0, .int .u64 0]) w := by kernel_rfl
theorem key3 : Maps.Keyed Try.prog 3 := Maps.int_keyed Try.underlying3
theorem known_any {w : World} {b n : Nat} {D : DataW Unit} (h : w.ownsMap Try.prog 3 knownR b n D) {k : Int} (hw : (Lit.int .i64 k).wf = true) : ∃ c d, D.atKey (.int .i64 k) (knownD 0 0) = knownD c d := by
  obtain ⟨v, ps, _, hv⟩ := h.look_ok key3 Try.underlying48 (zero50 w) (zd := knownD 0 0) (zp := []) rfl (Maps.keyOf_int_mk Try.underlying3 hw)
  obtain ⟨a, b, _, hz⟩ := knownR_inv hv
  exact ⟨a, b, congrArg Prod.fst hz⟩
theorem wpList_look_known (w : World) {ops : Array Oper} {rest : List Oper} {o : Oper} {a : Act} {Q : Exit → Act → World → Prop}
    (hg : o.guard = none) (m x : Operand) (hop : o.op = Op.lookup 48 m x true) (b n : Nat) (D : DataW Unit) (k : Int) (hw : (Lit.int .i64 k).wf = true)
    (hm : a.eval m = .map (some b)) (hx : a.eval x = .int .i64 k) (hown : w.ownsMap Try.prog 3 knownR b n D) (c d : Int) (h : Bool)
    (hat : D.atKey (.int .i64 k) (knownD 0 0) = knownD c d) (hh : Maps.has D (.int .i64 k) = h)
    (hK : wpList Try.prog ops Q rest (a.put o.dst (.tuple #[.agg #[.int .i64 c, .int .u64 d], .bool h])) w) :
    wpList Try.prog ops Q (o :: rest) a w :=
  wpList_lookup_own_ok w hg m x 48 hop 3 50 key3 Try.underlying48 knownR (zero50 w) (knownD 0 0) [] rfl b n D hm hown _ _ hx (Maps.keyOf_int_mk Try.underlying3 hw) (fun v ps hv => by
    obtain ⟨a', b', rfl, hz⟩ := knownR_inv hv
    have := knownD_inj ((congrArg Prod.fst hz).symm.trans hat)
    rw [this.1, this.2, hh]
    exact hK)
theorem map_lt {w : World} {b n : Nat} {D : DataW Unit} (h : w.ownsMap Try.prog 3 knownR b n D) : b < w.heap.size := h.lt
end Go.Proofs.Ytcdofhfneiednaa
