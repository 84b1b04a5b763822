/- Two policies' sites over blocks apart; a step of either. -/
import Derived.Test.YtcdofhfneiednaaPoP
namespace Go.Proofs.Ytcdofhfneiednaa
set_option linter.unusedSimpArgs false
set_option linter.unusedVariables false
open Go.RowKit

def Two (R : Nat → Prop) (w : World) (b : Nat) (S : Ss) (bs : List Nat) (b' : Nat) (S' : Ss) (bs' : List Nat) : Prop :=
  ∃ F F', Shop 99 69 24 Site w b S bs F ∧ Shop 99 69 24 Site w b' S' bs' F' ∧ (∀ k, F k → ¬ F' k) ∧ (∀ k, F k → R k) ∧ ∀ k, F' k → R k
section
variable {R : Nat → Prop} {w w' : World} {b b' : Nat} {S S' : Ss} {bs bs' : List Nat}
theorem Two.symm (h : Two R w b S bs b' S' bs') : Two R w b' S' bs' b S bs := by
  obtain ⟨F, F', h1, h2, h3, h4, h5⟩ := h
  exact ⟨F', F, h2, h1, fun k a c => h3 k c a, h5, h4⟩
theorem Two.kp {D : Nat → Prop} (h : Two R w b S bs b' S' bs') (k : Kp D w w') (hn : ∀ k, k < w.heap.size → R k → ¬ D k) : Two R w' b S bs b' S' bs' := by
  obtain ⟨F, F', h1, h2, h3, h4, h5⟩ := h
  exact ⟨F, F', h1.kp spy_site k (fun i hi hf => hn i hi (h4 i hf)), h2.kp spy_site k (fun i hi hf => hn i hi (h5 i hf)), h3, h4, h5⟩
theorem Two.tell (h : Two R w b S bs b' S' bs') (k : Kp (fun _ => False) w w') : Two R w' b S bs b' S' bs' := h.kp k (fun _ _ _ h => h)
theorem Two.fst (h : Two R w b S bs b' S' bs') : OwnS R w b S bs := by
  obtain ⟨F, F', h1, h2, h3, h4, h5⟩ := h
  exact ⟨F, h1, h4⟩
theorem Two.snd (h : Two R w b S bs b' S' bs') : OwnS R w b' S' bs' := h.symm.fst
theorem Two.mono {R' : Nat → Prop} (h : Two R w b S bs b' S' bs') (hr : ∀ k, R k → R' k) : Two R' w b S bs b' S' bs' := by
  obtain ⟨F, F', h1, h2, h3, h4, h5⟩ := h
  exact ⟨F, F', h1, h2, h3, fun k hk => hr k (h4 k hk), fun k hk => hr k (h5 k hk)⟩
theorem Two.except (h : Two R w b S bs b' S' bs') (k : Kp (fun _ => False) w w') {g : Nat} (hg : w.heap.size ≤ g) : Two (fun k => R k ∧ k ≠ g) w' b S bs b' S' bs' := by
  obtain ⟨F, F', h1, h2, h3, h4, h5⟩ := h
  exact ⟨_, _, h1.old.kp spy_site k (fun _ _ _ h => h), h2.old.kp spy_site k (fun _ _ _ h => h), fun k a c => h3 k a.1 c.1, fun k hk => ⟨h4 k hk.1, by have := hk.2; omega⟩, fun k hk => ⟨h5 k hk.1, by have := hk.2; omega⟩⟩
/-- A step of the first. -/
theorem two_of {S2 : Ss} {F F' : Nat → Prop} (hP : ∀ k, w.heap.size ≤ k → R k) (h2 : Shop 99 69 24 Site w b' S' bs' F') (h3 : ∀ k, F k → ¬ F' k) (h4 : ∀ k, F k → R k) (h5 : ∀ k, F' k → R k) (ht : ShopThen 99 69 24 Site b S2 bs F w w') :
    Two R w' b S2 bs b' S' bs' ∧ Kp R w w' := by
  obtain ⟨G, g1, g2, g3⟩ := ht
  refine ⟨⟨G, _, g1, h2.old.kp spy_site g2 (fun k _ hf hF => h3 k hF hf.1), fun k hk hf => ?_, fun k hk => (g3 k hk).elim (h4 k) (hP k), fun k hk => h5 k hk.1⟩, g2.mono (fun k _ h => h4 k h)⟩
  rcases g3 k hk with h | h
  · exact h3 k h hf.1
  · have := hf.2; omega
theorem learn_shop {F : Nat → Prop} {i : Nat} (h : Shop 99 69 24 Site w b S bs F) (hi : i < S.l.length) (x : Ent) (hrw : S.l[i].rw < 1000000000000) :
    Calls Try.prog 16 #[.pointer (some ⟨bs.getD i 0, 0, none⟩), .int .i64 x.sh, .int .i64 x.sl, .int .u64 x.ep] w fun e w' => e = .returned (.tuple #[]) ∧ ShopThen 99 69 24 Site b { S with l := S.l.set i (S.l[i].learn x) } bs F w w' := by
  obtain ⟨ev, lv, Fs, hA⟩ := h
  refine (learn_site (bs.getD i 0) S.l[i] x (Fs i) w (hA.many.at' i hi) hrw).mono fun e w' ⟨he, ht⟩ => ⟨he, ?_⟩
  obtain ⟨Gs, m1, m2, m3⟩ := hA.many.step spy_site hi ht
  refine ⟨fun k => F k ∨ w.heap.size ≤ k, ⟨ev, lv, Gs, Blk.kp hA.blk m3 (fun e => (hA.ap i b e).1 rfl), row_kp hA.evr m3 (fun q hq e => (hA.ap i q e).2.1 hq), row_kp hA.row m3 (fun q hq e => (hA.ap i q e).2.2 hq), m1, .inl hA.fb, fun q hq => .inl (hA.fe q hq), fun q hq => .inl (hA.fl q hq), fun j q hq => (m2 j q hq).imp (hA.fs j q) (fun h => h.1), fun j q hq => ?_⟩, m3.mono (fun q _ hq => hA.fs i q hq), fun _ h => h⟩
  rcases m2 j q hq with h' | h'
  · exact hA.ap j q h'
  · have hb := hA.blk.lt
    refine ⟨by omega, fun e => ?_, fun e => ?_⟩
    · have := (hA.evr.lt q e).2; omega
    · have := (hA.row.lt q e).2; omega
theorem at_two (h : Two R w b S bs b' S' bs') (id : Int) (hP : ∀ k, w.heap.size ≤ k → R k) (hl : S.l.length ≤ 100000) (he : S.p.evs.length ≤ 100000) (hn : 0 ≤ S.n ∧ S.n ≤ 1000000) :
    Calls Try.prog 34 #[.pointer (some ⟨b, 0, none⟩), .int .i64 id] w fun e w' => e = .returned (atPtr bs id S.l.length) ∧ Two R w' b (S.at' id) bs b' S' bs' ∧ Kp R w w' := by
  obtain ⟨F, F', h1, h2, h3, h4, h5⟩ := h
  exact (at_shop b S bs F id w h1 hl he hn).mono fun e w' ⟨he, ht⟩ => ⟨he, two_of hP h2 h3 h4 h5 ht⟩
theorem at_two' (h : Two R w b S bs b' S' bs') (id : Int) (hP : ∀ k, w.heap.size ≤ k → R k) (hl : S'.l.length ≤ 100000) (he : S'.p.evs.length ≤ 100000) (hn : 0 ≤ S'.n ∧ S'.n ≤ 1000000) :
    Calls Try.prog 34 #[.pointer (some ⟨b', 0, none⟩), .int .i64 id] w fun e w' => e = .returned (atPtr bs' id S'.l.length) ∧ Two R w' b S bs b' (S'.at' id) bs' ∧ Kp R w w' :=
  (at_two h.symm id hP hl he hn).mono fun e w' ⟨he, h1, h2⟩ => ⟨he, h1.symm, h2⟩
theorem lrn_two (h : Two R w b S bs b' S' bs') {i : Nat} (hi : i < S.l.length) (x : Ent) (hP : ∀ k, w.heap.size ≤ k → R k) (hrw : S.l[i].rw < 1000000000000) :
    Calls Try.prog 16 #[.pointer (some ⟨bs.getD i 0, 0, none⟩), .int .i64 x.sh, .int .i64 x.sl, .int .u64 x.ep] w fun e w' => e = .returned (.tuple #[]) ∧ Two R w' b { S with l := S.l.set i (S.l[i].learn x) } bs b' S' bs' ∧ Kp R w w' := by
  obtain ⟨F, F', h1, h2, h3, h4, h5⟩ := h
  exact (learn_shop h1 hi x hrw).mono fun e w' ⟨he, ht⟩ => ⟨he, two_of hP h2 h3 h4 h5 ht⟩
theorem lrn_two' (h : Two R w b S bs b' S' bs') {i : Nat} (hi : i < S'.l.length) (x : Ent) (hP : ∀ k, w.heap.size ≤ k → R k) (hrw : S'.l[i].rw < 1000000000000) :
    Calls Try.prog 16 #[.pointer (some ⟨bs'.getD i 0, 0, none⟩), .int .i64 x.sh, .int .i64 x.sl, .int .u64 x.ep] w fun e w' => e = .returned (.tuple #[]) ∧ Two R w' b S bs b' { S' with l := S'.l.set i (S'.l[i].learn x) } bs' ∧ Kp R w w' :=
  (lrn_two h.symm hi x hP hrw).mono fun e w' ⟨he, h1, h2⟩ => ⟨he, h1.symm, h2⟩
/-- A second, made after the first. -/
theorem newp_two (h : OwnS R w b S bs) (p : Pol) (v : Value) (n : Nat) (hv : ERow 69 w v p.evs) (hl : p.evs.length ≤ 100000) (hn : n ≤ 100) (hP : ∀ k, w.heap.size ≤ k → R k) :
    Calls Try.prog 33 #[.agg (p.cells v), .int .i64 n] w fun e w' => ∃ b' bs', e = .returned (.pointer (some ⟨b', 0, none⟩)) ∧ Two R w' b S bs b' ⟨p, List.replicate n (s0of p), 0⟩ bs' ∧ Kp (fun _ => False) w w' := by
  obtain ⟨F, h1, h2⟩ := h
  exact (newp_any p v n w hv hl hn).mono fun e w' ⟨b', bs', F', he, g1, g2, g3⟩ => ⟨b', bs', he, ⟨_, F', h1.old.kp spy_site g3 (fun _ _ _ h => h), g1, fun k hk hf => by have := g2 k hf; have := hk.2; omega, fun k hk => h2 k hk.1, fun k hk => hP k (g2 k hk)⟩, g3⟩
end

/-- Rewrites stay few. -/
def Lo (c : Int) (l : List SS) : Prop := ∀ s ∈ l, s.rw ≤ c
theorem rw_app1 (s : SS) (v : Ev) : (app1 s v).rw = s.rw := by
  unfold app1 SS.flush SS.evict SS.dep SS.forget
  have := (rw_deopt s).1
  repeat' split
  all_goals first | rfl | exact this
theorem lo_force {c : Int} {l : List SS} (v : Ev) (h : Lo c l) : Lo c (force l v) := by
  intro s hs
  unfold force forceN at hs
  obtain ⟨i, hi, he⟩ := List.getElem_of_mem hs
  rw [List.getElem_mapIdx] at he
  have hi' : i < l.length := by simpa using hi
  subst he
  split
  · rw [rw_app1]; exact h _ (List.getElem_mem hi')
  · exact h _ (List.getElem_mem hi')
theorem lo_fold {c : Int} (es : List Ev) {l : List SS} (h : Lo c l) : Lo c (es.foldl force l) := by
  induction es generalizing l with
  | nil => exact h
  | cons e r ih => exact ih (lo_force e h)
theorem lo_at {c : Int} {S : Ss} (id : Int) (h : Lo c S.l) : Lo c (S.at' id).l := by
  unfold Ss.at'
  split
  · exact lo_fold _ h
  · exact h
theorem lo_learn {c : Int} {l : List SS} {i : Nat} (hi : i < l.length) (x : Ent) (h : Lo c l) : Lo (c + 1) (l.set i (l[i].learn x)) := by
  intro s hs
  rcases List.mem_or_eq_of_mem_set hs with h' | rfl
  · have := h s h'; omega
  · have := (rw_step l[i] x).2.1
    have := h _ (List.getElem_mem hi)
    omega
theorem lo_new (p : Pol) (n : Nat) : Lo 0 (List.replicate n (s0of p)) := by
  intro s hs
  obtain ⟨_, rfl⟩ := List.mem_replicate.1 hs
  exact Int.le_refl _
theorem at_len (S : Ss) (id : Int) : (S.at' id).l.length = S.l.length := by
  unfold Ss.at'
  split
  · exact fold_len _ _
  · rfl
theorem at_pol (S : Ss) (id : Int) : (S.at' id).p = S.p := by unfold Ss.at'; split <;> rfl
theorem at_n (S : Ss) (id : Int) : S.n ≤ (S.at' id).n ∧ (S.at' id).n ≤ S.n + 1 := by
  unfold Ss.at'
  split
  · exact ⟨by dsimp only; omega, by dsimp only; omega⟩
  · exact ⟨by omega, by omega⟩
end Go.Proofs.Ytcdofhfneiednaa
