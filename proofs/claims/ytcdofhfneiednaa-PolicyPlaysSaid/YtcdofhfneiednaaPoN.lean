/- A step of one site of many; sites over blocks of which a property holds. -/
import Derived.Test.YtcdofhfneiednaaPoM
namespace Go.Proofs.Ytcdofhfneiednaa
set_option linter.unusedSimpArgs false
set_option linter.unusedVariables false
open Go.RowKit

section
variable {t te tp : TypeId} {Sp : World → Nat → SS → (Nat → Prop) → Prop} {w w' : World} {b : Nat} {S : Ss} {bs : List Nat} {F : Nat → Prop}
theorem Shop.step (Y : Spy Sp) {i : Nat} (h : Shop t te tp Sp w b S bs F) (hi : i < S.l.length) {s' : SS} (ht : ∀ Fi, Sp w (bs.getD i 0) S.l[i] Fi → (∀ k, Fi k → F k) → SThen Sp (bs.getD i 0) s' Fi w w') :
    ShopThen t te tp Sp b { S with l := S.l.set i s' } bs F w w' := by
  obtain ⟨ev, lv, Fs, h⟩ := h
  have h1 := ht (Fs i) (h.many.at' i hi) (h.fs i)
  obtain ⟨Gs, m1, m2, m3⟩ := h.many.step Y hi h1
  have hap : ∀ k, Fs i k → k ≠ b ∧ ev.ownBlock ≠ some k ∧ lv.ownBlock ≠ some k := h.ap i
  refine ⟨fun k => F k ∨ w.heap.size ≤ k, ⟨ev, lv, Gs, Blk.kp h.blk m3 (fun e => (hap b e).1 rfl), row_kp h.evr m3 (fun q hq e => (hap q e).2.1 hq), row_kp h.row m3 (fun q hq e => (hap q e).2.2 hq), m1, .inl h.fb, fun q hq => .inl (h.fe q hq), fun q hq => .inl (h.fl q hq), fun j q hq => ?_, fun j q hq => ?_⟩, m3.mono (fun q _ hq => h.fs i q hq), fun _ h => h⟩
  · exact (m2 j q hq).imp (h.fs j q) (fun h => h.1)
  · rcases m2 j q hq with h' | h'
    · exact h.ap j q h'
    · have hb := h.blk.lt
      refine ⟨by omega, fun e => ?_, fun e => ?_⟩
      · have := (h.evr.lt q e).2; omega
      · have := (h.row.lt q e).2; omega
theorem Shop.site {i : Nat} (h : Shop t te tp Sp w b S bs F) (hi : i < S.l.length) : ∃ Fi, Sp w (bs.getD i 0) S.l[i] Fi ∧ ∀ k, Fi k → F k := by
  obtain ⟨ev, lv, Fs, h⟩ := h
  exact ⟨Fs i, h.many.at' i hi, h.fs i⟩
end
/-- Sites over blocks of P. -/
def OwnS (P : Nat → Prop) (w : World) (b : Nat) (S : Ss) (bs : List Nat) : Prop := ∃ F, Shop 99 69 24 Site w b S bs F ∧ ∀ k, F k → P k
section
variable {P : Nat → Prop} {w w' : World} {b : Nat} {S : Ss} {bs : List Nat}
theorem OwnS.kp {D : Nat → Prop} (h : OwnS P w b S bs) (k : Kp D w w') (hn : ∀ k, k < w.heap.size → P k → ¬ D k) : OwnS P w' b S bs := by
  obtain ⟨F, h1, h2⟩ := h
  exact ⟨F, h1.kp spy_site k (fun i hi hf => hn i hi (h2 i hf)), h2⟩
theorem OwnS.tell (h : OwnS P w b S bs) (k : Kp (fun _ => False) w w') : OwnS P w' b S bs := h.kp k (fun _ _ _ h => h)
theorem OwnS.len (h : OwnS P w b S bs) : bs.length = S.l.length := by obtain ⟨F, h1, _⟩ := h; exact h1.len
theorem OwnS.lt (h : OwnS P w b S bs) : b < w.heap.size := by obtain ⟨F, h1, _⟩ := h; exact h1.lt
theorem OwnS.site {i : Nat} (h : OwnS P w b S bs) (hi : i < S.l.length) : Own P w (bs.getD i 0) S.l[i] := by
  obtain ⟨F, h1, h2⟩ := h
  obtain ⟨Fi, h3, h4⟩ := h1.site hi
  exact ⟨Fi, h3, fun k hk => h2 k (h4 k hk)⟩
theorem owns_of {S' : Ss} {F : Nat → Prop} (hP : ∀ k, w.heap.size ≤ k → P k) (hF : ∀ k, F k → P k) (h : ShopThen 99 69 24 Site b S' bs F w w') : OwnS P w' b S' bs ∧ Kp P w w' := by
  obtain ⟨F', h1, h2, h3⟩ := h
  exact ⟨⟨F', h1, fun k hk => (h3 k hk).elim (hF k) (hP k)⟩, h2.mono (fun k _ h => hF k h)⟩
/-- Learn at one site. -/
theorem learn_at {i : Nat} (h : OwnS P w b S bs) (hi : i < S.l.length) (x : Ent) (hP : ∀ k, w.heap.size ≤ k → P k) (hrw : S.l[i].rw < 1000000000000) :
    Calls Try.prog 16 #[.pointer (some ⟨bs.getD i 0, 0, none⟩), .int .i64 x.sh, .int .i64 x.sl, .int .u64 x.ep] w fun e w' => e = .returned (.tuple #[]) ∧ OwnS P w' b { S with l := S.l.set i (S.l[i].learn x) } bs ∧ Kp P w w' := by
  obtain ⟨F, h1, h2⟩ := h
  obtain ⟨ev, lv, Fs, hA⟩ := h1
  refine (learn_site (bs.getD i 0) S.l[i] x (Fs i) w (hA.many.at' i hi) hrw).mono fun e w' ⟨he, ht⟩ => ⟨he, ?_⟩
  obtain ⟨Gs, m1, m2, m3⟩ := hA.many.step spy_site hi ht
  refine owns_of hP h2 ⟨fun k => F k ∨ w.heap.size ≤ k, ⟨ev, lv, Gs, Blk.kp hA.blk m3 (fun e => (hA.ap i b e).1 rfl), row_kp hA.evr m3 (fun q hq e => (hA.ap i q e).2.1 hq), row_kp hA.row m3 (fun q hq e => (hA.ap i q e).2.2 hq), m1, .inl hA.fb, fun q hq => .inl (hA.fe q hq), fun q hq => .inl (hA.fl q hq), fun j q hq => (m2 j q hq).imp (hA.fs j q) (fun h => h.1), fun j q hq => ?_⟩, m3.mono (fun q _ hq => hA.fs i q hq), fun _ h => h⟩
  rcases m2 j q hq with h' | h'
  · exact hA.ap j q h'
  · have hb := hA.blk.lt
    refine ⟨by omega, fun e => ?_, fun e => ?_⟩
    · have := (hA.evr.lt q e).2; omega
    · have := (hA.row.lt q e).2; omega
theorem at_owns (h : OwnS P w b S bs) (id : Int) (hP : ∀ k, w.heap.size ≤ k → P k) (hl : S.l.length ≤ 100000) (he : S.p.evs.length ≤ 100000) (hn : 0 ≤ S.n ∧ S.n ≤ 1000000) :
    Calls Try.prog 34 #[.pointer (some ⟨b, 0, none⟩), .int .i64 id] w fun e w' => e = .returned (atPtr bs id S.l.length) ∧ OwnS P w' b (S.at' id) bs ∧ Kp P w w' := by
  obtain ⟨F, h1, h2⟩ := h
  exact (at_shop b S bs F id w h1 hl he hn).mono fun e w' ⟨he, ht⟩ => ⟨he, owns_of hP h2 ht⟩
theorem all_owns (h : OwnS P w b S bs) (hl : bs.length ≤ 100000) :
    Calls Try.prog 35 #[.pointer (some ⟨b, 0, none⟩)] w fun e w' => ∃ v', e = .returned v' ∧ w'.ownsRow 0 24 1 v' bs.length (ptrs bs) ∧ (∀ k, v'.ownBlock = some k → w.heap.size ≤ k) ∧ Kp (fun _ => False) w w' := by
  obtain ⟨F, h1, h2⟩ := h
  exact all_shop b S bs F w h1 hl
theorem accesses_owns (h : OwnS P w b S bs) :
    Calls Try.prog 38 #[.pointer (some ⟨b, 0, none⟩)] w fun e w' => e = .returned (.int .i64 S.n) ∧ Kp (fun _ => False) w w' := by
  obtain ⟨F, h1, h2⟩ := h
  exact accesses_shop b S bs F w h1
theorem newp_owns (p : Pol) (v : Value) (n : Nat) (w : World) (h : ERow 69 w v p.evs) (hl : p.evs.length ≤ 100000) (hn : n ≤ 100) (hP : ∀ k, w.heap.size ≤ k → P k) :
    Calls Try.prog 33 #[.agg (p.cells v), .int .i64 n] w fun e w' => ∃ b bs, e = .returned (.pointer (some ⟨b, 0, none⟩)) ∧ OwnS P w' b ⟨p, List.replicate n (s0of p), 0⟩ bs ∧ Kp (fun _ => False) w w' :=
  (newp_any p v n w h hl hn).mono fun e w' ⟨b, bs, F, he, h1, h2, h3⟩ => ⟨b, bs, he, ⟨F, h1, fun k hk => hP k (h2 k hk)⟩, h3⟩
end
end Go.Proofs.Ytcdofhfneiednaa
