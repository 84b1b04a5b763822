/- Sites over blocks of which a property holds; selkielaw17.alive. -/
import Derived.Test.YtcdofhfneiednaaSiD
namespace Go.Proofs.Ytcdofhfneiednaa
set_option linter.unusedSimpArgs false
set_option linter.unusedVariables false
open Go.RowKit

/-- A site over blocks of P. -/
def Own (P : Nat → Prop) (w : World) (b : Nat) (s : SS) : Prop := ∃ F, Site w b s F ∧ ∀ k, F k → P k
theorem Own.kp {P S : Nat → Prop} {w w' : World} {b : Nat} {s : SS} (h : Own P w b s) (k : Kp S w w') (hn : ∀ k, k < w.heap.size → P k → ¬ S k) : Own P w' b s := by
  obtain ⟨F, h1, h2⟩ := h
  exact ⟨F, h1.kp k (fun i hi hf => hn i hi (h2 i hf)), h2⟩
theorem Own.ok {P : Nat → Prop} {w : World} {b : Nat} {s : SS} (h : Own P w b s) : SOk s := by obtain ⟨F, h1, h2⟩ := h; exact h1.ok
theorem Own.lt {P : Nat → Prop} {w : World} {b : Nat} {s : SS} (h : Own P w b s) : b < w.heap.size := by obtain ⟨F, h1, h2⟩ := h; exact h1.lt
theorem own_of {P : Nat → Prop} {w w' : World} {b : Nat} {s : SS} {F : Nat → Prop} (hP : ∀ k, w.heap.size ≤ k → P k) (hF : ∀ k, F k → P k) (h : Then b s F w w') : Own P w' b s ∧ Kp P w w' := by
  obtain ⟨F', h1, h2, h3⟩ := h
  exact ⟨⟨F', h1, fun k hk => (h3 k hk).elim (hF k) (hP k)⟩, h2.mono (fun k _ h => hF k h)⟩
theorem learn_own {P : Nat → Prop} {b : Nat} {s : SS} {w : World} (h : Own P w b s) (x : Ent) (hP : ∀ k, w.heap.size ≤ k → P k) (hrw : s.rw < 1000000000000) :
    Calls Try.prog 16 #[.pointer (some ⟨b, 0, none⟩), .int .i64 x.sh, .int .i64 x.sl, .int .u64 x.ep] w fun e w' => e = .returned (.tuple #[]) ∧ Own P w' b (s.learn x) ∧ Kp P w w' := by
  obtain ⟨F, h1, h2⟩ := h
  exact (learn_site b s x F w h1 hrw).mono fun e w' ⟨he, ht⟩ => ⟨he, own_of hP h2 ht⟩
theorem flush_own {P : Nat → Prop} {b : Nat} {s : SS} {w : World} (h : Own P w b s) (hP : ∀ k, w.heap.size ≤ k → P k) :
    Calls Try.prog 50 #[.pointer (some ⟨b, 0, none⟩)] w fun e w' => e = .returned (.tuple #[]) ∧ Own P w' b s.flush ∧ Kp P w w' := by
  obtain ⟨F, h1, h2⟩ := h
  exact (flush_site b s F w h1).mono fun e w' ⟨he, ht⟩ => ⟨he, own_of hP h2 ht⟩
theorem dep_own {P : Nat → Prop} {b : Nat} {s : SS} {w : World} (h : Own P w b s) (hP : ∀ k, w.heap.size ≤ k → P k) :
    Calls Try.prog 51 #[.pointer (some ⟨b, 0, none⟩)] w fun e w' => e = .returned (.tuple #[]) ∧ Own P w' b s.dep ∧ Kp P w w' := by
  obtain ⟨F, h1, h2⟩ := h
  exact (dep_site b s F w h1).mono fun e w' ⟨he, ht⟩ => ⟨he, own_of hP h2 ht⟩
theorem ask_own {P : Nat → Prop} {b : Nat} {s : SS} {w : World} (h : Own P w b s) (k ep : Int) (hh : s.hits < 1000000000000) :
    Calls Try.prog 14 #[.pointer (some ⟨b, 0, none⟩), .int .i64 k, .int .u64 ep] w fun e w' => e = .returned (.tuple #[.int .i64 (s.askN k ep), .bool (s.askIs k ep)]) ∧ Own P w' b (s.asked k ep) ∧ Kp P w w' := by
  obtain ⟨F, h1, h2⟩ := h
  exact (ask_site b s k ep F w h1 hh).mono fun e w' ⟨he, h3, h4⟩ => ⟨he, ⟨F, h3, h2⟩, h4.mono (fun k _ h => h2 k h)⟩
theorem new_own {P : Nat → Prop} {w : World} (ways warm : Int) (hP : ∀ k, w.heap.size ≤ k → P k) :
    Calls Try.prog 13 #[.int .i64 ways, .int .i64 warm] w fun e w' => ∃ b, e = .returned (.pointer (some ⟨b, 0, none⟩)) ∧ Own P w' b (SS.new ways warm) ∧ Kp P w w' :=
  (new_site ways warm w).mono fun e w' ⟨b, he, hb, hs, hk⟩ => ⟨b, he, ⟨_, hs, fun k hk => hk ▸ hP b hb⟩, Kp.of_below hk⟩
theorem state_own {P : Nat → Prop} {b : Nat} {s : SS} {w : World} (h : Own P w b s) : Calls Try.prog 17 #[.pointer (some ⟨b, 0, none⟩)] w fun e w' => e = .returned (.int .i64 s.state) ∧ Kp (fun _ => False) w w' := by
  obtain ⟨F, h1, h2⟩ := h; exact state_site b s F w h1
theorem rewrites_own {P : Nat → Prop} {b : Nat} {s : SS} {w : World} (h : Own P w b s) : Calls Try.prog 15 #[.pointer (some ⟨b, 0, none⟩)] w fun e w' => e = .returned (.int .i64 s.rw) ∧ Kp (fun _ => False) w w' := by
  obtain ⟨F, h1, h2⟩ := h; exact rewrites_site b s F w h1
theorem hits_own {P : Nat → Prop} {b : Nat} {s : SS} {w : World} (h : Own P w b s) : Calls Try.prog 20 #[.pointer (some ⟨b, 0, none⟩)] w fun e w' => e = .returned (.int .i64 s.hits) ∧ Kp (fun _ => False) w w' := by
  obtain ⟨F, h1, h2⟩ := h; exact hits_site b s F w h1
theorem deopts_own {P : Nat → Prop} {b : Nat} {s : SS} {w : World} (h : Own P w b s) : Calls Try.prog 18 #[.pointer (some ⟨b, 0, none⟩)] w fun e w' => e = .returned (.int .i64 s.deopts) ∧ Kp (fun _ => False) w w' := by
  obtain ⟨F, h1, h2⟩ := h; exact deopts_site b s F w h1
theorem len_own {P : Nat → Prop} {b : Nat} {s : SS} {w : World} (h : Own P w b s) : Calls Try.prog 19 #[.pointer (some ⟨b, 0, none⟩)] w fun e w' => e = .returned (.int .i64 s.l.length) ∧ Kp (fun _ => False) w w' := by
  obtain ⟨F, h1, h2⟩ := h; exact len_site b s F w h1
theorem own_tell {P : Nat → Prop} {b : Nat} {s : SS} {w w' : World} (h : Own P w b s) (k : Kp (fun _ => False) w w') : Own P w' b s := h.kp k (fun _ _ _ h => h)
theorem kp_tell {P : Nat → Prop} {w0 w w' : World} (h : Kp P w0 w) (k : Kp (fun _ => False) w w') : Kp P w0 w' := h.trans (k.mono (fun _ _ h => h.elim))
theorem le_of_kp {P S : Nat → Prop} {w w' : World} (h : Kp S w w') (hP : ∀ k, w.heap.size ≤ k → P k) : ∀ k, w'.heap.size ≤ k → P k := fun k hk => hP k (Nat.le_trans h.size hk)

def A0 : SS := SS.new 1 1
def A1 : SS := A0.learn ⟨3, 0, 9⟩
def A2 : SS := A1.learn ⟨3, 0, 9⟩
def A3 : SS := A2.asked 3 9
def A4 : SS := A3.asked 3 8
def A5 : SS := A4.learn ⟨4, 0, 9⟩
set_option maxRecDepth 100000 in
set_option maxHeartbeats 1000000 in
theorem alive_any (w : World) : Calls Try.prog 12 #[] w fun e w' => e = .returned (.bool true) ∧ Below w.heap.size w w' := by
  have hP : ∀ k, w.heap.size ≤ k → w.heap.size ≤ k := fun _ h => h
  go_enter Try.func12, Try.ntmps12
  go_wp2_with fail
  refine (new_own (P := fun k => w.heap.size ≤ k) 1 1 hP).mono ?_
  rintro e w1 ⟨b, rfl, hO, kk⟩
  replace hP := le_of_kp kk hP
  go_wp2_with fail
  refine (learn_own (s := A0) hO ⟨3, 0, 9⟩ hP (by decide)).mono ?_
  rintro e w1 ⟨he, hO', hk'⟩
  obtain rfl : e = .returned (.tuple #[]) := he
  replace hP := le_of_kp hk' hP
  replace kk := kk.trans hk'
  replace hO := hO'
  clear hk' hO'
  go_wp2_with fail
  refine (state_own (s := A1) hO).mono ?_
  rintro e w1 ⟨he, hk'⟩
  obtain rfl : e = .returned (.int .i64 0) := he
  replace hP := le_of_kp hk' hP
  replace kk := kp_tell kk hk'
  replace hO := own_tell hO hk'
  clear hk'
  go_wp2_with fail
  refine (learn_own (s := A1) hO ⟨3, 0, 9⟩ hP (by decide)).mono ?_
  rintro e w1 ⟨he, hO', hk'⟩
  obtain rfl : e = .returned (.tuple #[]) := he
  replace hP := le_of_kp hk' hP
  replace kk := kk.trans hk'
  replace hO := hO'
  clear hk' hO'
  go_wp2_with fail
  refine (ask_own (s := A2) hO 3 9 (by decide)).mono ?_
  rintro e w1 ⟨he, hO', hk'⟩
  obtain rfl : e = .returned (.tuple #[.int .i64 0, .bool true]) := he
  replace hP := le_of_kp hk' hP
  replace kk := kk.trans hk'
  replace hO := hO'
  clear hk' hO'
  go_wp2_with fail
  refine (ask_own (s := A3) hO 3 8 (by decide)).mono ?_
  rintro e w1 ⟨he, hO', hk'⟩
  obtain rfl : e = .returned (.tuple #[.int .i64 0, .bool false]) := he
  replace hP := le_of_kp hk' hP
  replace kk := kk.trans hk'
  replace hO := hO'
  clear hk' hO'
  go_wp2_with fail
  refine (state_own (s := A4) hO).mono ?_
  rintro e w1 ⟨he, hk'⟩
  obtain rfl : e = .returned (.int .i64 1) := he
  replace hP := le_of_kp hk' hP
  replace kk := kp_tell kk hk'
  replace hO := own_tell hO hk'
  clear hk'
  go_wp2_with fail
  refine (learn_own (s := A4) hO ⟨4, 0, 9⟩ hP (by decide)).mono ?_
  rintro e w1 ⟨he, hO', hk'⟩
  obtain rfl : e = .returned (.tuple #[]) := he
  replace hP := le_of_kp hk' hP
  replace kk := kk.trans hk'
  replace hO := hO'
  clear hk' hO'
  go_wp2_with fail
  refine (learn_nil ⟨1, 1, 1⟩ _).mono ?_
  rintro e w' ⟨rfl, rfl⟩
  go_wp2_with fail
  refine (state_own (s := A5) hO).mono ?_
  rintro e w1 ⟨he, hk'⟩
  obtain rfl : e = .returned (.int .i64 0) := he
  replace hP := le_of_kp hk' hP
  replace kk := kp_tell kk hk'
  replace hO := own_tell hO hk'
  clear hk'
  go_wp2_with fail
  refine (deopts_own (s := A5) hO).mono ?_
  rintro e w1 ⟨he, hk'⟩
  obtain rfl : e = .returned (.int .i64 1) := he
  replace hP := le_of_kp hk' hP
  replace kk := kp_tell kk hk'
  replace hO := own_tell hO hk'
  clear hk'
  go_wp2_with fail
  refine (hits_own (s := A5) hO).mono ?_
  rintro e w1 ⟨he, hk'⟩
  obtain rfl : e = .returned (.int .i64 1) := he
  replace hP := le_of_kp hk' hP
  replace kk := kp_tell kk hk'
  replace hO := own_tell hO hk'
  clear hk'
  go_wp2_with fail
  refine (len_nil _).mono ?_
  rintro e w' ⟨rfl, hk'⟩
  have kk' := kp_tell kk hk'
  clear hk' hO kk hP
  go_wp2
  go_returns
  exact ⟨rfl, kk'.below (Nat.le_refl _) (fun _ h => by omega)⟩
end Go.Proofs.Ytcdofhfneiednaa
