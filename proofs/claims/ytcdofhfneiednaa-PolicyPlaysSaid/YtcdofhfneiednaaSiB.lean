/- The walks of package site: the tellers, New, forget, deopt, Flush, Deopt, Ask. -/
import Derived.Test.YtcdofhfneiednaaSiA
namespace Go.Proofs.Ytcdofhfneiednaa
set_option linter.unusedSimpArgs false
set_option linter.unusedVariables false
open Go.RowKit

set_option maxRecDepth 100000 in
theorem rewrites_any (b : Nat) (s : SS) (v : Value) (w : World) (h : SAt w b s v) : Calls Try.prog 15 #[.pointer (some ⟨b, 0, none⟩)] w fun e w' => e = .returned (.int .i64 s.rw) ∧ Kp (fun _ => False) w w' := by
  have hmf : ∀ (fn : Fn) (first cap : Array Value) (w : World), (Instr.makeFunc fn first cap).run Try.prog w = .ok (.func fn first cap) w := fun _ _ _ _ => rfl
  have hb := h.lt
  have h3 := h.cell 5 (.int .i64 s.rw) rfl
  clear h
  go_enter Try.func15, Try.ntmps15
  go_wp2
  go_returns
  exact ⟨rfl, by (repeat (first | (with_reducible exact Kp.refl _ _) | (with_reducible assumption) | (with_reducible refine Kp.drew ?_) | (with_reducible refine Kp.drewN ?_ _) | (with_reducible refine Kp.alloc ?_ _) | (with_reducible refine Kp.setCell ?_ ?_ _) | (left; rfl) | (left; left; rfl) | (right; simp; done) | (right; simp; omega) | go_size))⟩

set_option maxRecDepth 100000 in
theorem hits_any (b : Nat) (s : SS) (v : Value) (w : World) (h : SAt w b s v) : Calls Try.prog 20 #[.pointer (some ⟨b, 0, none⟩)] w fun e w' => e = .returned (.int .i64 s.hits) ∧ Kp (fun _ => False) w w' := by
  have hmf : ∀ (fn : Fn) (first cap : Array Value) (w : World), (Instr.makeFunc fn first cap).run Try.prog w = .ok (.func fn first cap) w := fun _ _ _ _ => rfl
  have hb := h.lt
  have h3 := h.cell 6 (.int .i64 s.hits) rfl
  clear h
  go_enter Try.func20, Try.ntmps20
  go_wp2
  go_returns
  exact ⟨rfl, by (repeat (first | (with_reducible exact Kp.refl _ _) | (with_reducible assumption) | (with_reducible refine Kp.drew ?_) | (with_reducible refine Kp.drewN ?_ _) | (with_reducible refine Kp.alloc ?_ _) | (with_reducible refine Kp.setCell ?_ ?_ _) | (left; rfl) | (left; left; rfl) | (right; simp; done) | (right; simp; omega) | go_size))⟩

set_option maxRecDepth 100000 in
theorem deopts_any (b : Nat) (s : SS) (v : Value) (w : World) (h : SAt w b s v) : Calls Try.prog 18 #[.pointer (some ⟨b, 0, none⟩)] w fun e w' => e = .returned (.int .i64 s.deopts) ∧ Kp (fun _ => False) w w' := by
  have hmf : ∀ (fn : Fn) (first cap : Array Value) (w : World), (Instr.makeFunc fn first cap).run Try.prog w = .ok (.func fn first cap) w := fun _ _ _ _ => rfl
  have hb := h.lt
  have h3 := h.cell 7 (.int .i64 s.deopts) rfl
  clear h
  go_enter Try.func18, Try.ntmps18
  go_wp2
  go_returns
  exact ⟨rfl, by (repeat (first | (with_reducible exact Kp.refl _ _) | (with_reducible assumption) | (with_reducible refine Kp.drew ?_) | (with_reducible refine Kp.drewN ?_ _) | (with_reducible refine Kp.alloc ?_ _) | (with_reducible refine Kp.setCell ?_ ?_ _) | (left; rfl) | (left; left; rfl) | (right; simp; done) | (right; simp; omega) | go_size))⟩

theorem EAt.form {w : World} {v : Value} {l : List Ent} (h : EAt w v l) : ∃ ao cap, v = .slice ao l.length cap := by
  rcases h.2 with ⟨rfl, h0⟩ | ⟨g, cap, cur, rfl, _⟩
  · exact ⟨none, 0, by rw [h0]⟩
  · exact ⟨_, _, rfl⟩
set_option maxRecDepth 100000 in
theorem len_any (b : Nat) (s : SS) (v : Value) (w : World) (h : SAt w b s v) (hl : EAt w v s.l) : Calls Try.prog 19 #[.pointer (some ⟨b, 0, none⟩)] w fun e w' => e = .returned (.int .i64 s.l.length) ∧ Kp (fun _ => False) w w' := by
  have hmf : ∀ (fn : Fn) (first cap : Array Value) (w : World), (Instr.makeFunc fn first cap).run Try.prog w = .ok (.func fn first cap) w := fun _ _ _ _ => rfl
  have hb := h.lt
  obtain ⟨ao, cap, rfl⟩ := hl.form
  have h3 := h.cell 4 (.slice ao s.l.length cap) rfl
  clear h hl
  go_enter Try.func19, Try.ntmps19
  go_wp2
  go_returns
  exact ⟨rfl, by (repeat (first | (with_reducible exact Kp.refl _ _) | (with_reducible assumption) | (with_reducible refine Kp.drew ?_) | (with_reducible refine Kp.drewN ?_ _) | (with_reducible refine Kp.alloc ?_ _) | (with_reducible refine Kp.setCell ?_ ?_ _) | (left; rfl) | (left; left; rfl) | (right; simp; done) | (right; simp; omega) | go_size))⟩
set_option maxRecDepth 100000 in
theorem len_nil (w : World) : Calls Try.prog 19 #[.pointer none] w fun e w' => e = .returned (.int .i64 0) ∧ Kp (fun _ => False) w w' := by
  have hmf : ∀ (fn : Fn) (first cap : Array Value) (w : World), (Instr.makeFunc fn first cap).run Try.prog w = .ok (.func fn first cap) w := fun _ _ _ _ => rfl
  go_enter Try.func19, Try.ntmps19
  go_wp2
  go_returns
  exact ⟨rfl, by (repeat (first | (with_reducible exact Kp.refl _ _) | (with_reducible assumption) | (with_reducible refine Kp.drew ?_) | (with_reducible refine Kp.drewN ?_ _) | (with_reducible refine Kp.alloc ?_ _) | (with_reducible refine Kp.setCell ?_ ?_ _) | (left; rfl) | (left; left; rfl) | (right; simp; done) | (right; simp; omega) | go_size))⟩

def clamp (hi n : Int) : Int := min (max n 0) hi
def SS.new (ways warm : Int) : SS := ⟨clamp 8 ways, clamp 255 warm, 0, 0, 0, 0, 0, []⟩
theorem SAt.of {w : World} {b : Nat} {s : SS} {v : Value} {cs : Array Value} (h : Blk w b 89 cs) (e : cs = s.cells v) : SAt w b s v := by subst e; exact h
set_option maxRecDepth 100000 in
set_option maxHeartbeats 400000 in
theorem new_any (ways warm : Int) (w : World) :
    Calls Try.prog 13 #[.int .i64 ways, .int .i64 warm] w fun e w' => ∃ b, e = .returned (.pointer (some ⟨b, 0, none⟩)) ∧ w.heap.size ≤ b ∧ SAt w' b (SS.new ways warm) (.slice none 0 0) ∧ Below w.heap.size w w' := by
  have key : ∀ x y : Int, x = clamp 8 ways → y = clamp 255 warm → SAt (w.alloc (.cells #[.int .i64 x, .int .i64 y, .int .i64 0, .int .i64 0, .slice none 0 0, .int .i64 0, .int .i64 0, .int .i64 0] 89)) w.heap.size (SS.new ways warm) (.slice none 0 0) := by
    intro x y hx hy; subst hx; subst hy; exact Blk.new rfl
  go_enter Try.func13, Try.ntmps13
  go_wp2
  all_goals go_returns
  all_goals refine ⟨_, rfl, Nat.le_refl _, key _ _ ?_ ?_, by go_grown⟩
  all_goals (unfold clamp; omega)

def SS.forget (s : SS) : SS := { s with state := 0, count := 0, l := [] }
def SS.deopt (s : SS) : SS := if s.deopts + 1 = 4 then { s with state := 2, count := 0, l := [], deopts := s.deopts + 1 } else { s with state := 0, count := 0, l := [], deopts := s.deopts + 1 }
def SS.flush (s : SS) : SS := if s.state = 2 then s else s.forget
def SS.dep (s : SS) : SS := if s.state = 2 then s else s.deopt

/-- What a change of a site leaves. -/
def Sited (b : Nat) (s' : SS) (v : Value) (w : World) (e : Ending) (w' : World) : Prop :=
  ∃ v', e = .returned (.tuple #[]) ∧ SAt w' b s' v' ∧ EAt w' v' s'.l ∧ Kp (fun k => k = b ∨ v.ownBlock = some k) w w' ∧ SameOrNew w v v'
theorem eat_nil (w : World) : EAt w (.slice none 0 0) [] := World.ownsRow_nil _ _ _ _
theorem sn_nil (w : World) (v : Value) : SameOrNew w v (.slice none 0 0) := .inr fun g hg => by cases hg

set_option maxRecDepth 100000 in
theorem forget_any (b : Nat) (s : SS) (v : Value) (w : World) (h : SAt w b s v) :
    Calls Try.prog 62 #[.pointer (some ⟨b, 0, none⟩)] w (Sited b s.forget v w) := by
  have hb := h.lt
  have fr := h.free
  have h2 := h.cell 2 (.int .i64 s.count) rfl
  have h3 := h.cell 3 (.int .i64 s.state) rfl
  have h4 := h.cell 4 v rfl
  have H := Lib.hid h; clear h
  go_enter Try.func62, Try.ntmps62
  go_wp2
  go_returns
  exact ⟨.slice none 0 0, rfl, ((Blk.set H.out 3 _).set 2 _).set 4 _, eat_nil _, by (repeat (first | (with_reducible exact Kp.refl _ _) | (with_reducible assumption) | (with_reducible refine Kp.drew ?_) | (with_reducible refine Kp.drewN ?_ _) | (with_reducible refine Kp.alloc ?_ _) | (with_reducible refine Kp.setCell ?_ ?_ _) | (left; rfl) | (left; left; rfl) | (right; simp; done) | (right; simp; omega) | go_size)), sn_nil _ _⟩

/-- The numbers of a site lie where they belong. -/
structure SOk (s : SS) : Prop where
  ways : 0 ≤ s.ways ∧ s.ways ≤ 8
  warm : 0 ≤ s.warm ∧ s.warm ≤ 255
  count : 0 ≤ s.count ∧ s.count ≤ 256
  st : s.state = 0 ∨ s.state = 1 ∨ s.state = 2
  rw : 0 ≤ s.rw ∧ s.rw ≤ 1000000000000
  hits : 0 ≤ s.hits ∧ s.hits ≤ 1000000000000
  deopts : 0 ≤ s.deopts ∧ s.deopts ≤ 4
  len : (s.l.length : Int) ≤ s.ways
  one : s.state = 1 ↔ s.l ≠ []
  two : s.state = 2 ↔ s.deopts = 4
  cold : s.state = 0 → s.count ≤ s.warm
  nodup : (s.l.map Ent.sh).Nodup

set_option maxRecDepth 100000 in
set_option maxHeartbeats 400000 in
theorem deopt_any (b : Nat) (s : SS) (v : Value) (w : World) (h : SAt w b s v) (hd : 0 ≤ s.deopts ∧ s.deopts ≤ 4) :
    Calls Try.prog 44 #[.pointer (some ⟨b, 0, none⟩)] w (Sited b s.deopt v w) := by
  have hb := h.lt
  have fr := h.free
  have h2 := h.cell 2 (.int .i64 s.count) rfl
  have h3 := h.cell 3 (.int .i64 s.state) rfl
  have h4 := h.cell 4 v rfl
  have h7 := h.cell 7 (.int .i64 s.deopts) rfl
  obtain ⟨hd0, hd1⟩ := hd
  have H := Lib.hid h; clear h
  by_cases e : s.deopts + 1 = 4
  · have hm : s.deopt = { s with state := 2, count := 0, l := [], deopts := 4 } := by unfold SS.deopt; rw [if_pos e, e]
    rw [hm]; clear hm
    go_enter Try.func44, Try.ntmps44
    go_wp2
    go_returns
    exact ⟨.slice none 0 0, rfl, SAt.of (((((Blk.set H.out 3 _).set 2 _).set 4 _).set 7 _).set 3 _) rfl, eat_nil _, by (repeat (first | (with_reducible exact Kp.refl _ _) | (with_reducible assumption) | (with_reducible refine Kp.drew ?_) | (with_reducible refine Kp.drewN ?_ _) | (with_reducible refine Kp.alloc ?_ _) | (with_reducible refine Kp.setCell ?_ ?_ _) | (left; rfl) | (left; left; rfl) | (right; simp; done) | (right; simp; omega) | go_size)), sn_nil _ _⟩
  · have hm : s.deopt = { s with state := 0, count := 0, l := [], deopts := s.deopts + 1 } := by unfold SS.deopt; rw [if_neg e]
    rw [hm]; clear hm
    have e2 : (s.deopts + 1 == 4) = false := by simpa using e
    go_enter Try.func44, Try.ntmps44
    go_wp2
    go_returns
    exact ⟨.slice none 0 0, rfl, SAt.of ((((Blk.set H.out 3 _).set 2 _).set 4 _).set 7 _) rfl, eat_nil _, by (repeat (first | (with_reducible exact Kp.refl _ _) | (with_reducible assumption) | (with_reducible refine Kp.drew ?_) | (with_reducible refine Kp.drewN ?_ _) | (with_reducible refine Kp.alloc ?_ _) | (with_reducible refine Kp.setCell ?_ ?_ _) | (left; rfl) | (left; left; rfl) | (right; simp; done) | (right; simp; omega) | go_size)), sn_nil _ _⟩

theorem sited_same {b : Nat} {s : SS} {v : Value} {w w' : World} (h : SAt w b s v) (hl : EAt w v s.l) (k : Kp (fun _ => False) w w') : Sited b s v w (.returned (.tuple #[])) w' :=
  ⟨v, rfl, Blk.kp h k (fun h => h), hl.kp k (fun _ _ h => h), k.mono (fun _ _ h => h.elim), .inl rfl⟩

set_option maxRecDepth 100000 in
set_option maxHeartbeats 400000 in
theorem flush_any (b : Nat) (s : SS) (v : Value) (w : World) (h : SAt w b s v) (hl : EAt w v s.l) :
    Calls Try.prog 50 #[.pointer (some ⟨b, 0, none⟩)] w (Sited b s.flush v w) := by
  have hmf : ∀ (fn : Fn) (first cap : Array Value) (w : World), (Instr.makeFunc fn first cap).run Try.prog w = .ok (.func fn first cap) w := fun _ _ _ _ => rfl
  have hb := h.lt
  have h3 := h.cell 3 (.int .i64 s.state) rfl
  have H := Lib.hid h; clear h
  by_cases e : s.state = 2
  · have hm : s.flush = s := by unfold SS.flush; rw [if_pos e]
    rw [hm]; clear hm
    have e2 : (s.state != 2) = false := by simp [e]
    have HL := Lib.hid hl; clear hl e
    go_enter Try.func50, Try.ntmps50
    go_wp2
    go_returns
    exact sited_same H.out HL.out (by (repeat (first | (with_reducible exact Kp.refl _ _) | (with_reducible assumption) | (with_reducible refine Kp.drew ?_) | (with_reducible refine Kp.drewN ?_ _) | (with_reducible refine Kp.alloc ?_ _) | (with_reducible refine Kp.setCell ?_ ?_ _) | (left; rfl) | (left; left; rfl) | (right; simp; done) | (right; simp; omega) | go_size)))
  · have hm : s.flush = s.forget := by unfold SS.flush; rw [if_neg e]
    rw [hm]; clear hm
    have e2 : (s.state != 2) = true := by simpa using e
    clear hl e
    go_enter Try.func50, Try.ntmps50
    go_wp2_with (first | (go_at_call 65; go_in) | fail)
    refine (forget_any b s v _ H.out).mono ?_
    rintro e w1 ⟨v', rfl, g1, g2, g3, g4⟩
    have hd : Sited b s.forget v w (.returned (.tuple #[])) w1 := ⟨v', rfl, g1, g2, g3, g4⟩
    have HD := Lib.hid hd; clear hd g1 g2 g3 g4
    go_wp2
    go_returns
    exact HD.out

set_option maxRecDepth 100000 in
set_option maxHeartbeats 400000 in
theorem dep_any (b : Nat) (s : SS) (v : Value) (w : World) (h : SAt w b s v) (hl : EAt w v s.l) (hd : 0 ≤ s.deopts ∧ s.deopts ≤ 4) :
    Calls Try.prog 51 #[.pointer (some ⟨b, 0, none⟩)] w (Sited b s.dep v w) := by
  have hmf : ∀ (fn : Fn) (first cap : Array Value) (w : World), (Instr.makeFunc fn first cap).run Try.prog w = .ok (.func fn first cap) w := fun _ _ _ _ => rfl
  have hb := h.lt
  have h3 := h.cell 3 (.int .i64 s.state) rfl
  have H := Lib.hid h; clear h
  by_cases e : s.state = 2
  · have hm : s.dep = s := by unfold SS.dep; rw [if_pos e]
    rw [hm]; clear hm
    have e2 : (s.state != 2) = false := by simp [e]
    have HL := Lib.hid hl; clear hl e
    go_enter Try.func51, Try.ntmps51
    go_wp2
    go_returns
    exact sited_same H.out HL.out (by (repeat (first | (with_reducible exact Kp.refl _ _) | (with_reducible assumption) | (with_reducible refine Kp.drew ?_) | (with_reducible refine Kp.drewN ?_ _) | (with_reducible refine Kp.alloc ?_ _) | (with_reducible refine Kp.setCell ?_ ?_ _) | (left; rfl) | (left; left; rfl) | (right; simp; done) | (right; simp; omega) | go_size)))
  · have hm : s.dep = s.deopt := by unfold SS.dep; rw [if_neg e]
    rw [hm]; clear hm
    have e2 : (s.state != 2) = true := by simpa using e
    clear hl e
    go_enter Try.func51, Try.ntmps51
    go_wp2_with (first | (go_at_call 65; go_in) | fail)
    refine (deopt_any b s v _ H.out hd).mono ?_
    rintro e w1 ⟨v', rfl, g1, g2, g3, g4⟩
    have hd : Sited b s.deopt v w (.returned (.tuple #[])) w1 := ⟨v', rfl, g1, g2, g3, g4⟩
    have HD := Lib.hid hd; clear hd g1 g2 g3 g4
    go_wp2
    go_returns
    exact HD.out

/-- The entry that is known of a shape in an epoch. -/
def SS.look (s : SS) (k ep : Int) : Option Ent := (s.l.find? (fun e => e.sh == k)).filter (fun e => e.ep == ep)
theorem fidx_cases (l : List Ent) (k : Int) : (fidx l k = -1 ∧ l.find? (fun e => e.sh == k) = none) ∨ ∃ i, ∃ h : i < l.length, fidx l k = i ∧ l.find? (fun e => e.sh == k) = some l[i] ∧ l[i].sh = k := by
  unfold fidx
  by_cases h : l.findIdx (fun e => e.sh == k) < l.length
  · right
    refine ⟨_, h, by rw [if_pos h], ?_, ?_⟩
    · have h1 := List.findIdx_getElem (p := fun e : Ent => e.sh == k) (w := h)
      rw [List.find?_eq_some_iff_getElem]
      exact ⟨h1, _, h, rfl, fun j hj => by have := List.not_of_lt_findIdx hj; simpa using this⟩
    · have h1 := List.findIdx_getElem (p := fun e : Ent => e.sh == k) (w := h)
      simpa using h1
  · left
    refine ⟨by rw [if_neg h], ?_⟩
    rw [List.find?_eq_none]
    intro x hx hp
    exact h (List.findIdx_lt_length_of_exists ⟨x, hx, hp⟩)

/-- What Ask answers and leaves. -/
def Asked (b : Nat) (s : SS) (v : Value) (k ep : Int) (w : World) (e : Ending) (w' : World) : Prop :=
  match s.look k ep with
  | some x => e = .returned (.tuple #[.int .i64 x.sl, .bool true]) ∧ SAt w' b { s with hits := s.hits + 1 } v ∧ Kp (fun k => k = b) w w'
  | none => e = .returned (.tuple #[.int .i64 0, .bool false]) ∧ Kp (fun _ => False) w w'

set_option maxRecDepth 100000 in
set_option maxHeartbeats 1000000 in
theorem ask_any (b : Nat) (s : SS) (v : Value) (k ep : Int) (w : World) (h : SAt w b s v) (hl : EAt w v s.l) (ok : SOk s) (hh : s.hits < 1000000000000) :
    Calls Try.prog 14 #[.pointer (some ⟨b, 0, none⟩), .int .i64 k, .int .u64 ep] w (Asked b s v k ep w) := by
  have hlen : s.l.length ≤ 8 := by have := ok.len; have := ok.ways; omega
  have hh0 := ok.hits.1
  unfold Asked SS.look
  rcases fidx_cases s.l k with ⟨h1, h2⟩ | ⟨i, hi, h1, h2, h3⟩
  · rw [h2]
    dsimp only [Option.filter]
    clear h2
    go_enter Try.func14, Try.ntmps14
    go_wp2_with fail
    refine (find_any b s v k _ h hl hlen).mono ?_
    rw [h1]
    rintro e w1 ⟨rfl, hk⟩
    clear h hl h1
    go_wp2
    go_returns
    exact ⟨rfl, Kp.of_below hk⟩
  · rw [h2]
    clear h2
    obtain ⟨g, cap, hv⟩ : ∃ g cap, v = .slice (some ⟨g, 0, none⟩) s.l.length cap := ownsRow_some hl (by omega)
    subst hv
    by_cases he : s.l[i].ep = ep
    · have hd : Option.filter (fun e => e.ep == ep) (some s.l[i]) = some s.l[i] := by simp [Option.filter, he]
      rw [hd]; clear hd
      go_enter Try.func14, Try.ntmps14
      go_wp2_with fail
      refine (find_any b s _ k _ h hl hlen).mono ?_
      rw [h1]
      rintro e w1 ⟨rfl, hk⟩
      have h' : SAt w1 b s _ := Blk.below h hk h.lt
      have hl' := hl.kp (Kp.of_below hk (S := fun _ => False)) (fun _ _ h => h)
      have c4 := h'.cell 4 (.slice (some ⟨g, 0, none⟩) s.l.length cap) rfl
      have c6 := h'.cell 6 (.int .i64 s.hits) rfl
      have fr := h'.free
      obtain ⟨c0, c1, c2⟩ := hl'.cell i hi
      have hgb : ¬ g = b := fun e => hl'.ne h' (by decide) (by rw [← e]; rfl)
      have he2 : (s.l[i].ep == ep) = true := by simpa using he
      have he3 : (s.l[i].ep != ep) = false := by simp [he]
      have HH := Lib.hid h'
      have hi2 : (i : Int) < (s.l.length : Int) := by omega
      clear h hl h1 h3 he h' hl'
      generalize hx : s.l[i] = x at *
      have HX := Lib.hid hx; clear hx
      go_wp2
      go_returns
      exact ⟨by rw [HX.out]; rfl, Blk.set HH.out 6 _, Kp.setCell (S := (· = b)) (p := ⟨b, 6, none⟩) (Kp.of_below hk) (.inl rfl) _⟩
    · have hd : Option.filter (fun e => e.ep == ep) (some s.l[i]) = none := by simp [Option.filter, he]
      rw [hd]; clear hd
      go_enter Try.func14, Try.ntmps14
      go_wp2_with fail
      refine (find_any b s _ k _ h hl hlen).mono ?_
      rw [h1]
      rintro e w1 ⟨rfl, hk⟩
      have h' : SAt w1 b s _ := Blk.below h hk h.lt
      have hl' := hl.kp (Kp.of_below hk (S := fun _ => False)) (fun _ _ h => h)
      have c4 := h'.cell 4 (.slice (some ⟨g, 0, none⟩) s.l.length cap) rfl
      obtain ⟨c0, c1, c2⟩ := hl'.cell i hi
      have he2 : (s.l[i].ep == ep) = false := by simpa using he
      have he3 : (s.l[i].ep != ep) = true := by simpa using he
      have hi2 : (i : Int) < (s.l.length : Int) := by omega
      clear h hl h1 h3 he h' hl'
      generalize s.l[i] = x at *
      go_wp2
      go_returns
      exact ⟨rfl, Kp.of_below hk⟩

/-- Asked of no site. -/
theorem pad_unit : True := trivial
end Go.Proofs.Ytcdofhfneiednaa
