/- The walks of package meter: Line and Lines. -/
import Derived.Test.YtmngeljbcnifgaaMtD
import Derived.Test.YtmngeljbcnifgaaAp
import Derived.Deep.RegionHeld3
import Derived.Test.YtmngeljbcnifgaaRg
import Derived.Deep.AppendLies
namespace Go.Proofs.Ytmngeljbcnifgaa
set_option linter.unusedSimpArgs false
set_option linter.unusedVariables false
open Go.RowKit

/-- The lines that a slice value holds. -/
def LAt (w : World) (v : Value) (ls : List ByteArray) : Prop := w.ownsRow 0 9 1 v ls.length (ls.map Value.string)
theorem LAt.kp {S : Nat → Prop} {w w' : World} {v : Value} {ls : List ByteArray} (h : LAt w v ls) (k : Kp S w w') (hn : ∀ g, v.ownBlock = some g → ¬ S g) : LAt w' v ls := by
  refine ⟨h.1, ?_⟩
  rcases h.2 with h2 | ⟨g, cap, cur, rfl, h0, hh, r⟩
  · exact Or.inl h2
  · exact Or.inr ⟨g, cap, cur, rfl, h0, by rw [k.block g (lt_of_block hh) (hn g rfl)]; exact hh, r⟩
theorem LAt.ne {w : World} {v : Value} {ls : List ByteArray} (h : LAt w v ls) {b : Nat} {t : TypeId} {cs : Array Value} (hb : Blk w b t cs) (ht : t ≠ 9) : v.ownBlock ≠ some b := by
  rcases h.2 with ⟨rfl, _⟩ | ⟨g, cap, cur, rfl, h0, hh, r⟩
  · simp [Value.ownBlock]
  · intro e
    simp [Value.ownBlock] at e
    subst e
    unfold Blk at hb
    rw [hh] at hb
    simp at hb
    exact ht hb.2.symm

def MS.line (m : MS) (n : Int) (v : Value) : MS := if m.st = 0 then (if m.o < n + 1 then { m with st := 5 } else { m with o := m.o - (n + 1), ln := v }) else m
def MS.says (m : MS) (n : Int) : Bool := decide (m.st = 0 ∧ ¬ m.o < n + 1)
theorem ok_line {m : MS} (n : Int) (v : Value) (hn : 0 ≤ n) (h : MOk m) : MOk (m.line n v) := by
  have := h.f0; have := h.f1; have := h.f2; have := h.d0; have := h.d1; have := h.d2; have := h.c0; have := h.c2; have := h.s0; have := h.s2; have := h.o0; have := h.o1; have := h.o2; have := h.l1
  unfold MS.line
  split
  · split
    · constructor <;> simp <;> omega
    · constructor <;> simp <;> omega
  · exact h

theorem Try.info9 : (Try.prog.info? 9).map (fun i => (i.zero, i.size, i.bytes)) = some (some (.string ByteArray.empty), 1, 16) := by kernel_rfl

/-- What Line answers and leaves. -/
def Lined (b : Nat) (m : MS) (ls : List ByteArray) (s : ByteArray) (w : World) (e : Ending) (w' : World) : Prop :=
  ∃ v, e = .returned (.int .i64 (m.line s.size v).st) ∧ MAt w' b (m.line s.size v) ∧ LAt w' (m.line s.size v).ln (if m.says s.size then ls ++ [s] else ls) ∧
    Kp (fun k => k = b ∨ m.ln.ownBlock = some k) w w' ∧ SameOrNew w m.ln (m.line s.size v).ln

theorem lined_of_counts {b : Nat} {m m' : MS} {ls : List ByteArray} {s : ByteArray} {w : World} (hm : ∀ v, m.line s.size v = m') (hy : m.says s.size = false) (hln : m'.ln = m.ln) (hl : LAt w m.ln ls) (hne : m.ln.ownBlock ≠ some b) :
    ∀ e w', Counts b m' w e w' → Lined b m ls s w e w' := by
  rintro e w' ⟨rfl, hb, k⟩
  refine ⟨.bool false, ?_, ?_, ?_, ?_, ?_⟩
  · rw [hm]
  · rw [hm]; exact hb
  · rw [hm, hy, hln]; exact hl.kp k (fun g hg e => hne (e ▸ hg))
  · exact k.mono (fun _ _ h => .inl h)
  · rw [hm, hln]; exact .inl rfl
def Lined2 (b : Nat) (m : MS) (ls : List ByteArray) (s : ByteArray) (w : World) (e : Ending) (w' : World) : Prop :=
  ∃ v, e = .returned (.int .i64 0) ∧ MAt w' b { m with o := m.o - (s.size + 1), ln := v } ∧ LAt w' v (ls ++ [s]) ∧ Kp (fun k => k = b ∨ m.ln.ownBlock = some k) w w' ∧ SameOrNew w m.ln v
theorem lined_of_2 {b : Nat} {m : MS} {ls : List ByteArray} {s : ByteArray} {w : World} (hs : m.st = 0) (hm : ∀ v, m.line s.size v = { m with o := m.o - (s.size + 1), ln := v }) (hy : m.says s.size = true) :
    ∀ e w', Lined2 b m ls s w e w' → Lined b m ls s w e w' := by
  rintro e w' ⟨v, rfl, hb, h1, h2, h3⟩
  refine ⟨v, ?_, ?_, ?_, h2, ?_⟩
  · rw [hm]; exact ret_int hs.symm
  · rw [hm]; exact hb
  · rw [hm, hy]; exact h1
  · rw [hm]; exact h3

set_option maxRecDepth 100000 in
set_option maxHeartbeats 1000000 in
theorem line_any (b : Nat) (m : MS) (ls : List ByteArray) (s : ByteArray) (w : World) (h : MAt w b m) (ok : MOk m) (hl : LAt w m.ln ls) (hs2 : s.size ≤ 140737488351232) (hll : ls.length ≤ 1000000) :
    Calls Try.prog 33 #[.pointer (some ⟨b, 0, none⟩), .string s] w (Lined b m ls s w) := by
  have hmf : ∀ (fn : Fn) (first cap : Array Value) (w : World), (Instr.makeFunc fn first cap).run Try.prog w = .ok (.func fn first cap) w := fun _ _ _ _ => rfl
  obtain ⟨i0, hi, hz0, hz1, hz2⟩ := info_parts Try.info9
  have hb := h.lt
  have hb1 : b < w.heap.size + 1 := by omega
  have hb2 : b < w.heap.size + 1 + 1 := by omega
  have h0 := h.cell 4 (.int .i64 m.o) rfl
  have h10 := h.cell 10 (.int .i64 m.st) rfl
  have h11 := h.cell 11 m.ln rfl
  have fr := h.free
  have p0 := ok.o0
  have p1 := ok.o1
  have p2 := ok.o2
  have H := Lib.hid h
  have hne := hl.ne h (by decide)
  clear h
  by_cases hs : m.st = 0
  · by_cases hf : m.o < s.size + 1
    · refine Calls.mono (R := Counts b { m with st := 5 } w) ?_ (lined_of_counts (by intro v; simp [MS.line, hs, hf]) (by simp [MS.says, hf]) rfl hl hne)
      rw [hs] at h10; clear hs
      go_enter Try.func33, Try.ntmps33
      go_wp2
      refine wp_region_still_tail 8 (by kernel_rfl) (by kernel_rfl) ?_
      simp only [List.take_succ_cons, List.take_zero, List.drop_succ_cons, List.drop_zero]
      change wpStill _ _ (World.drew _) _ _ _
      repeat still_step
      refine wpStill_nil ?_
      change wpList _ _ _ _ _ (World.drew _)
      go_wp2
      go_returns
      exact ⟨rfl, (((H.out.set 10 _).alloc _).alloc _).drew, by (repeat (first | exact Kp.refl _ _ | assumption | refine Kp.drew ?_ | refine Kp.drewN ?_ _ | refine Kp.alloc ?_ _ | refine Kp.setCell ?_ ?_ _ | (left; rfl) | (right; simp; done) | (right; simp; omega) | go_size))⟩
    · refine Calls.mono (R := Lined2 b m ls s w) ?_ (lined_of_2 hs (by intro v; simp [MS.line, hs, hf]) (by simp [MS.says, hs]; omega))
      rw [hs] at h10
      have HS := Lib.hid hs; clear hs
      have HL := Lib.hid hl; clear hl
      go_enter Try.func33, Try.ntmps33
      go_wp2
      refine wp_region_still_tail 8 (by kernel_rfl) (by kernel_rfl) ?_
      simp only [List.take_succ_cons, List.take_zero, List.drop_succ_cons, List.drop_zero]
      change wpStill _ _ (World.drew _) _ _ _
      repeat still_step
      refine wpStill_nil ?_
      change wpList _ _ _ _ _ (World.drew _)
      go_wp2
      obtain ⟨wa, hwa⟩ : ∃ wa, wa = (((w.setCell ⟨b, 4, none⟩ (.int .i64 (m.o - (s.size + 1)))).alloc (.cells #[.pointer (some ⟨b, 0, none⟩)] 27)).alloc (.cells #[.string s] 9)).drew := ⟨_, rfl⟩
      have HB : Blk wa b 56 ({ m with o := m.o - (s.size + 1) } : MS).cells := by rw [hwa]; exact (((H.out.set 4 _).alloc _).alloc _).drew
      have HP : Blk wa w.heap.size 27 #[.pointer (some ⟨b, 0, none⟩)] := by rw [hwa]; exact ((Blk.new (by simp)).alloc _).drew
      have HS2 : Blk wa (w.heap.size + 1) 9 #[.string s] := by rw [hwa]; exact (Blk.new (by simp)).drew
      have hka : Kp (· = b) w wa := by rw [hwa]; exact (by (repeat (first | exact Kp.refl _ _ | assumption | refine Kp.drew ?_ | refine Kp.drewN ?_ _ | refine Kp.alloc ?_ _ | refine Kp.setCell ?_ ?_ _ | (left; rfl) | (right; simp; done) | (right; simp; omega) | go_size)))
      have hsz : wa.heap.size = w.heap.size + 1 + 1 := by rw [hwa]; simp
      rw [← hwa]
      clear hwa h0 h10 h11 fr
      have HLa := HL.out.kp hka (fun g hg e => hne (e ▸ hg))
      have nP : m.ln.ownBlock ≠ some w.heap.size := HLa.ne HP (by decide)
      have nS : m.ln.ownBlock ≠ some (w.heap.size + 1) := fun e => by have := (HL.out.lt _ e).2; omega
      have h10 := HB.cell 10 (.int .i64 m.st) rfl
      rw [HS.out] at h10
      have h11 := HB.cell 11 m.ln rfl
      have hP := HP.cell 0 _ rfl
      have hS2 := HS2.cell 0 _ rfl
      have fr := HB.free
      have lP := HP.lt
      have lS := HS2.lt
      have lB := HB.lt
      have hHB := Lib.hid HB; clear HB
      have hHLa := Lib.hid HLa; clear HLa
      clear HP HS2 HL H hsz
      refine wp_region_K (S := fun w' => w'.cell? ⟨w.heap.size, 0, none⟩ = some (.pointer (some ⟨b, 0, none⟩)) ∧ w'.cell? ⟨w.heap.size + 1, 0, none⟩ = some (.string s) ∧ w'.cell? ⟨b, 11, none⟩ = some m.ln) (K := 8) (by kernel_rfl) ?_
      have hHeld : (fun w' => w'.cell? ⟨w.heap.size, 0, none⟩ = some (.pointer (some ⟨b, 0, none⟩)) ∧ w'.cell? ⟨w.heap.size + 1, 0, none⟩ = some (.string s) ∧ w'.cell? ⟨b, 11, none⟩ = some m.ln) (World.drew _) := ⟨hP, hS2, h11⟩
      refine wpK_take (i := 0) (v := ?_) rfl (by kernel_rfl) (fun _ _ _ h => h) (Or.inl ⟨by rfl, ?_⟩) hHeld ?_
      rotate_left
      · intro w hSw; (try dsimp only at hSw); go_simp; (try with_reducible rfl)
      simp only [Act.put, List.setIfInBounds_toArray, List.set_cons_zero, List.set_cons_succ]
      refine wpK_take (i := 1) (v := ?_) rfl (by kernel_rfl) (fun _ _ _ h => h) (Or.inl ⟨by rfl, ?_⟩) hHeld ?_
      rotate_left
      · intro w hSw; (try dsimp only at hSw); go_simp; (try with_reducible rfl)
      simp only [Act.put, List.setIfInBounds_toArray, List.set_cons_zero, List.set_cons_succ]
      refine wpK_take (i := 2) (v := ?_) rfl (by kernel_rfl) (fun _ _ _ h => h) (Or.inl ⟨by rfl, ?_⟩) hHeld ?_
      rotate_left
      · intro w hSw; (try dsimp only at hSw); go_simp; (try with_reducible rfl)
      simp only [Act.put, List.setIfInBounds_toArray, List.set_cons_zero, List.set_cons_succ]
      refine wpK_take (i := 3) (v := ?_) rfl (by kernel_rfl) (fun _ _ _ h => h) (Or.inl ⟨by rfl, ?_⟩) hHeld ?_
      rotate_left
      · intro w hSw; (try dsimp only at hSw); go_simp; (try with_reducible rfl)
      simp only [Act.put, List.setIfInBounds_toArray, List.set_cons_zero, List.set_cons_succ]
      refine wpK_take (i := 4) (v := ?_) rfl (by kernel_rfl) (fun _ _ _ h => h) (Or.inl ⟨by rfl, ?_⟩) hHeld ?_
      rotate_left
      · intro w hSw; (try dsimp only at hSw); go_simp; (try with_reducible rfl)
      simp only [Act.put, List.setIfInBounds_toArray, List.set_cons_zero, List.set_cons_succ]
      refine wpK_take (i := 5) (v := ?_) rfl (by kernel_rfl) (fun _ _ _ h => h) (Or.inl ⟨by rfl, ?_⟩) hHeld ?_
      rotate_left
      · intro w hSw; (try dsimp only at hSw); go_simp; (try with_reducible rfl)
      simp only [Act.put, List.setIfInBounds_toArray, List.set_cons_zero, List.set_cons_succ]
      refine wpK_one (i := 6) (by kernel_rfl) rfl (fun K' hK => ?_)
      go_simp
      refine hK.out _ _ (fun _ => by first | exact hHeld | go_keep) (fun hHeld' => ?_)
      have hHeld := hHeld' (by decide)
      clear hHeld'
      clear hK K'
      refine wpK_one (i := 7) (by kernel_rfl) rfl (fun K' hK => ?_)
      refine step_append_lies _ (by rfl) _ _ _ (by rfl) 0 9 i0 _ 1 16 Try.underlying45 hi hz0 hz1 hz2 rfl (by omega) m.ln ls.length (ls.map Value.string) (by rfl) ((hHLa.out.alloc _).drew) ⟨wa.heap.size, 0, none⟩ 1 1 [.string s] (by rfl) (by rfl) (World.news_of_block (cs := #[.string s]) (t := 9) (fr := (0, 0)) (heap_alloc_new wa _)) (by simp [Value.oneCell']) (by omega) (by unfold maxLen; omega) (by omega) (by omega) (wa.heap.size + 1) (by simp) ?_
      intro g cap w1 hown hgrow hat hlt
      refine hK.out _ _ (fun _ => ⟨(hgrow.cell_far _ (by simp; omega) (Ne.symm nP)).trans hHeld.1, (hgrow.cell_far _ (by simp; omega) (Ne.symm nS)).trans hHeld.2.1, (hgrow.cell_far _ (by simp; omega) (Ne.symm hne)).trans hHeld.2.2⟩) (fun hHeld' => ?_)
      have hHeld := hHeld' (by decide)
      clear hHeld' hK K'
      have HB1 : Blk w1 b 56 ({ m with o := m.o - (s.size + 1) } : MS).cells := Blk.grown ((hHB.out.alloc _).drew) hgrow hne
      have g10 := HB1.cell 10 (.int .i64 m.st) rfl
      rw [HS.out] at g10
      have g11 := HB1.cell 11 m.ln rfl
      have gfr := HB1.free
      have hHB1 := Lib.hid HB1; clear HB1 h10 h11 fr hHB
      refine wpK_one (i := 8) (by kernel_rfl) rfl (fun K' hK => ?_)
      go_simp
      refine hK.out _ _ (fun h => absurd h (by decide)) (fun _ => ?_)
      clear hK K'
      refine wpK_one (i := 9) (by kernel_rfl) rfl (fun K' hK => ?_)
      go_simp
      refine hK.out _ _ (fun h => absurd h (by decide)) (fun _ => ?_)
      clear hK K'
      refine wpK_one (i := 10) (by kernel_rfl) rfl (fun K' hK => ?_)
      go_simp
      refine hK.out _ _ (fun h => absurd h (by decide)) (fun _ => ?_)
      clear hK K'
      refine wpK_done (by kernel_rfl) ?_ _
      go_wp2
      go_returns
      have hsn : SameOrNew w m.ln (.slice (some ⟨g, 0, none⟩) (ls.length + 1) cap) := by
        rcases hat with h | h
        · exact .inl h.symm
        · exact .inr fun g' hg' => by simp [Value.ownBlock] at hg'; omega
      have hlt2 : ∀ g', (Value.slice (some ⟨g, 0, none⟩) (ls.length + 1) cap).ownBlock = some g' → g' ≠ b := by
        intro g' hg' e
        rcases hsn with h | h
        · exact hne (by rw [← h, hg', e])
        · have := h g' hg'; omega
      exact ⟨.slice (some ⟨g, 0, none⟩) (ls.length + 1) cap, rfl, hHB1.out.set 11 _, (show LAt w1 _ (ls ++ [s]) from by unfold LAt; simpa using hown).kp (S := (· = b)) (by (repeat (first | exact Kp.refl _ _ | assumption | refine Kp.drew ?_ | refine Kp.drewN ?_ _ | refine Kp.alloc ?_ _ | refine Kp.setCell ?_ ?_ _ | (left; rfl) | (right; simp; done) | (right; simp; omega) | go_size))) (fun g' hg' e => hlt2 g' hg' e),
        (((hka.mono (S' := fun k => k = b ∨ m.ln.ownBlock = some k) (fun _ _ h => .inl h)).alloc _).drew.grown hgrow (fun k e => .inl (.inr e))).setCell (.inl (.inl rfl)) _, hsn⟩
  · refine Calls.mono (R := Counts b m w) ?_ (lined_of_counts (by intro v; simp [MS.line, hs]) (by simp [MS.says, hs]) rfl hl hne)
    have hs' : (m.st == 0) = false := by simpa using hs
    clear hs
    go_enter Try.func33, Try.ntmps33
    go_wp2
    refine wp_region_still_tail 8 (by kernel_rfl) (by kernel_rfl) ?_
    simp only [List.take_succ_cons, List.take_zero, List.drop_succ_cons, List.drop_zero]
    change wpStill _ _ (World.drew _) _ _ _
    repeat still_step
    refine wpStill_nil ?_
    change wpList _ _ _ _ _ (World.drew _)
    go_wp2
    go_returns
    exact ⟨rfl, ((H.out.alloc _).alloc _).drew, by (repeat (first | exact Kp.refl _ _ | assumption | refine Kp.drew ?_ | refine Kp.drewN ?_ _ | refine Kp.alloc ?_ _ | refine Kp.setCell ?_ ?_ _ | (left; rfl) | (right; simp; done) | (right; simp; omega) | go_size))⟩
end Go.Proofs.Ytmngeljbcnifgaa
