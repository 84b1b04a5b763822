/- The walks of package meter: Lines; of the law: great, lines, do. -/
import Derived.Test.YtmngeljbcnifgaaMtF
import Derived.Lib.SliceRun
namespace Go.Proofs.Ytmngeljbcnifgaa
set_option linter.unusedSimpArgs false
set_option linter.unusedVariables false
open Go.RowKit

set_option maxRecDepth 100000 in
set_option maxHeartbeats 400000 in
theorem clone_any (v : Value) (ls : List ByteArray) (w : World) (hl : LAt w v ls) (hll : ls.length ≤ 1000000) :
    Calls Try.prog 30 #[v] w fun e w' => ∃ v', e = .returned v' ∧ LAt w' v' ls ∧ Below w.heap.size w w' ∧ (∀ g, v'.ownBlock = some g → w.heap.size ≤ g) := by
  obtain ⟨i0, hi, hz0, hz1, hz2⟩ := info_parts Try.info9
  have q45 : ∀ (w : World) (a : Option Addr) (n c n' c' : Nat), (binOp .eql 45 (.slice a n c) (.slice none n' c')).run Try.prog w = .ok (.bool a.isNone) w := fun w a n c n' c' => Lib.run_eql_slice_nil w _ _ a n c n' c' Try.underlying45
  have HL := Lib.hid hl
  rcases hl.2 with ⟨rfl, h0⟩ | ⟨g, cap, cur, rfl, _, hh, r⟩
  · have e0 : ls = [] := List.eq_nil_of_length_eq_zero h0
    subst e0
    clear hl h0 HL
    go_enter Try.func30, Try.ntmps30
    go_wp2
    go_returns
    exact ⟨_, rfl, World.ownsRow_nil _ _ _ _, Below.refl _ _, fun g hg => by cases hg⟩
  · have hcells := hl.cells (g := g) rfl
    have HC := Lib.hid hcells
    have hg := lt_of_block hh
    clear hl hh r hcells
    go_enter Try.func30, Try.ntmps30
    go_wp2_with (at_builtin; refine wpList_append2 _ rfl (.tmp 5) (.tmp 6) 45 rfl 9 i0 (.string ByteArray.empty) 1 16 Try.underlying45 hi hz0 hz1 hz2 rfl (by decide) (.slice (some ⟨w.heap.size, 0, none⟩) 0 0) 0 [] rfl ?own ⟨g, 0, none⟩ ls.length cap (ls.map Value.string) rfl (by simp) ?c1 ?c2 ?c3 ?c4 ?h)
    case own => exact ⟨rfl, .inr ⟨w.heap.size, 0, #[], rfl, Nat.zero_le _, Blk.new rfl, Nat.le_refl _, Nat.zero_le _, rfl, rfl⟩⟩
    case c1 => exact fun j u hu => (World.cell?_alloc_lt _ _ _ (by unfold Addr.add; split <;> simpa using hg)).trans (HC.out j u hu)
    case c2 => intro u hu; simp at hu; obtain ⟨s, _, rfl⟩ := hu; rfl
    case c3 => unfold maxLen; omega
    case c4 => omega
    case h =>
      intro v' w1 hown hgr hsn
      have HO := Lib.hid hown; clear hown
      go_wp2
      go_returns
      refine ⟨v', rfl, by unfold LAt; simpa using HO.out, ((Below.refl _ _).alloc (Nat.le_refl _) _).grown hgr (by simp) (fun k e => by simp [Value.ownBlock] at e; omega), fun g' hg' => ?_⟩
      rcases hsn with h | h
      · rw [h] at hg'; simp [Value.ownBlock] at hg'; omega
      · have := h g' hg'; simp at this; omega

set_option maxRecDepth 100000 in
theorem lines_any (b : Nat) (m : MS) (ls : List ByteArray) (w : World) (h : MAt w b m) (hl : LAt w m.ln ls) (hll : ls.length ≤ 1000000) :
    Calls Try.prog 20 #[.pointer (some ⟨b, 0, none⟩)] w fun e w' => ∃ v', e = .returned v' ∧ LAt w' v' ls ∧ Below w.heap.size w w' ∧ (∀ g, v'.ownBlock = some g → w.heap.size ≤ g) := by
  have h11 := h.cell 11 m.ln rfl
  clear h
  go_enter Try.func20, Try.ntmps20
  go_wp2_with fail
  refine (clone_any _ ls _ hl hll).mono ?_
  rintro e w1 ⟨v', rfl, h1, h2, h3⟩
  have H1 := Lib.hid h1; clear h1
  have H3 := Lib.hid h3; clear h3
  go_wp2
  go_returns
  exact ⟨_, rfl, H1.out, h2, H3.out⟩

/-- A slice value holds strings (owned, or an argument's). -/
def Strs (w : World) (v : Value) (ls : List ByteArray) : Prop :=
  (v = .slice none 0 0 ∧ ls = []) ∨ ∃ g off cap, v = .slice (some ⟨g, off, none⟩) ls.length cap ∧ g < w.heap.size ∧ ∀ j (h : j < ls.length), w.cell? ⟨g, off + j, none⟩ = some (.string ls[j])
theorem LAt.strs {w : World} {v : Value} {ls : List ByteArray} (h : LAt w v ls) : Strs w v ls := by
  rcases h.2 with ⟨rfl, h0⟩ | ⟨g, cap, cur, rfl, _, hh, r⟩
  · exact .inl ⟨rfl, List.eq_nil_of_length_eq_zero h0⟩
  · refine .inr ⟨g, 0, cap, rfl, lt_of_block hh, fun j hj => ?_⟩
    have := h.cellAt j (by omega)
    rw [Nat.zero_add, this]
    simp [hj]

theorem bytes_ne {x y : ByteArray} (h : ¬ x = y) : (x.toList == y.toList) = false := by
  rw [beq_eq_false_iff_ne]
  intro e
  rw [ByteArray.toList_eq, ByteArray.toList_eq] at e
  exact h (ByteArray.ext (Array.toList_inj.mp e))
theorem take_snoc_eq {la lb : List ByteArray} {j n : Nat} (na : la.length = n) (nb : lb.length = n) (hj : j < n) (ht : la.take j = lb.take j) (he : la.getD j ByteArray.empty = lb.getD j ByteArray.empty) : la.take (j + 1) = lb.take (j + 1) := by
  rw [List.take_succ_eq_append_getElem (by omega), List.take_succ_eq_append_getElem (by omega), ht]
  simp [List.getD, na, nb, hj] at he
  rw [he]

theorem Strs.form {w : World} {v : Value} {ls : List ByteArray} (h : Strs w v ls) : ∃ ao cap, v = .slice ao ls.length cap := by
  rcases h with ⟨rfl, rfl⟩ | ⟨g, off, cap, rfl, _⟩
  · exact ⟨none, 0, rfl⟩
  · exact ⟨_, _, rfl⟩

set_option maxRecDepth 100000 in
theorem linesEq_len (aa ab : Option Addr) (na nb ca cb : Nat) (w : World) (h : ((na : Int) == (nb : Int)) = false) (hla : na ≤ 1000000) (hlb : nb ≤ 1000000) :
    Calls Try.prog 23 #[.slice aa na ca, .slice ab nb cb] w fun e w' => e = .returned (.bool false) ∧ ∃ n, w' = w.drewN n := by
  go_enter Try.func23, Try.ntmps23
  go_wp2
  go_returns
  exact ⟨rfl, 0, rfl⟩
set_option maxRecDepth 100000 in
theorem linesEq_nil (aa ab : Option Addr) (ca cb : Nat) (w : World) :
    Calls Try.prog 23 #[.slice aa 0 ca, .slice ab 0 cb] w fun e w' => e = .returned (.bool true) ∧ ∃ n, w' = w.drewN n := by
  go_enter Try.func23, Try.ntmps23
  go_wp2
  go_rounds 1
  go_returns
  exact ⟨rfl, 0, rfl⟩

set_option maxRecDepth 100000 in
set_option maxHeartbeats 400000 in
theorem linesEq_some (ga oa gb ob ca cb n : Nat) (la lb : List ByteArray) (w : World) (hn : n ≤ 1000000) (na : la.length = n) (nb : lb.length = n)
    (ha : ∀ j, j < n → w.cell? ⟨ga, oa + j, none⟩ = some (.string (la.getD j ByteArray.empty))) (hb : ∀ j, j < n → w.cell? ⟨gb, ob + j, none⟩ = some (.string (lb.getD j ByteArray.empty))) :
    Calls Try.prog 23 #[.slice (some ⟨ga, oa, none⟩) n ca, .slice (some ⟨gb, ob, none⟩) n cb] w fun e w' => e = .returned (.bool (decide (la = lb))) ∧ ∃ n, w' = w.drewN n := by
  have HA := Lib.hid ha; clear ha
  have HB := Lib.hid hb; clear hb
  have NA := Lib.hid na; clear na
  have NB := Lib.hid nb; clear nb
  have he : ((n : Int) == (n : Int)) = true := by simp
  go_enter Try.func23, Try.ntmps23
  go_wp2_with fail
  go_loopw [13] (fun iv wr => ∃ (j q : Nat), iv = .int .i64 j ∧ j ≤ n ∧ la.take j = lb.take j ∧ wr = w.drewN q) (fun iv _ => n - (intOf iv).toNat)
  case atStart => exact ⟨0, 0, rfl, Nat.zero_le _, rfl, rfl⟩
  case round =>
    obtain ⟨j, q, rfl, hj, ht, rfl⟩ := hrel
    have HT := Lib.hid ht; clear ht
    by_cases hlt : j < n
    · have h1 := HA.out j hlt
      have h2 := HB.out j hlt
      have h0 : (0 : Int) ≤ (j : Int) := Int.natCast_nonneg _
      have h3 : (j : Int) < (n : Int) := by omega
      obtain ⟨x, hx⟩ : ∃ x, x = la.getD j ByteArray.empty := ⟨_, rfl⟩
      obtain ⟨y, hy⟩ : ∃ y, y = lb.getD j ByteArray.empty := ⟨_, rfl⟩
      rw [← hx] at h1
      rw [← hy] at h2
      have HX := Lib.hid hx; clear hx
      have HY := Lib.hid hy; clear hy
      by_cases hxy : x = y
      · subst hxy
        go_wp2_with fail
        go_quiet (fail)
        go_wp2
        go_roundw
        case rel => exact ⟨j + 1, q + nq, by go_num, by omega, take_snoc_eq NA.out NB.out hlt HT.out (HX.out.symm.trans HY.out), rfl⟩
        case measure => simp [intOf]; omega
      · have hxb := bytes_ne hxy
        have hlab : ¬ la = lb := fun e => hxy (by rw [HX.out, HY.out, e])
        have HL := Lib.hid hlab; clear hlab
        go_wp2_with fail
        go_quiet (fail)
        go_wp2
        go_returns
        exact ⟨by rw [decide_eq_false HL.out]; rfl, q + nq, by first | rfl | rw [World.drewN_drewN]⟩
    · obtain rfl : j = n := by omega
      have hlab : la = lb := by
        have := HT.out
        rwa [List.take_of_length_le (Nat.le_of_eq NA.out), List.take_of_length_le (Nat.le_of_eq NB.out)] at this
      have HL := Lib.hid hlab; clear hlab
      go_wp2
      go_returns
      exact ⟨by rw [decide_eq_true HL.out]; rfl, _, rfl⟩

theorem linesEq_any (va vb : Value) (la lb : List ByteArray) (w : World) (ha : Strs w va la) (hb : Strs w vb lb) (hla : la.length ≤ 1000000) (hlb : lb.length ≤ 1000000) :
    Calls Try.prog 23 #[va, vb] w fun e w' => e = .returned (.bool (decide (la = lb))) ∧ ∃ n, w' = w.drewN n := by
  obtain ⟨aa, ca, rfl⟩ := ha.form
  obtain ⟨ab, cb, rfl⟩ := hb.form
  by_cases hn : la.length = lb.length
  · by_cases h0 : la.length = 0
    · have e1 : la = [] := List.eq_nil_of_length_eq_zero h0
      have e2 : lb = [] := List.eq_nil_of_length_eq_zero (by omega)
      subst e1; subst e2
      exact linesEq_nil aa ab ca cb w
    · rcases ha with ⟨_, e⟩ | ⟨ga, oa, ca', ea, _, ha⟩
      · subst e; exact absurd rfl h0
      · rcases hb with ⟨_, e⟩ | ⟨gb, ob, cb', eb, _, hb⟩
        · subst e; exact absurd hn h0
        · simp only [Value.slice.injEq] at ea eb
          obtain ⟨rfl, _, rfl⟩ := ea
          obtain ⟨rfl, _, rfl⟩ := eb
          rw [← hn]
          exact linesEq_some ga oa gb ob ca cb la.length la lb w hla rfl hn.symm (fun j hj => by rw [ha j hj]; simp [List.getD, hj]) (fun j hj => by rw [hb j (by omega)]; simp [List.getD, show j < lb.length by omega])
  · have := linesEq_len aa ab la.length lb.length ca cb w (by simp; omega) hla hlb
    rwa [decide_eq_false (fun e => hn (by rw [e]))]
end Go.Proofs.Ytmngeljbcnifgaa
