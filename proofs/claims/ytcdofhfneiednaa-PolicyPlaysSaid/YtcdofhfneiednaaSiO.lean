/- The document's site: Learn, whatever the site; Evict; its contracts over the blocks that it uses. -/
import Derived.Test.YtcdofhfneiednaaSiN
namespace Go.Proofs.Ytcdofhfneiednaa
set_option linter.unusedSimpArgs false
set_option linter.unusedVariables false
open Go.RowKit

theorem rlearn_any (b : Nat) (s : SS) (v : Value) (x : Ent) (w : World) (h : RAt w b s v) (hl : REt w v s.l) (ok : SOk s) (hrw : s.rw < 1000000000000) :
    Calls Try.prog 40 #[.pointer (some ⟨b, 0, none⟩), .int .i64 x.sh, .int .i64 x.sl, .int .u64 x.ep] w (RSited b (s.learn x) v w) := by
  unfold SS.learn
  by_cases hx : x.sh < 0
  · rw [if_pos (.inl hx)]; exact rlearn_neg b s v x w h hl hx
  by_cases hw : s.ways = 0
  · rw [if_pos (.inr hw)]; exact rlearn_ways b s v x w h hl hx hw
  rw [if_neg (by rintro (h | h); exact hx h; exact hw h)]
  have hlw0 := ok.ways.1
  by_cases h0 : s.state = 0
  · rw [if_pos h0]
    by_cases hc : s.count + 1 ≤ s.warm
    · rw [if_pos hc]; exact rlearn_cold b s v x w h hl ok hx hw h0 hc
    · rw [if_neg hc]
      have he : s.l = [] := by
        by_cases hn : s.l = []
        · exact hn
        · have := ok.one.2 hn; omega
      have hp : SS.put { s with count := s.count + 1, state := 1 } x = { s with count := s.count + 1, state := 1, l := [x], rw := s.rw + 1 } := by
        unfold SS.put
        simp [he, show 0 < s.ways by omega]
      rw [hp]
      exact rlearn_first b s v x w h hl ok hx hw h0 hc hrw
  · rw [if_neg h0]
    by_cases h1 : s.state = 1
    · rw [if_pos h1]; exact rlearn_one b s v x w h hl ok hx hw h1 hrw
    · rw [if_neg h1]
      exact rlearn_two b s v x w h hl hx hw (by rcases ok.st with h | h | h; exact absurd h h0; exact absurd h h1; exact h)

set_option maxRecDepth 100000 in
theorem revict_out (b : Nat) (s : SS) (v : Value) (k : Int) (w : World) (h : RAt w b s v) (hl : REt w v s.l) (hk : k < 0 ∨ s.l.length ≤ k) (h8 : s.l.length ≤ 8) :
    Calls Try.prog 52 #[.pointer (some ⟨b, 0, none⟩), .int .i64 k] w (RSited b s v w) := by
  have hb := h.lt
  obtain ⟨ao, cap, rfl⟩ := hl.form
  have h4 := h.cell 4 (.slice ao s.l.length cap) rfl
  have H := Lib.hid h; clear h
  have HL := Lib.hid hl; clear hl
  by_cases hn : k < 0
  · go_enter Try.func52, Try.ntmps52
    go_wp2
    go_returns
    exact ⟨_, rfl, H.out, HL.out, Kp.refl _ _, .inl rfl⟩
  · have hk2 : (s.l.length : Int) ≤ k := by omega
    go_enter Try.func52, Try.ntmps52
    go_wp2
    go_returns
    exact ⟨_, rfl, H.out, HL.out, Kp.refl _ _, .inl rfl⟩

theorem step_append2 {P : Program} {ops : Array Oper} {o : Oper} {a : Act} {w : World} {K : Act → World → Prop} {Q : Exit → Act → World → Prop} {E : Prop} (hgd : o.guard = none) (s x : Operand) (t : TypeId)
    (ho : o.op = .call { callee := .builtin .append, args := #[s, x], argTypes := #[t, t] })
    (e : TypeId) (i : TypeInfo) (z : Value) (size bytes : Nat) (ht : P.underlying t = some (.slice e)) (hi : P.info? e = some i) (hz : i.zero = some z)
    (hsize : i.size = size) (hby : i.bytes = bytes) (hzs : z.cells.size = size) (hsz : 0 < size)
    (v : Value) (n : Nat) (xs : List Value) (hs : a.eval s = v) (hown : w.ownsRow 0 e size v n xs)
    (ad : Addr) (m c : Nat) (news : List Value) (hx : a.eval x = .slice (some ad) m c) (hl : news.length = m * size) (hnews : ∀ j u, news[j]? = some u → w.cell? (ad.add j) = some u) (h1 : ∀ u ∈ news, u.oneCell' = true)
    (h63 : n + m ≤ maxLen) (hbytes : (n + m) * bytes ≤ 140737488355328)
    (h : ∀ v' w', w'.ownsRow 0 e size v' (n + m) (xs ++ news) → w.grownBy w' v.ownBlock → SameOrNew w v v' → K (a.put o.dst v') w') :
    if Region.wanted o (yielded ops a.tmps) = true then Oper.wp P o a w K Q else E := by
  have hw : Region.wanted o (yielded ops a.tmps) = true := by simp [Region.wanted, hgd]
  rw [if_pos hw]
  obtain ⟨v', w', hr, h2, h3, h4⟩ := run_append2 (P := P) w t o.type e i z size bytes ht hi hz hsize hby hzs hsz v n xs hown ad m c news hl hnews h1 h63 hbytes
  unfold Oper.wp execOp
  simp only [ho, resolve, invoke, builtin, Sem.run_bind, Sem.run_pure, Result.andThen_ok, List.map_toArray, List.map_cons, List.map_nil, hs, hx, hr]
  exact h v' w' h2 h3 h4
theorem REt.news {w : World} {g cap : Nat} {l : List Ent} (h : REt w (.slice (some ⟨g, 0, none⟩) l.length cap) l) : ∀ j u, (l.flatMap Ent.cells)[j]? = some u → w.cell? ⟨g, j, none⟩ = some u := by
  intro j u hu
  have := World.ownsRow.cells h (g := g) rfl j u hu
  rw [Addr.add_lit] at this
  simpa using this

set_option maxRecDepth 100000 in
set_option maxHeartbeats 1000000 in
theorem revict_in (b : Nat) (s : SS) (v : Value) (i n : Nat) (w : World) (h : RAt w b s v) (hl : REt w v s.l) (hn : s.l.length = n + 1) (hi : i < n + 1) (h8 : n ≤ 7) :
    Calls Try.prog 52 #[.pointer (some ⟨b, 0, none⟩), .int .i64 i] w (RSited b (s.evict i) v w) := by
  obtain ⟨i0, hi0, hz0, hz1, hz2⟩ := info_parts Try.info103
  have hb := h.lt
  have fr := h.free
  obtain ⟨g, cap, rfl, _, hg⟩ := World.ownsRow.form hl (by omega)
  have hne := hl.ne h (by decide)
  have h4 := h.cell 4 (.slice (some ⟨g, 0, none⟩) s.l.length cap) rfl
  rw [hn] at h4
  have hcap : n + 1 ≤ cap := by
    rcases hl.2 with ⟨hv, _⟩ | ⟨g', cap', cur, hv, _, hh, hnc, _⟩
    · simp at hv
    · simp at hv; omega
  have H := Lib.hid h; clear h
  have HL := Lib.hid hl; clear hl
  have HN := Lib.hid hn; clear hn
  have e1 : ¬ ((i : Int) < 0) := by omega
  have e2 : ¬ ((n : Int) + 1 ≤ i) := by omega
  have b1 : (i : Int) ≤ cap := by omega
  have b2 : (i : Int) + 1 ≤ (n : Int) + 1 := by omega
  have b3 : 0 ≤ (i : Int) + 1 := by omega
  have hwr : IntKind.i64.wrap ((i : Int) + 1) = (i : Int) + 1 := by simp [IntKind.wrap, IntKind.bits, IntKind.signed]; omega
  have hlt : (s.l.take i).length = i := by have := HN.out; simp; omega
  have hld : (s.l.drop (i + 1)).length = n - i := by have := HN.out; simp; omega
  have N1 := Lib.hid (show ((s.l.take i).flatMap Ent.cells).length = i * 3 by rw [flat_len, hlt])
  have N2 := Lib.hid (show ((s.l.drop (i + 1)).flatMap Ent.cells).length = (n - i) * 3 by rw [flat_len, hld])
  have C1 := Lib.hid (show ∀ j u, ((s.l.take i).flatMap Ent.cells)[j]? = some u → w.cell? ⟨g, j, none⟩ = some u from fun j u hu => REt.news HL.out j u (by rw [← flat_take, List.getElem?_take] at hu; split at hu; exact hu; cases hu))
  have C2 := Lib.hid (show ∀ j u, ((s.l.drop (i + 1)).flatMap Ent.cells)[j]? = some u → w.cell? ⟨g, (i + 1) * 3 + j, none⟩ = some u from fun j u hu => REt.news HL.out _ u (by rw [← flat_drop, List.getElem?_drop] at hu; exact hu))
  have L12 := Lib.hid (show (s.l.take i ++ s.l.drop (i + 1)).length = i + (n - i) by rw [List.length_append, hlt, hld])
  clear hlt hld
  by_cases hcj : cap = i + 1
  · obtain rfl := hcj
    obtain rfl : i = n := by omega
    have b4 : (i : Int) ≤ (i : Int) + 1 := by omega
    go_enter Try.func52, Try.ntmps52
    go_wp2_with fail
    refine wp_region_K (S := fun w' => w'.cell? ⟨b, 4, none⟩ = some (Value.slice (some ⟨g, 0, none⟩) (i + 1) (i + 1))) (K := 17) (by kernel_rfl) ?_
    have hHeld : (fun w' => w'.cell? ⟨b, 4, none⟩ = some (Value.slice (some ⟨g, 0, none⟩) (i + 1) (i + 1))) (World.drew _) := h4
    refine wpK_take (i := 0) (v := ?_) rfl (by kernel_rfl) (fun _ _ _ h => h) (Or.inl ⟨by kernel_rfl, ?_⟩) hHeld ?_
    rotate_left
    · intro w hSw; (try dsimp only at hSw); go_simp; (try with_reducible rfl)
    simp only [Act.put, List.setIfInBounds_toArray, List.set_cons_zero, List.set_cons_succ]
    refine wpK_take (i := 2) (v := ?_) rfl (by kernel_rfl) (fun _ _ _ h => h) (Or.inl ⟨by kernel_rfl, ?_⟩) hHeld ?_
    rotate_left
    · intro w hSw; (try dsimp only at hSw); go_simp; (try with_reducible rfl)
    simp only [Act.put, List.setIfInBounds_toArray, List.set_cons_zero, List.set_cons_succ]
    refine wpK_take (i := 3) (v := ?_) rfl (by kernel_rfl) (fun _ _ _ h => h) (Or.inl ⟨by kernel_rfl, ?_⟩) hHeld ?_
    rotate_left
    · intro w hSw; (try dsimp only at hSw); go_simp; (try with_reducible rfl)
    simp only [Act.put, List.setIfInBounds_toArray, List.set_cons_zero, List.set_cons_succ]
    refine wpK_take (i := 4) (v := ?_) rfl (by kernel_rfl) (fun _ _ _ h => h) (Or.inl ⟨by kernel_rfl, ?_⟩) hHeld ?_
    rotate_left
    · intro w hSw; (try dsimp only at hSw); go_simp; (try with_reducible rfl)
    simp only [Act.put, List.setIfInBounds_toArray, List.set_cons_zero, List.set_cons_succ]
    refine wpK_take (i := 5) (v := ?_) rfl (by kernel_rfl) (fun _ _ _ h => h) (Or.inl ⟨by kernel_rfl, ?_⟩) hHeld ?_
    rotate_left
    · intro w hSw; (try dsimp only at hSw); go_simp; (try with_reducible rfl)
    simp only [Act.put, List.setIfInBounds_toArray, List.set_cons_zero, List.set_cons_succ]
    refine wpK_take (i := 6) (v := ?_) rfl (by kernel_rfl) (fun _ _ _ h => h) (Or.inl ⟨by kernel_rfl, ?_⟩) hHeld ?_
    rotate_left
    · intro w hSw; (try dsimp only at hSw); go_simp; (try with_reducible rfl)
    simp only [Act.put, List.setIfInBounds_toArray, List.set_cons_zero, List.set_cons_succ]
    refine wpK_take (i := 7) (v := ?_) rfl (by kernel_rfl) (fun _ _ _ h => h) (Or.inl ⟨by kernel_rfl, ?_⟩) hHeld ?_
    rotate_left
    · intro w hSw; (try dsimp only at hSw); go_simp; (try with_reducible rfl)
    simp only [Act.put, List.setIfInBounds_toArray, List.set_cons_zero, List.set_cons_succ]
    refine wpK_take (i := 9) (v := ?_) rfl (by kernel_rfl) (fun _ _ _ h => h) (Or.inl ⟨by kernel_rfl, ?_⟩) hHeld ?_
    rotate_left
    · intro w hSw; (try dsimp only at hSw); go_simp; (try with_reducible rfl)
    simp only [Act.put, List.setIfInBounds_toArray, List.set_cons_zero, List.set_cons_succ]
    refine wpK_take (i := 10) (v := ?_) rfl (by kernel_rfl) (fun _ _ _ h => h) (Or.inl ⟨by kernel_rfl, ?_⟩) hHeld ?_
    rotate_left
    · intro w hSw; (try dsimp only at hSw); go_simp; (try with_reducible rfl)
    simp only [Act.put, List.setIfInBounds_toArray, List.set_cons_zero, List.set_cons_succ]
    refine wpK_take (i := 11) (v := ?_) rfl (by kernel_rfl) (fun _ _ _ h => h) (Or.inl ⟨by kernel_rfl, ?_⟩) hHeld ?_
    rotate_left
    · intro w hSw; (try dsimp only at hSw); go_simp; (try with_reducible rfl)
    simp only [Act.put, List.setIfInBounds_toArray, List.set_cons_zero, List.set_cons_succ]
    refine wpK_take (i := 12) (v := ?_) rfl (by kernel_rfl) (fun _ _ _ h => h) (Or.inl ⟨by kernel_rfl, ?_⟩) hHeld ?_
    rotate_left
    · intro w hSw; (try dsimp only at hSw); go_simp; (try with_reducible rfl)
    simp only [Act.put, List.setIfInBounds_toArray, List.set_cons_zero, List.set_cons_succ]
    refine wpK_take (i := 13) (v := ?_) rfl (by kernel_rfl) (fun _ _ _ h => h) (Or.inl ⟨by kernel_rfl, ?_⟩) hHeld ?_
    rotate_left
    · intro w hSw; (try dsimp only at hSw); go_simp; (try with_reducible rfl)
    simp only [Act.put, List.setIfInBounds_toArray, List.set_cons_zero, List.set_cons_succ]
    refine wpK_take (i := 14) (v := ?_) rfl (by kernel_rfl) (fun _ _ _ h => h) (Or.inl ⟨by kernel_rfl, ?_⟩) hHeld ?_
    rotate_left
    · intro w hSw; (try dsimp only at hSw); go_simp; (try with_reducible rfl)
    simp only [Act.put, List.setIfInBounds_toArray, List.set_cons_zero, List.set_cons_succ]
    refine wpK_take (i := 15) (v := ?_) rfl (by kernel_rfl) (fun _ _ _ h => h) (Or.inl ⟨by kernel_rfl, ?_⟩) hHeld ?_
    rotate_left
    · intro w hSw; (try dsimp only at hSw); go_simp; (try with_reducible rfl)
    simp only [Act.put, List.setIfInBounds_toArray, List.set_cons_zero, List.set_cons_succ]
    refine wpK_one (i := 1) (by kernel_rfl) rfl (fun K' hK => ?_)
    go_simp
    refine hK.out _ _ (fun _ => by first | exact hHeld | go_keep) (fun hHeld' => ?_)
    have hHeld := hHeld' (by decide)
    clear hHeld'
    clear hK K'
    refine wpK_one (i := 8) (by kernel_rfl) rfl (fun K' hK => ?_)
    refine step_append2 (by rfl) _ _ _ (by rfl) 103 i0 _ 3 24 Try.underlying44 hi0 hz0 hz1 hz2 rfl (by decide) (.slice (some ⟨w.heap.size, 0, none⟩) 0 0) 0 [] (by rfl) ⟨rfl, .inr ⟨w.heap.size, 0, #[], rfl, Nat.zero_le _, (Blk.new rfl).drew, Nat.le_refl _, Nat.zero_le _, rfl, rfl⟩⟩ ⟨g, 0, none⟩ i (i + 1) ((s.l.take i).flatMap Ent.cells) (by simp [Act.eval, Act.put]) N1.out (fun j u hu => by rw [Addr.add_lit, Nat.zero_add]; exact (World.cell?_alloc_lt _ _ _ hg).trans (C1.out j u hu)) (flat_one _) (by unfold maxLen; omega) (by omega) ?_
    intro v1 w1 ho1 hg1 hs1
    refine hK.out _ _ (fun _ => (hg1.cell_far _ (by simp; omega) (by simp [Value.ownBlock]; omega)).trans hHeld) (fun hHeld' => ?_)
    have hHeld := hHeld' (by decide)
    clear hHeld' hK K'
    have k1 : Kp (fun k => w.heap.size ≤ k) w w1 := (((Kp.refl _ _).alloc _).drew).grown hg1 (fun k e => .inl (by simp [Value.ownBlock] at e; omega))
    have v1b : ∀ k, v1.ownBlock = some k → w.heap.size ≤ k := by
      intro k hk
      rcases hs1 with h | h
      · rw [h] at hk; simp [Value.ownBlock] at hk; omega
      · have := h k hk; simp at this; omega
    have K1 := Lib.hid k1; have O1 := Lib.hid ho1; have V1 := Lib.hid v1b; have hsz1 := k1.size
    clear k1 ho1 hs1 hg1 v1b
    refine wpK_one (i := 16) (by kernel_rfl) rfl (fun K' hK => ?_)
    refine step_append2 (by rfl) _ _ _ (by rfl) 103 i0 _ 3 24 Try.underlying44 hi0 hz0 hz1 hz2 rfl (by decide) v1 _ _ (by rfl) O1.out (⟨g, 0, none⟩) (i - i) (0) ((s.l.drop (i + 1)).flatMap Ent.cells) (by simp [Act.eval, Act.put]) N2.out (fun j u hu => by have := (List.getElem?_eq_some_iff.1 hu).1; have := N2.out; omega) (flat_one _) (by unfold maxLen; omega) (by omega) ?_
    intro v2 w2 ho2 hg2 hs2
    refine hK.out _ _ (fun _ => (hg2.cell_far _ (show b < w1.heap.size by omega) (fun e => absurd (show w.heap.size ≤ b from V1.out _ e.symm) (by omega))).trans hHeld) (fun hHeld' => ?_)
    have hHeld := hHeld' (by decide)
    clear hHeld' hK K'
    have k2 : Kp (fun k => w.heap.size ≤ k) w w2 := K1.out.grown hg2 (fun k e => .inl (V1.out k e))
    have v2b : ∀ k, v2.ownBlock = some k → w.heap.size ≤ k := by
      intro k hk
      rcases hs2 with h | h
      · exact V1.out k (h ▸ hk)
      · exact Nat.le_trans hsz1 (h k hk)
    have K2 := Lib.hid k2; have O2 := Lib.hid ho2; have V2 := Lib.hid v2b; have hsz2 := k2.size
    have R2 : RAt w2 b s _ := Blk.kp H.out k2 (by omega)
    have ff := R2.free
    have hb2 := R2.lt
    have R2' := Lib.hid R2
    obtain ⟨a2, c2, hv2⟩ : ∃ ao cap, v2 = .slice ao i cap := by
      rcases ho2.2 with ⟨rfl, h0⟩ | ⟨g', cap', cur, rfl, _⟩
      · exact ⟨none, 0, by rw [show i = 0 by omega]⟩
      · exact ⟨_, _, by rw [Nat.zero_add, show i + (i - i) = i by omega]⟩
    clear R2 k2 ho2 hs2 hg2 v2b K1 O1 V1
    refine wpK_one (i := 17) (by kernel_rfl) rfl (fun K' hK => ?_)
    go_simp
    refine hK.out _ _ (fun h => absurd h (by decide)) (fun _ => ?_)
    clear hK K'
    refine wpK_one (i := 18) (by kernel_rfl) rfl (fun K' hK => ?_)
    go_simp
    refine hK.out _ _ (fun h => absurd h (by decide)) (fun _ => ?_)
    clear hK K'
    refine wpK_one (i := 19) (by kernel_rfl) rfl (fun K' hK => ?_)
    go_simp
    refine hK.out _ _ (fun h => absurd h (by decide)) (fun _ => ?_)
    clear hK K'
    refine wpK_done (by kernel_rfl) ?_ _
    have hin : i + (i - i) = i := by omega
    subst hv2
    have hR : REt w2 (.slice a2 i c2) (s.l.take i ++ s.l.drop (i + 1)) := by
      have o := O2.out
      rw [Nat.zero_add, List.nil_append, hin] at o
      unfold REt
      rw [List.flatMap_append, L12.out, hin]
      exact o
    have hbv : ∀ k, (Value.slice a2 i c2).ownBlock = some k → k ≠ b := fun k hk e => by have := V2.out k hk; omega
    have hev : s.evict i = if s.l.length = 1 then s.forget else { s with l := s.l.take i ++ s.l.drop (i + 1) } := by
      unfold SS.evict
      rw [if_neg (by have := HN.out; omega)]
      simp
    have KK : Kp (fun k => k = b ∨ (Value.slice (some ⟨g, 0, none⟩) s.l.length (i + 1)).ownBlock = some k) w (w2.setCell ⟨b, 4, none⟩ (.slice a2 i c2)) := by
      refine Kp.setCell (p := ⟨b, 4, none⟩) ?_ (.inl (.inl rfl)) _
      have k2 := K2.out
      exact ⟨k2.os, k2.tape, k2.output, k2.size, fun k hk hn => k2.block k hk (by omega)⟩
    have SA2 : RAt (w2.setCell ⟨b, 4, none⟩ (.slice a2 i c2)) b s (.slice a2 i c2) := RAt.of (Blk.set R2'.out 4 _) rfl
    have EA2 : REt (w2.setCell ⟨b, 4, none⟩ (.slice a2 i c2)) (.slice a2 i c2) (s.l.take i ++ s.l.drop (i + 1)) :=
      hR.kp (Kp.setCell (S := (· = b)) (p := ⟨b, 4, none⟩) (Kp.refl _ _) (.inl rfl) _) (fun g' hg' e => hbv g' hg' e)
    have HEV := Lib.hid hev; have HKK := Lib.hid KK; have HSA := Lib.hid SA2; have HEA := Lib.hid EA2
    clear hev KK SA2 EA2 hR hin K2 O2 R2' h4 hwr
    cases i with
    | zero =>
      go_wp2_with fail
      refine (rforget_any b s _ _ HSA.out).mono ?_
      rintro e w4 ⟨v', rfl, f1, f2, f3, f4⟩
      have F : RSited b s.forget (Value.slice (some ⟨g, 0, none⟩) s.l.length (0 + 1)) w (.returned (.tuple #[])) w4 := by
        refine ⟨v', rfl, f1, f2, ?_, .inr fun g' hg' => ?_⟩
        · have hK := HKK.out
          exact ⟨f3.os.trans hK.os, f3.tape.trans hK.tape, f3.output.trans hK.output, Nat.le_trans hK.size f3.size, fun k hk hn => by
            rw [f3.block k (Nat.lt_of_lt_of_le hk hK.size) (fun h => h.elim (fun e => hn (.inl e)) (fun e => by have := V2.out k e; omega))]
            exact hK.block k hk hn⟩
        · rcases f4 with h | h
          · exact V2.out g' (h ▸ hg')
          · exact Nat.le_trans HKK.out.size (h g' hg')
      have HF := Lib.hid F; clear F f1 f2 f3 f4
      go_wp2
      go_returns
      rw [HEV.out, if_pos HN.out]
      exact HF.out
    | succ m =>
      have hm : ((m : Int) + 1 == 0) = false := by simp; omega
      go_wp2
      go_returns
      rw [HEV.out, if_neg (by have := HN.out; omega)]
      exact ⟨_, rfl, HSA.out, HEA.out, HKK.out, .inr V2.out⟩
  go_enter Try.func52, Try.ntmps52
  go_wp2_with fail
  refine wp_region_K (S := fun w' => w'.cell? ⟨b, 4, none⟩ = some (Value.slice (some ⟨g, 0, none⟩) (n + 1) (cap))) (K := 17) (by kernel_rfl) ?_
  have hHeld : (fun w' => w'.cell? ⟨b, 4, none⟩ = some (Value.slice (some ⟨g, 0, none⟩) (n + 1) (cap))) (World.drew _) := h4
  refine wpK_take (i := 0) (v := ?_) rfl (by kernel_rfl) (fun _ _ _ h => h) (Or.inl ⟨by kernel_rfl, ?_⟩) hHeld ?_
  rotate_left
  · intro w hSw; (try dsimp only at hSw); go_simp; (try with_reducible rfl)
  simp only [Act.put, List.setIfInBounds_toArray, List.set_cons_zero, List.set_cons_succ]
  refine wpK_take (i := 2) (v := ?_) rfl (by kernel_rfl) (fun _ _ _ h => h) (Or.inl ⟨by kernel_rfl, ?_⟩) hHeld ?_
  rotate_left
  · intro w hSw; (try dsimp only at hSw); go_simp; (try with_reducible rfl)
  simp only [Act.put, List.setIfInBounds_toArray, List.set_cons_zero, List.set_cons_succ]
  refine wpK_take (i := 3) (v := ?_) rfl (by kernel_rfl) (fun _ _ _ h => h) (Or.inl ⟨by kernel_rfl, ?_⟩) hHeld ?_
  rotate_left
  · intro w hSw; (try dsimp only at hSw); go_simp; (try with_reducible rfl)
  simp only [Act.put, List.setIfInBounds_toArray, List.set_cons_zero, List.set_cons_succ]
  refine wpK_take (i := 4) (v := ?_) rfl (by kernel_rfl) (fun _ _ _ h => h) (Or.inl ⟨by kernel_rfl, ?_⟩) hHeld ?_
  rotate_left
  · intro w hSw; (try dsimp only at hSw); go_simp; (try with_reducible rfl)
  simp only [Act.put, List.setIfInBounds_toArray, List.set_cons_zero, List.set_cons_succ]
  refine wpK_take (i := 5) (v := ?_) rfl (by kernel_rfl) (fun _ _ _ h => h) (Or.inl ⟨by kernel_rfl, ?_⟩) hHeld ?_
  rotate_left
  · intro w hSw; (try dsimp only at hSw); go_simp; (try with_reducible rfl)
  simp only [Act.put, List.setIfInBounds_toArray, List.set_cons_zero, List.set_cons_succ]
  refine wpK_take (i := 6) (v := ?_) rfl (by kernel_rfl) (fun _ _ _ h => h) (Or.inl ⟨by kernel_rfl, ?_⟩) hHeld ?_
  rotate_left
  · intro w hSw; (try dsimp only at hSw); go_simp; (try with_reducible rfl)
  simp only [Act.put, List.setIfInBounds_toArray, List.set_cons_zero, List.set_cons_succ]
  refine wpK_take (i := 7) (v := ?_) rfl (by kernel_rfl) (fun _ _ _ h => h) (Or.inl ⟨by kernel_rfl, ?_⟩) hHeld ?_
  rotate_left
  · intro w hSw; (try dsimp only at hSw); go_simp; (try with_reducible rfl)
  simp only [Act.put, List.setIfInBounds_toArray, List.set_cons_zero, List.set_cons_succ]
  refine wpK_take (i := 9) (v := ?_) rfl (by kernel_rfl) (fun _ _ _ h => h) (Or.inl ⟨by kernel_rfl, ?_⟩) hHeld ?_
  rotate_left
  · intro w hSw; (try dsimp only at hSw); go_simp; (try with_reducible rfl)
  simp only [Act.put, List.setIfInBounds_toArray, List.set_cons_zero, List.set_cons_succ]
  refine wpK_take (i := 10) (v := ?_) rfl (by kernel_rfl) (fun _ _ _ h => h) (Or.inl ⟨by kernel_rfl, ?_⟩) hHeld ?_
  rotate_left
  · intro w hSw; (try dsimp only at hSw); go_simp; (try with_reducible rfl)
  simp only [Act.put, List.setIfInBounds_toArray, List.set_cons_zero, List.set_cons_succ]
  refine wpK_take (i := 11) (v := ?_) rfl (by kernel_rfl) (fun _ _ _ h => h) (Or.inl ⟨by kernel_rfl, ?_⟩) hHeld ?_
  rotate_left
  · intro w hSw; (try dsimp only at hSw); go_simp; (try with_reducible rfl)
  simp only [Act.put, List.setIfInBounds_toArray, List.set_cons_zero, List.set_cons_succ]
  refine wpK_take (i := 12) (v := ?_) rfl (by kernel_rfl) (fun _ _ _ h => h) (Or.inl ⟨by kernel_rfl, ?_⟩) hHeld ?_
  rotate_left
  · intro w hSw; (try dsimp only at hSw); go_simp; (try with_reducible rfl)
  simp only [Act.put, List.setIfInBounds_toArray, List.set_cons_zero, List.set_cons_succ]
  refine wpK_take (i := 13) (v := ?_) rfl (by kernel_rfl) (fun _ _ _ h => h) (Or.inl ⟨by kernel_rfl, ?_⟩) hHeld ?_
  rotate_left
  · intro w hSw; (try dsimp only at hSw); go_simp; (try with_reducible rfl)
  simp only [Act.put, List.setIfInBounds_toArray, List.set_cons_zero, List.set_cons_succ]
  refine wpK_take (i := 14) (v := ?_) rfl (by kernel_rfl) (fun _ _ _ h => h) (Or.inl ⟨by kernel_rfl, ?_⟩) hHeld ?_
  rotate_left
  · intro w hSw; (try dsimp only at hSw); go_simp; (try with_reducible rfl)
  simp only [Act.put, List.setIfInBounds_toArray, List.set_cons_zero, List.set_cons_succ]
  refine wpK_take (i := 15) (v := ?_) rfl (by kernel_rfl) (fun _ _ _ h => h) (Or.inl ⟨by kernel_rfl, ?_⟩) hHeld ?_
  rotate_left
  · intro w hSw; (try dsimp only at hSw); go_simp; (try with_reducible rfl)
  simp only [Act.put, List.setIfInBounds_toArray, List.set_cons_zero, List.set_cons_succ]
  refine wpK_one (i := 1) (by kernel_rfl) rfl (fun K' hK => ?_)
  go_simp
  refine hK.out _ _ (fun _ => by first | exact hHeld | go_keep) (fun hHeld' => ?_)
  have hHeld := hHeld' (by decide)
  clear hHeld'
  clear hK K'
  refine wpK_one (i := 8) (by kernel_rfl) rfl (fun K' hK => ?_)
  refine step_append2 (by rfl) _ _ _ (by rfl) 103 i0 _ 3 24 Try.underlying44 hi0 hz0 hz1 hz2 rfl (by decide) (.slice (some ⟨w.heap.size, 0, none⟩) 0 0) 0 [] (by rfl) ⟨rfl, .inr ⟨w.heap.size, 0, #[], rfl, Nat.zero_le _, (Blk.new rfl).drew, Nat.le_refl _, Nat.zero_le _, rfl, rfl⟩⟩ ⟨g, 0, none⟩ i (cap) ((s.l.take i).flatMap Ent.cells) (by simp [Act.eval, Act.put]) N1.out (fun j u hu => by rw [Addr.add_lit, Nat.zero_add]; exact (World.cell?_alloc_lt _ _ _ hg).trans (C1.out j u hu)) (flat_one _) (by unfold maxLen; omega) (by omega) ?_
  intro v1 w1 ho1 hg1 hs1
  refine hK.out _ _ (fun _ => (hg1.cell_far _ (by simp; omega) (by simp [Value.ownBlock]; omega)).trans hHeld) (fun hHeld' => ?_)
  have hHeld := hHeld' (by decide)
  clear hHeld' hK K'
  have k1 : Kp (fun k => w.heap.size ≤ k) w w1 := (((Kp.refl _ _).alloc _).drew).grown hg1 (fun k e => .inl (by simp [Value.ownBlock] at e; omega))
  have v1b : ∀ k, v1.ownBlock = some k → w.heap.size ≤ k := by
    intro k hk
    rcases hs1 with h | h
    · rw [h] at hk; simp [Value.ownBlock] at hk; omega
    · have := h k hk; simp at this; omega
  have K1 := Lib.hid k1; have O1 := Lib.hid ho1; have V1 := Lib.hid v1b; have hsz1 := k1.size
  clear k1 ho1 hs1 hg1 v1b
  refine wpK_one (i := 16) (by kernel_rfl) rfl (fun K' hK => ?_)
  refine step_append2 (by rfl) _ _ _ (by rfl) 103 i0 _ 3 24 Try.underlying44 hi0 hz0 hz1 hz2 rfl (by decide) v1 _ _ (by rfl) O1.out (⟨g, (i + 1) * 3, none⟩) (n - i) (cap - (i + 1)) ((s.l.drop (i + 1)).flatMap Ent.cells) (by simp [Act.eval, Act.put]) N2.out (fun j u hu => by rw [Addr.add_lit]; exact (K1.out.cell (p := ⟨g, _, none⟩) hg (by simp; omega)).trans (C2.out j u hu)) (flat_one _) (by unfold maxLen; omega) (by omega) ?_
  intro v2 w2 ho2 hg2 hs2
  refine hK.out _ _ (fun _ => (hg2.cell_far _ (show b < w1.heap.size by omega) (fun e => absurd (show w.heap.size ≤ b from V1.out _ e.symm) (by omega))).trans hHeld) (fun hHeld' => ?_)
  have hHeld := hHeld' (by decide)
  clear hHeld' hK K'
  have k2 : Kp (fun k => w.heap.size ≤ k) w w2 := K1.out.grown hg2 (fun k e => .inl (V1.out k e))
  have v2b : ∀ k, v2.ownBlock = some k → w.heap.size ≤ k := by
    intro k hk
    rcases hs2 with h | h
    · exact V1.out k (h ▸ hk)
    · exact Nat.le_trans hsz1 (h k hk)
  have K2 := Lib.hid k2; have O2 := Lib.hid ho2; have V2 := Lib.hid v2b; have hsz2 := k2.size
  have R2 : RAt w2 b s _ := Blk.kp H.out k2 (by omega)
  have ff := R2.free
  have hb2 := R2.lt
  have R2' := Lib.hid R2
  obtain ⟨a2, c2, hv2⟩ : ∃ ao cap, v2 = .slice ao n cap := by
    rcases ho2.2 with ⟨rfl, h0⟩ | ⟨g', cap', cur, rfl, _⟩
    · exact ⟨none, 0, by rw [show n = 0 by omega]⟩
    · exact ⟨_, _, by rw [Nat.zero_add, show i + (n - i) = n by omega]⟩
  clear R2 k2 ho2 hs2 hg2 v2b K1 O1 V1
  refine wpK_one (i := 17) (by kernel_rfl) rfl (fun K' hK => ?_)
  go_simp
  refine hK.out _ _ (fun h => absurd h (by decide)) (fun _ => ?_)
  clear hK K'
  refine wpK_one (i := 18) (by kernel_rfl) rfl (fun K' hK => ?_)
  go_simp
  refine hK.out _ _ (fun h => absurd h (by decide)) (fun _ => ?_)
  clear hK K'
  refine wpK_one (i := 19) (by kernel_rfl) rfl (fun K' hK => ?_)
  go_simp
  refine hK.out _ _ (fun h => absurd h (by decide)) (fun _ => ?_)
  clear hK K'
  refine wpK_done (by kernel_rfl) ?_ _
  have hin : i + (n - i) = n := by omega
  subst hv2
  have hR : REt w2 (.slice a2 n c2) (s.l.take i ++ s.l.drop (i + 1)) := by
    have o := O2.out
    rw [Nat.zero_add, List.nil_append, hin] at o
    unfold REt
    rw [List.flatMap_append, L12.out, hin]
    exact o
  have hbv : ∀ k, (Value.slice a2 n c2).ownBlock = some k → k ≠ b := fun k hk e => by have := V2.out k hk; omega
  have hev : s.evict i = if s.l.length = 1 then s.forget else { s with l := s.l.take i ++ s.l.drop (i + 1) } := by
    unfold SS.evict
    rw [if_neg (by have := HN.out; omega)]
    simp
  have KK : Kp (fun k => k = b ∨ (Value.slice (some ⟨g, 0, none⟩) s.l.length (cap)).ownBlock = some k) w (w2.setCell ⟨b, 4, none⟩ (.slice a2 n c2)) := by
    refine Kp.setCell (p := ⟨b, 4, none⟩) ?_ (.inl (.inl rfl)) _
    have k2 := K2.out
    exact ⟨k2.os, k2.tape, k2.output, k2.size, fun k hk hn => k2.block k hk (by omega)⟩
  have SA2 : RAt (w2.setCell ⟨b, 4, none⟩ (.slice a2 n c2)) b s (.slice a2 n c2) := RAt.of (Blk.set R2'.out 4 _) rfl
  have EA2 : REt (w2.setCell ⟨b, 4, none⟩ (.slice a2 n c2)) (.slice a2 n c2) (s.l.take i ++ s.l.drop (i + 1)) :=
    hR.kp (Kp.setCell (S := (· = b)) (p := ⟨b, 4, none⟩) (Kp.refl _ _) (.inl rfl) _) (fun g' hg' e => hbv g' hg' e)
  have HEV := Lib.hid hev; have HKK := Lib.hid KK; have HSA := Lib.hid SA2; have HEA := Lib.hid EA2
  clear hev KK SA2 EA2 hR hin K2 O2 R2' h4 hwr
  cases n with
  | zero =>
    go_wp2_with fail
    refine (rforget_any b s _ _ HSA.out).mono ?_
    rintro e w4 ⟨v', rfl, f1, f2, f3, f4⟩
    have F : RSited b s.forget (Value.slice (some ⟨g, 0, none⟩) s.l.length (cap)) w (.returned (.tuple #[])) w4 := by
      refine ⟨v', rfl, f1, f2, ?_, .inr fun g' hg' => ?_⟩
      · have hK := HKK.out
        exact ⟨f3.os.trans hK.os, f3.tape.trans hK.tape, f3.output.trans hK.output, Nat.le_trans hK.size f3.size, fun k hk hn => by
          rw [f3.block k (Nat.lt_of_lt_of_le hk hK.size) (fun h => h.elim (fun e => hn (.inl e)) (fun e => by have := V2.out k e; omega))]
          exact hK.block k hk hn⟩
      · rcases f4 with h | h
        · exact V2.out g' (h ▸ hg')
        · exact Nat.le_trans HKK.out.size (h g' hg')
    have HF := Lib.hid F; clear F f1 f2 f3 f4
    go_wp2
    go_returns
    rw [HEV.out, if_pos HN.out]
    exact HF.out
  | succ m =>
    have hm : ((m : Int) + 1 == 0) = false := by simp; omega
    go_wp2
    go_returns
    rw [HEV.out, if_neg (by have := HN.out; omega)]
    exact ⟨_, rfl, HSA.out, HEA.out, HKK.out, .inr V2.out⟩
end Go.Proofs.Ytcdofhfneiednaa
