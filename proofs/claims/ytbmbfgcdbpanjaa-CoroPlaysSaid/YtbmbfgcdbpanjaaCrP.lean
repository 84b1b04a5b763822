/- The document's book of threads: Create. -/
import Derived.Test.YtbmbfgcdbpanjaaCrO
import Derived.Test.YtbmbfgcdbpanjaaRh
import Derived.Deep.RegionHeld
namespace Go.Proofs.Ytbmbfgcdbpanjaa
set_option linter.unusedSimpArgs false
set_option linter.unusedVariables false
open Go.RowKit

theorem codes_create {B : Bk} (h : BOk B) : codes B.create = codes B ++ [0] := by
  unfold codes
  have hl : B.create.ended.length = B.ended.length + 1 := by simp [Bk.create]
  have hr := run_lt h
  rw [hl, List.range_succ, List.map_append]
  congr 1
  · apply List.map_congr_left
    intro i hi
    rw [List.mem_range] at hi
    rw [code_nat (by omega), code_nat hi]
    have : B.create.ended.getD i false = B.ended.getD i false := by
      simp only [Bk.create, List.getD_eq_getElem?_getD]
      rw [List.getElem?_append_left hi]
    rw [this]
    rfl
  · simp only [List.map_cons, List.map_nil]
    rw [code_nat (by omega)]
    rw [if_neg (by simp [Bk.create, List.getD_eq_getElem?_getD])]
    rw [if_neg (by show ¬ B.ended.length = B.run; omega)]
    rw [if_neg (fun hm => by have := h.lt _ hm; omega)]
theorem by_create {B : Bk} {by' : List Int} (h : ByOk B by') (ok : BOk B) : ByOk B.create (by' ++ [-1]) := by
  refine ⟨by simp [Bk.create, h.len], fun i hi => ?_⟩
  have h1 := h.pre i hi
  have hm : B.wait.getD (i + 1) 0 ∈ B.wait := by
    rw [List.getD_eq_getElem?_getD, List.getElem?_eq_getElem (show i + 1 < B.wait.length from hi)]; exact List.getElem_mem _
  have := ok.lt _ hm
  show (by' ++ [-1])[B.wait.getD (i + 1) 0]? = _
  rw [List.getElem?_append_left (by rw [h.len]; exact this)]
  exact h1

/-- What is known amid the two appends. -/
structure Mid (w : World) (c : Nat) (F : Nat → Prop) (ul ub vl vb : Value) (nl nb : Nat) (xl xb : List Value) (wq : World) : Prop where
  kp : Kp F w wq
  blk : Blk wq c 45 #[ul, ub]
  r1 : wq.ownsRow 0 3 1 vl nl xl
  r2 : wq.ownsRow 0 3 1 vb nb xb
  ne : ∀ k, vl.ownBlock = some k → vb.ownBlock ≠ some k
  f1 : ∀ k, vl.ownBlock = some k → F k ∨ w.heap.size ≤ k
  f2 : ∀ k, vb.ownBlock = some k → F k ∨ w.heap.size ≤ k
section
variable {w : World} {c : Nat} {F : Nat → Prop} {ul ub vl vb : Value} {nl nb : Nat} {xl xb : List Value} {wq wn : World}
theorem Mid.kp0 (h : Mid w c F ul ub vl vb nl nb xl xb wq) (k : Kp (fun _ => False) wq wn) : Mid w c F ul ub vl vb nl nb xl xb wn :=
  ⟨h.kp.trans (k.mono (fun _ _ h => h.elim)), Blk.kp h.blk k (fun h => h), row_kp h.r1 k (fun _ _ h => h), row_kp h.r2 k (fun _ _ h => h), h.ne, h.f1, h.f2⟩
theorem Mid.n1 (h : Mid w c F ul ub vl vb nl nb xl xb wq) : vl.ownBlock ≠ some c := row_ne h.r1 h.blk (by decide)
theorem Mid.n2 (h : Mid w c F ul ub vl vb nl nb xl xb wq) : vb.ownBlock ≠ some c := row_ne h.r2 h.blk (by decide)
theorem kpf {v : Value} (hf : ∀ k, v.ownBlock = some k → F k ∨ w.heap.size ≤ k) (h : Kp F w wq) (k : Kp (fun k => v.ownBlock = some k) wq wn) : Kp F w wn :=
  ⟨k.os.trans h.os, k.tape.trans h.tape, k.output.trans h.output, Nat.le_trans h.size k.size, fun i hi hn =>
    have hne : ¬ v.ownBlock = some i := fun e => (hf i e).elim hn (fun h => by omega)
    (k.block i (Nat.lt_of_lt_of_le hi h.size) hne).trans (h.block i hi hn)⟩
theorem Mid.app1 (h : Mid w c F ul ub vl vb nl nb xl xb wq) {g cap n' : Nat} {x' : List Value} (hg : wq.grownBy wn vl.ownBlock) (ho : wn.ownsRow 0 3 1 (.slice (some ⟨g, 0, none⟩) n' cap) n' x') (hat : vl.ownBlock = some g ∨ g = wq.heap.size) :
    Mid w c F ul ub (.slice (some ⟨g, 0, none⟩) n' cap) vb n' nb x' xb wn ∧ Kp (fun k => vl.ownBlock = some k) wq wn := by
  have k : Kp (fun k => vl.ownBlock = some k) wq wn := (Kp.refl _ _).grown hg (fun k e => .inl e)
  refine ⟨⟨kpf h.f1 h.kp k, Blk.kp h.blk k h.n1, ho, row_kp h.r2 k (fun g' hg' e => h.ne g' e hg'), ?_, ?_, h.f2⟩, k⟩
  · intro k' hk' e
    simp [Value.ownBlock] at hk'
    subst hk'
    rcases hat with h' | h'
    · exact h.ne _ h' e
    · have := (h.r2.lt _ e).2; omega
  · intro k' hk'
    simp [Value.ownBlock] at hk'
    subst hk'
    rcases hat with h' | h'
    · exact h.f1 _ h'
    · exact .inr (by have := h.kp.size; omega)
theorem Mid.app2 (h : Mid w c F ul ub vl vb nl nb xl xb wq) {g cap n' : Nat} {x' : List Value} (hg : wq.grownBy wn vb.ownBlock) (ho : wn.ownsRow 0 3 1 (.slice (some ⟨g, 0, none⟩) n' cap) n' x') (hat : vb.ownBlock = some g ∨ g = wq.heap.size) :
    Mid w c F ul ub vl (.slice (some ⟨g, 0, none⟩) n' cap) nl n' xl x' wn ∧ Kp (fun k => vb.ownBlock = some k) wq wn := by
  have k : Kp (fun k => vb.ownBlock = some k) wq wn := (Kp.refl _ _).grown hg (fun k e => .inl e)
  refine ⟨⟨kpf h.f2 h.kp k, Blk.kp h.blk k h.n2, row_kp h.r1 k (fun g' hg' e => h.ne g' hg' e), ho, ?_, h.f1, ?_⟩, k⟩
  · intro k' hk' e
    simp [Value.ownBlock] at e
    subst e
    rcases hat with h' | h'
    · exact h.ne _ hk' h'
    · have := (h.r1.lt _ hk').2; omega
  · intro k' hk'
    simp [Value.ownBlock] at hk'
    subst hk'
    rcases hat with h' | h'
    · exact h.f2 _ h'
    · exact .inr (by have := h.kp.size; omega)
end

/-- What a step of the document's book leaves. -/
def RThenB (b : Nat) (B' : Bk) (F : Nat → Prop) (w w' : World) : Prop := ∃ F', RBook w' b B' F' ∧ Kp F w w' ∧ ∀ k, F' k → F k ∨ w.heap.size ≤ k

set_option maxRecDepth 100000 in
set_option maxHeartbeats 2000000 in
theorem rcreate_book (c : Nat) (B : Bk) (F : Nat → Prop) (w : World) (h : RBook w c B F) (hs : B.ended.length < 100000) :
    Calls Try.prog 28 #[.pointer (some ⟨c, 0, none⟩)] w fun e w' => e = .returned (.int .i64 B.ended.length) ∧ RThenB c B.create F w w' := by
  obtain ⟨i0, hi, hz0, hz1, hz2⟩ := info_parts info3
  obtain ⟨vl, vb, by', h1, h2, h3, h4, h5, h6, h7, h8, h9⟩ := h
  have hok := ok_create h6 hs
  have hcc := codes_create h6
  have hbb := by_create h5 h6
  have hb := h1.lt
  have d0 := h1.cell 0 vl rfl
  have d1 := h1.cell 1 vb rfl
  have m0 : Mid w c F vl vb vl vb B.ended.length B.ended.length (ints (codes B)) (ints by') w.drew := ⟨(Kp.refl _ _).drew, h1.drew, h2, h3, h4, fun k hk => .inl (h8 k hk), fun k hk => .inl (h9 k hk)⟩
  have HOK := Lib.hid hok; have HCC := Lib.hid hcc; have HBB := Lib.hid hbb; have M := Lib.hid m0
  clear h1 h2 h3 h4 h5 h6 h8 h9 hok hcc hbb m0
  have hcq : c < w.drew.heap.size := hb
  go_enter Try.func28, Try.ntmps28
  go_wp2_with fail
  refine wp_region_D (S := fun w' => w'.cell? ⟨c, 0, none⟩ = some vl ∧ w'.cell? ⟨c, 1, none⟩ = some vb) (D := fun i => [5, 6, 7, 11, 12, 13].contains i) (by kernel_rfl) ?_
  have hHeld : (fun w' => w'.cell? ⟨c, 0, none⟩ = some vl ∧ w'.cell? ⟨c, 1, none⟩ = some vb) (World.drew _) := ⟨d0, d1⟩
  generalize hwq : World.drew w = wq at hHeld hcq M ⊢
  clear hwq d0 d1
  refine wpD_free (i := 0) (v := ?_) rfl (by kernel_rfl) (fun _ _ _ h => h) (Or.inl ⟨by kernel_rfl, ?_⟩) ?_
  rotate_left
  · intro w hSw; (try dsimp only at hSw); go_simp; (try with_reducible rfl)
  simp only [Act.put, List.setIfInBounds_toArray, List.set_cons_zero, List.set_cons_succ]
  refine wpD_free (i := 1) (v := ?_) rfl (by kernel_rfl) (fun _ _ _ h => h) (Or.inl ⟨by kernel_rfl, ?_⟩) ?_
  rotate_left
  · intro w hSw; (try dsimp only at hSw); go_simp; (try with_reducible rfl)
  simp only [Act.put, List.setIfInBounds_toArray, List.set_cons_zero, List.set_cons_succ]
  refine wpD_free (i := 2) (v := ?_) rfl (by kernel_rfl) (fun _ _ _ h => h) (Or.inl ⟨by kernel_rfl, ?_⟩) ?_
  rotate_left
  · intro w hSw; (try dsimp only at hSw); go_simp; (try with_reducible rfl)
  simp only [Act.put, List.setIfInBounds_toArray, List.set_cons_zero, List.set_cons_succ]
  refine wpD_free (i := 3) (v := ?_) rfl (by kernel_rfl) (fun _ _ _ h => h) (Or.inl ⟨by kernel_rfl, ?_⟩) ?_
  rotate_left
  · intro w hSw; (try dsimp only at hSw); go_simp; (try with_reducible rfl)
  simp only [Act.put, List.setIfInBounds_toArray, List.set_cons_zero, List.set_cons_succ]
  refine wpD_free (i := 4) (v := ?_) rfl (by kernel_rfl) (fun _ _ _ h => h) (Or.inl ⟨by kernel_rfl, ?_⟩) ?_
  rotate_left
  · intro w hSw; (try dsimp only at hSw); go_simp; (try with_reducible rfl)
  simp only [Act.put, List.setIfInBounds_toArray, List.set_cons_zero, List.set_cons_succ]
  refine wpD_free (i := 8) (v := ?_) rfl (by kernel_rfl) (fun _ _ _ h => h) (Or.inl ⟨by kernel_rfl, ?_⟩) ?_
  rotate_left
  · intro w hSw; (try dsimp only at hSw); go_simp; (try with_reducible rfl)
  simp only [Act.put, List.setIfInBounds_toArray, List.set_cons_zero, List.set_cons_succ]
  refine wpD_free (i := 9) (v := ?_) rfl (by kernel_rfl) (fun _ _ _ h => h) (Or.inl ⟨by kernel_rfl, ?_⟩) ?_
  rotate_left
  · intro w hSw; (try dsimp only at hSw); go_simp; (try with_reducible rfl)
  simp only [Act.put, List.setIfInBounds_toArray, List.set_cons_zero, List.set_cons_succ]
  refine wpD_free (i := 10) (v := ?_) rfl (by kernel_rfl) (fun _ _ _ h => h) (Or.inl ⟨by kernel_rfl, ?_⟩) ?_
  rotate_left
  · intro w hSw; (try dsimp only at hSw); go_simp; (try with_reducible rfl)
  simp only [Act.put, List.setIfInBounds_toArray, List.set_cons_zero, List.set_cons_succ]
  refine wpD_take (i := 5) (v := ?_) rfl (by kernel_rfl) (fun _ _ _ h => h) (Or.inl ⟨by kernel_rfl, ?_⟩) hHeld ?_
  rotate_left
  · intro w hSw; (try dsimp only at hSw); go_simp; (try with_reducible rfl)
  simp only [Act.put, List.setIfInBounds_toArray, List.set_cons_zero, List.set_cons_succ]
  refine wpD_take (i := 11) (v := ?_) rfl (by kernel_rfl) (fun _ _ _ h => h) (Or.inl ⟨by kernel_rfl, ?_⟩) hHeld ?_
  rotate_left
  · intro w hSw; (try dsimp only at hSw); go_simp; (try with_reducible rfl)
  simp only [Act.put, List.setIfInBounds_toArray, List.set_cons_zero, List.set_cons_succ]
  refine wpD_two (i := 6) (j := 12) (by kernel_rfl) rfl rfl (fun K' hK => ?_) (fun K' hK => ?_)
  focus
    go_simp
    refine hK.out _ _ (fun _ => ⟨(((Kp.refl (fun _ => False) wq).alloc _).cell (p := ⟨c, 0, none⟩) hcq (fun h => h)).trans hHeld.1, (((Kp.refl (fun _ => False) wq).alloc _).cell (p := ⟨c, 1, none⟩) hcq (fun h => h)).trans hHeld.2⟩) (fun hHeld' => ?_)
    have hHeld := hHeld' (by decide)
    clear hHeld' hK K'
    have kn := ((Kp.refl (fun _ => False) wq).alloc (.cells #[.int .i64 0] 3))
    have hz6 : Blk (wq.alloc (.cells #[.int .i64 0] 3)) wq.heap.size 3 #[.int .i64 0] := Blk.new rfl
    replace M := Lib.hid (M.out.kp0 kn)
    try replace Z12 := Lib.hid (Blk.kp Z12.out kn (fun h => h))
    replace hcq := Nat.lt_of_lt_of_le hcq kn.size
    generalize wq.heap.size = z6 at *
    clear kn
    generalize (wq.alloc (.cells #[.int .i64 0] 3)) = wq at *
    have Z6 := Lib.hid hz6; clear hz6
    refine wpD_two (i := 7) (j := 12) (by kernel_rfl) rfl rfl (fun K' hK => ?_) (fun K' hK => ?_)
    focus
      refine step_append_lies _ (by rfl) _ _ _ (by rfl) 0 3 i0 (.int .i64 0) 1 8 Try.underlying43 hi hz0 hz1 hz2 rfl (by omega) vl B.ended.length (ints (codes B)) (by rfl) M.out.r1 ⟨z6, 0, none⟩ 1 1 [.int .i64 0] (by rfl) (by rfl) (World.news_of_block (cs := #[.int .i64 0]) (t := 3) (fr := (0, 0)) Z6.out) (by simp [Value.oneCell']) (by omega) (by unfold maxLen; omega) (by omega) (by omega) _ rfl ?_
      intro g cap w2 hown hgrow hat hlt
      obtain ⟨M2, k7⟩ := M.out.app1 hgrow hown hat
      refine hK.out _ _ (fun _ => ⟨(k7.cell (p := ⟨c, 0, none⟩) hcq M.out.n1).trans hHeld.1, (k7.cell (p := ⟨c, 1, none⟩) hcq M.out.n1).trans hHeld.2⟩) (fun hHeld' => ?_)
      have hHeld := hHeld' (by decide)
      clear hHeld' hK K'
      try replace Z12 := Lib.hid (Blk.kp Z12.out k7 (fun h => hz12ne _ h rfl))
      replace hcq := Nat.lt_of_lt_of_le hcq k7.size
      replace M := Lib.hid M2
      clear M2 hown hgrow hat hlt k7
      generalize w2 = wq at *
      refine wpD_one (i := 12) (by kernel_rfl) rfl (fun K' hK => ?_)
      go_simp
      refine hK.out _ _ (fun _ => ⟨(((Kp.refl (fun _ => False) wq).alloc _).cell (p := ⟨c, 0, none⟩) hcq (fun h => h)).trans hHeld.1, (((Kp.refl (fun _ => False) wq).alloc _).cell (p := ⟨c, 1, none⟩) hcq (fun h => h)).trans hHeld.2⟩) (fun hHeld' => ?_)
      have hHeld := hHeld' (by decide)
      clear hHeld' hK K'
      have kn := ((Kp.refl (fun _ => False) wq).alloc (.cells #[.int .i64 (-1)] 3))
      have hz12 : Blk (wq.alloc (.cells #[.int .i64 (-1)] 3)) wq.heap.size 3 #[.int .i64 (-1)] := Blk.new rfl
      try (have hz12ne : ∀ k, Value.ownBlock vl = some k → k ≠ wq.heap.size := fun k hk e => by have := (M.out.r1.lt k hk).2; omega)
      replace M := Lib.hid (M.out.kp0 kn)
      try replace Z6 := Lib.hid (Blk.kp Z6.out kn (fun h => h))
      replace hcq := Nat.lt_of_lt_of_le hcq kn.size
      generalize wq.heap.size = z12 at *
      clear kn
      generalize (wq.alloc (.cells #[.int .i64 (-1)] 3)) = wq at *
      have Z12 := Lib.hid hz12; clear hz12
      refine wpD_one (i := 13) (by kernel_rfl) rfl (fun K' hK => ?_)
      refine step_append_lies _ (by rfl) _ _ _ (by rfl) 0 3 i0 (.int .i64 0) 1 8 Try.underlying43 hi hz0 hz1 hz2 rfl (by omega) vb B.ended.length (ints by') (by rfl) M.out.r2 ⟨z12, 0, none⟩ 1 1 [.int .i64 (-1)] (by rfl) (by rfl) (World.news_of_block (cs := #[.int .i64 (-1)]) (t := 3) (fr := (0, 0)) Z12.out) (by simp [Value.oneCell']) (by omega) (by unfold maxLen; omega) (by omega) (by omega) _ rfl ?_
      intro g' cap' w2 hown hgrow hat hlt
      obtain ⟨M2, k7⟩ := M.out.app2 hgrow hown hat
      refine hK.out _ _ (fun _ => ⟨(k7.cell (p := ⟨c, 0, none⟩) hcq M.out.n2).trans hHeld.1, (k7.cell (p := ⟨c, 1, none⟩) hcq M.out.n2).trans hHeld.2⟩) (fun hHeld' => ?_)
      have hHeld := hHeld' (by decide)
      clear hHeld' hK K'
      replace hcq := Nat.lt_of_lt_of_le hcq k7.size
      replace M := Lib.hid M2
      clear M2 hown hgrow hat hlt k7
      generalize w2 = wq at *
      have yf := M.out.blk.free
      have y0 := M.out.blk.cell 0 vl rfl
      have y1 := M.out.blk.cell 1 vb rfl
      refine wpD_free (i := 14) (v := ?_) rfl (by kernel_rfl) (fun _ _ _ h => h) (Or.inl ⟨by kernel_rfl, ?_⟩) ?_
      rotate_left
      · intro w hSw; (try dsimp only at hSw); go_simp; (try with_reducible rfl)
      simp only [Act.put, List.setIfInBounds_toArray, List.set_cons_zero, List.set_cons_succ]
      refine wpD_free (i := 15) (v := ?_) rfl (by kernel_rfl) (fun _ _ _ h => h) (Or.inl ⟨by kernel_rfl, ?_⟩) ?_
      rotate_left
      · intro w hSw; (try dsimp only at hSw); go_simp; (try with_reducible rfl)
      simp only [Act.put, List.setIfInBounds_toArray, List.set_cons_zero, List.set_cons_succ]
      refine wpD_one (i := 16) (by kernel_rfl) rfl (fun K' hK => ?_)
      go_simp
      refine hK.out _ _ (fun h => absurd h (by decide)) (fun _ => ?_)
      clear hK K'
      refine wpD_free (i := 17) (v := ?_) rfl (by kernel_rfl) (fun _ _ _ h => h) (Or.inl ⟨by kernel_rfl, ?_⟩) ?_
      rotate_left
      · intro w hSw; (try dsimp only at hSw); go_simp; (try with_reducible rfl)
      simp only [Act.put, List.setIfInBounds_toArray, List.set_cons_zero, List.set_cons_succ]
      refine wpD_free (i := 18) (v := ?_) rfl (by kernel_rfl) (fun _ _ _ h => h) (Or.inl ⟨by kernel_rfl, ?_⟩) ?_
      rotate_left
      · intro w hSw; (try dsimp only at hSw); go_simp; (try with_reducible rfl)
      simp only [Act.put, List.setIfInBounds_toArray, List.set_cons_zero, List.set_cons_succ]
      refine wpD_one (i := 19) (by kernel_rfl) rfl (fun K' hK => ?_)
      go_simp
      refine hK.out _ _ (fun h => absurd h (by decide)) (fun _ => ?_)
      clear hK K'
      refine wpD_done (by kernel_rfl) ?_ _
    rotate_left
    focus
      go_simp
      refine hK.out _ _ (fun _ => ⟨(((Kp.refl (fun _ => False) wq).alloc _).cell (p := ⟨c, 0, none⟩) hcq (fun h => h)).trans hHeld.1, (((Kp.refl (fun _ => False) wq).alloc _).cell (p := ⟨c, 1, none⟩) hcq (fun h => h)).trans hHeld.2⟩) (fun hHeld' => ?_)
      have hHeld := hHeld' (by decide)
      clear hHeld' hK K'
      have kn := ((Kp.refl (fun _ => False) wq).alloc (.cells #[.int .i64 (-1)] 3))
      have hz12 : Blk (wq.alloc (.cells #[.int .i64 (-1)] 3)) wq.heap.size 3 #[.int .i64 (-1)] := Blk.new rfl
      try (have hz12ne : ∀ k, Value.ownBlock vl = some k → k ≠ wq.heap.size := fun k hk e => by have := (M.out.r1.lt k hk).2; omega)
      replace M := Lib.hid (M.out.kp0 kn)
      try replace Z6 := Lib.hid (Blk.kp Z6.out kn (fun h => h))
      replace hcq := Nat.lt_of_lt_of_le hcq kn.size
      generalize wq.heap.size = z12 at *
      clear kn
      generalize (wq.alloc (.cells #[.int .i64 (-1)] 3)) = wq at *
      have Z12 := Lib.hid hz12; clear hz12
      refine wpD_one (i := 7) (by kernel_rfl) rfl (fun K' hK => ?_)
      refine step_append_lies _ (by rfl) _ _ _ (by rfl) 0 3 i0 (.int .i64 0) 1 8 Try.underlying43 hi hz0 hz1 hz2 rfl (by omega) vl B.ended.length (ints (codes B)) (by rfl) M.out.r1 ⟨z6, 0, none⟩ 1 1 [.int .i64 0] (by rfl) (by rfl) (World.news_of_block (cs := #[.int .i64 0]) (t := 3) (fr := (0, 0)) Z6.out) (by simp [Value.oneCell']) (by omega) (by unfold maxLen; omega) (by omega) (by omega) _ rfl ?_
      intro g cap w2 hown hgrow hat hlt
      obtain ⟨M2, k7⟩ := M.out.app1 hgrow hown hat
      refine hK.out _ _ (fun _ => ⟨(k7.cell (p := ⟨c, 0, none⟩) hcq M.out.n1).trans hHeld.1, (k7.cell (p := ⟨c, 1, none⟩) hcq M.out.n1).trans hHeld.2⟩) (fun hHeld' => ?_)
      have hHeld := hHeld' (by decide)
      clear hHeld' hK K'
      try replace Z12 := Lib.hid (Blk.kp Z12.out k7 (fun h => hz12ne _ h rfl))
      replace hcq := Nat.lt_of_lt_of_le hcq k7.size
      replace M := Lib.hid M2
      clear M2 hown hgrow hat hlt k7
      generalize w2 = wq at *
      refine wpD_one (i := 13) (by kernel_rfl) rfl (fun K' hK => ?_)
      refine step_append_lies _ (by rfl) _ _ _ (by rfl) 0 3 i0 (.int .i64 0) 1 8 Try.underlying43 hi hz0 hz1 hz2 rfl (by omega) vb B.ended.length (ints by') (by rfl) M.out.r2 ⟨z12, 0, none⟩ 1 1 [.int .i64 (-1)] (by rfl) (by rfl) (World.news_of_block (cs := #[.int .i64 (-1)]) (t := 3) (fr := (0, 0)) Z12.out) (by simp [Value.oneCell']) (by omega) (by unfold maxLen; omega) (by omega) (by omega) _ rfl ?_
      intro g' cap' w2 hown hgrow hat hlt
      obtain ⟨M2, k7⟩ := M.out.app2 hgrow hown hat
      refine hK.out _ _ (fun _ => ⟨(k7.cell (p := ⟨c, 0, none⟩) hcq M.out.n2).trans hHeld.1, (k7.cell (p := ⟨c, 1, none⟩) hcq M.out.n2).trans hHeld.2⟩) (fun hHeld' => ?_)
      have hHeld := hHeld' (by decide)
      clear hHeld' hK K'
      replace hcq := Nat.lt_of_lt_of_le hcq k7.size
      replace M := Lib.hid M2
      clear M2 hown hgrow hat hlt k7
      generalize w2 = wq at *
      have yf := M.out.blk.free
      have y0 := M.out.blk.cell 0 vl rfl
      have y1 := M.out.blk.cell 1 vb rfl
      refine wpD_free (i := 14) (v := ?_) rfl (by kernel_rfl) (fun _ _ _ h => h) (Or.inl ⟨by kernel_rfl, ?_⟩) ?_
      rotate_left
      · intro w hSw; (try dsimp only at hSw); go_simp; (try with_reducible rfl)
      simp only [Act.put, List.setIfInBounds_toArray, List.set_cons_zero, List.set_cons_succ]
      refine wpD_free (i := 15) (v := ?_) rfl (by kernel_rfl) (fun _ _ _ h => h) (Or.inl ⟨by kernel_rfl, ?_⟩) ?_
      rotate_left
      · intro w hSw; (try dsimp only at hSw); go_simp; (try with_reducible rfl)
      simp only [Act.put, List.setIfInBounds_toArray, List.set_cons_zero, List.set_cons_succ]
      refine wpD_one (i := 16) (by kernel_rfl) rfl (fun K' hK => ?_)
      go_simp
      refine hK.out _ _ (fun h => absurd h (by decide)) (fun _ => ?_)
      clear hK K'
      refine wpD_free (i := 17) (v := ?_) rfl (by kernel_rfl) (fun _ _ _ h => h) (Or.inl ⟨by kernel_rfl, ?_⟩) ?_
      rotate_left
      · intro w hSw; (try dsimp only at hSw); go_simp; (try with_reducible rfl)
      simp only [Act.put, List.setIfInBounds_toArray, List.set_cons_zero, List.set_cons_succ]
      refine wpD_free (i := 18) (v := ?_) rfl (by kernel_rfl) (fun _ _ _ h => h) (Or.inl ⟨by kernel_rfl, ?_⟩) ?_
      rotate_left
      · intro w hSw; (try dsimp only at hSw); go_simp; (try with_reducible rfl)
      simp only [Act.put, List.setIfInBounds_toArray, List.set_cons_zero, List.set_cons_succ]
      refine wpD_one (i := 19) (by kernel_rfl) rfl (fun K' hK => ?_)
      go_simp
      refine hK.out _ _ (fun h => absurd h (by decide)) (fun _ => ?_)
      clear hK K'
      refine wpD_done (by kernel_rfl) ?_ _
    rotate_left
  rotate_left 2
  focus
    go_simp
    refine hK.out _ _ (fun _ => ⟨(((Kp.refl (fun _ => False) wq).alloc _).cell (p := ⟨c, 0, none⟩) hcq (fun h => h)).trans hHeld.1, (((Kp.refl (fun _ => False) wq).alloc _).cell (p := ⟨c, 1, none⟩) hcq (fun h => h)).trans hHeld.2⟩) (fun hHeld' => ?_)
    have hHeld := hHeld' (by decide)
    clear hHeld' hK K'
    have kn := ((Kp.refl (fun _ => False) wq).alloc (.cells #[.int .i64 (-1)] 3))
    have hz12 : Blk (wq.alloc (.cells #[.int .i64 (-1)] 3)) wq.heap.size 3 #[.int .i64 (-1)] := Blk.new rfl
    try (have hz12ne : ∀ k, Value.ownBlock vl = some k → k ≠ wq.heap.size := fun k hk e => by have := (M.out.r1.lt k hk).2; omega)
    replace M := Lib.hid (M.out.kp0 kn)
    try replace Z6 := Lib.hid (Blk.kp Z6.out kn (fun h => h))
    replace hcq := Nat.lt_of_lt_of_le hcq kn.size
    generalize wq.heap.size = z12 at *
    clear kn
    generalize (wq.alloc (.cells #[.int .i64 (-1)] 3)) = wq at *
    have Z12 := Lib.hid hz12; clear hz12
    refine wpD_one (i := 6) (by kernel_rfl) rfl (fun K' hK => ?_)
    go_simp
    refine hK.out _ _ (fun _ => ⟨(((Kp.refl (fun _ => False) wq).alloc _).cell (p := ⟨c, 0, none⟩) hcq (fun h => h)).trans hHeld.1, (((Kp.refl (fun _ => False) wq).alloc _).cell (p := ⟨c, 1, none⟩) hcq (fun h => h)).trans hHeld.2⟩) (fun hHeld' => ?_)
    have hHeld := hHeld' (by decide)
    clear hHeld' hK K'
    have kn := ((Kp.refl (fun _ => False) wq).alloc (.cells #[.int .i64 0] 3))
    have hz6 : Blk (wq.alloc (.cells #[.int .i64 0] 3)) wq.heap.size 3 #[.int .i64 0] := Blk.new rfl
    replace M := Lib.hid (M.out.kp0 kn)
    try replace Z12 := Lib.hid (Blk.kp Z12.out kn (fun h => h))
    replace hcq := Nat.lt_of_lt_of_le hcq kn.size
    generalize wq.heap.size = z6 at *
    clear kn
    generalize (wq.alloc (.cells #[.int .i64 0] 3)) = wq at *
    have Z6 := Lib.hid hz6; clear hz6
    refine wpD_one (i := 7) (by kernel_rfl) rfl (fun K' hK => ?_)
    refine step_append_lies _ (by rfl) _ _ _ (by rfl) 0 3 i0 (.int .i64 0) 1 8 Try.underlying43 hi hz0 hz1 hz2 rfl (by omega) vl B.ended.length (ints (codes B)) (by rfl) M.out.r1 ⟨z6, 0, none⟩ 1 1 [.int .i64 0] (by rfl) (by rfl) (World.news_of_block (cs := #[.int .i64 0]) (t := 3) (fr := (0, 0)) Z6.out) (by simp [Value.oneCell']) (by omega) (by unfold maxLen; omega) (by omega) (by omega) _ rfl ?_
    intro g cap w2 hown hgrow hat hlt
    obtain ⟨M2, k7⟩ := M.out.app1 hgrow hown hat
    refine hK.out _ _ (fun _ => ⟨(k7.cell (p := ⟨c, 0, none⟩) hcq M.out.n1).trans hHeld.1, (k7.cell (p := ⟨c, 1, none⟩) hcq M.out.n1).trans hHeld.2⟩) (fun hHeld' => ?_)
    have hHeld := hHeld' (by decide)
    clear hHeld' hK K'
    try replace Z12 := Lib.hid (Blk.kp Z12.out k7 (fun h => hz12ne _ h rfl))
    replace hcq := Nat.lt_of_lt_of_le hcq k7.size
    replace M := Lib.hid M2
    clear M2 hown hgrow hat hlt k7
    generalize w2 = wq at *
    refine wpD_one (i := 13) (by kernel_rfl) rfl (fun K' hK => ?_)
    refine step_append_lies _ (by rfl) _ _ _ (by rfl) 0 3 i0 (.int .i64 0) 1 8 Try.underlying43 hi hz0 hz1 hz2 rfl (by omega) vb B.ended.length (ints by') (by rfl) M.out.r2 ⟨z12, 0, none⟩ 1 1 [.int .i64 (-1)] (by rfl) (by rfl) (World.news_of_block (cs := #[.int .i64 (-1)]) (t := 3) (fr := (0, 0)) Z12.out) (by simp [Value.oneCell']) (by omega) (by unfold maxLen; omega) (by omega) (by omega) _ rfl ?_
    intro g' cap' w2 hown hgrow hat hlt
    obtain ⟨M2, k7⟩ := M.out.app2 hgrow hown hat
    refine hK.out _ _ (fun _ => ⟨(k7.cell (p := ⟨c, 0, none⟩) hcq M.out.n2).trans hHeld.1, (k7.cell (p := ⟨c, 1, none⟩) hcq M.out.n2).trans hHeld.2⟩) (fun hHeld' => ?_)
    have hHeld := hHeld' (by decide)
    clear hHeld' hK K'
    replace hcq := Nat.lt_of_lt_of_le hcq k7.size
    replace M := Lib.hid M2
    clear M2 hown hgrow hat hlt k7
    generalize w2 = wq at *
    have yf := M.out.blk.free
    have y0 := M.out.blk.cell 0 vl rfl
    have y1 := M.out.blk.cell 1 vb rfl
    refine wpD_free (i := 14) (v := ?_) rfl (by kernel_rfl) (fun _ _ _ h => h) (Or.inl ⟨by kernel_rfl, ?_⟩) ?_
    rotate_left
    · intro w hSw; (try dsimp only at hSw); go_simp; (try with_reducible rfl)
    simp only [Act.put, List.setIfInBounds_toArray, List.set_cons_zero, List.set_cons_succ]
    refine wpD_free (i := 15) (v := ?_) rfl (by kernel_rfl) (fun _ _ _ h => h) (Or.inl ⟨by kernel_rfl, ?_⟩) ?_
    rotate_left
    · intro w hSw; (try dsimp only at hSw); go_simp; (try with_reducible rfl)
    simp only [Act.put, List.setIfInBounds_toArray, List.set_cons_zero, List.set_cons_succ]
    refine wpD_one (i := 16) (by kernel_rfl) rfl (fun K' hK => ?_)
    go_simp
    refine hK.out _ _ (fun h => absurd h (by decide)) (fun _ => ?_)
    clear hK K'
    refine wpD_free (i := 17) (v := ?_) rfl (by kernel_rfl) (fun _ _ _ h => h) (Or.inl ⟨by kernel_rfl, ?_⟩) ?_
    rotate_left
    · intro w hSw; (try dsimp only at hSw); go_simp; (try with_reducible rfl)
    simp only [Act.put, List.setIfInBounds_toArray, List.set_cons_zero, List.set_cons_succ]
    refine wpD_free (i := 18) (v := ?_) rfl (by kernel_rfl) (fun _ _ _ h => h) (Or.inl ⟨by kernel_rfl, ?_⟩) ?_
    rotate_left
    · intro w hSw; (try dsimp only at hSw); go_simp; (try with_reducible rfl)
    simp only [Act.put, List.setIfInBounds_toArray, List.set_cons_zero, List.set_cons_succ]
    refine wpD_one (i := 19) (by kernel_rfl) rfl (fun K' hK => ?_)
    go_simp
    refine hK.out _ _ (fun h => absurd h (by decide)) (fun _ => ?_)
    clear hK K'
    refine wpD_done (by kernel_rfl) ?_ _
  rotate_left
  all_goals
    clear hHeld Z6 Z12
    go_wp2
    go_returns
    have k2 : Kp (· = c) wq ((wq.setCell ⟨c, 0, none⟩ (.slice (some ⟨g, 0, none⟩) (B.ended.length + 1) cap)).setCell ⟨c, 1, none⟩ (.slice (some ⟨g', 0, none⟩) (B.ended.length + 1) cap')) := (kp_set wq c 0 _).trans (kp_set _ c 1 _)
    refine ⟨ret_int (by omega), fun k => F k ∨ w.heap.size ≤ k, ⟨.slice (some ⟨g, 0, none⟩) (B.ended.length + 1) cap, .slice (some ⟨g', 0, none⟩) (B.ended.length + 1) cap', by' ++ [-1], (M.out.blk.set 0 _).set 1 _, ?_, ?_, M.out.ne, HBB.out, HOK.out, .inl h7, M.out.f1, M.out.f2⟩, ?_, fun _ h => h⟩
    · have hx := row_kp M.out.r1 k2 (fun k hk e => M.out.n1 (e ▸ hk))
      rw [HCC.out]
      have hl : B.create.ended.length = B.ended.length + 1 := by simp [Bk.create]
      rw [hl]
      unfold ints at hx ⊢
      rw [List.map_append]
      exact hx
    · have hx := row_kp M.out.r2 k2 (fun k hk e => M.out.n2 (e ▸ hk))
      have hl : B.create.ended.length = B.ended.length + 1 := by simp [Bk.create]
      rw [hl]
      unfold ints at hx ⊢
      rw [List.map_append]
      exact hx
    · exact M.out.kp.trans' k2 (fun k _ e => by have e' : k = c := e; exact e' ▸ h7)
end Go.Proofs.Ytbmbfgcdbpanjaa
