/- selkielaw20.CoroReturns: the walk. -/
import Derived.Test.YtbmbfgcdbpanjaaCrJ
import Derived.Deep.DeepCutAuto
import Derived.Deep.LoopGhost
namespace Go.Proofs.Ytbmbfgcdbpanjaa
set_option linter.unusedSimpArgs false
set_option linter.unusedVariables false
open Go.RowKit

theorem act_refused {B : Bk} {o : Cop} (h : ¬ B.ansE o = 0) : (B.act o).wait = B.wait := by
  unfold Bk.ansE at h
  unfold Bk.act
  split
  · rfl
  split
  · rename_i h2
    rw [if_pos h2] at h
    unfold Bk.resume
    rw [if_neg (fun e => h (by rw [e]; rfl))]
  rename_i h1 h2
  rw [if_neg h2] at h
  have hb : ∀ p, o.k = 3 ∨ o.k = 4 → B.wait.length = 1 ∨ p := fun p hk => by
    rw [if_pos hk] at h
    unfold bkE at h
    by_cases e : B.wait.length = 1
    · exact .inl e
    · rw [if_neg e] at h; exact absurd rfl h
  split
  · rename_i h3
    have := (hb False (.inl h3)).resolve_right id
    unfold Bk.back; rw [if_pos this]
  split
  · rename_i h4
    have := (hb False (.inr h4)).resolve_right id
    unfold Bk.finish; rw [if_pos this]
  split
  · unfold Bk.close; split <;> rfl
  · rfl
theorem act_resumed {B : Bk} {a : Int} (h : B.ansE ⟨2, a⟩ = 0) : ∃ n : Nat, a = n ∧ (B.act ⟨2, a⟩).wait = B.wait ++ [n] := by
  have hc : B.code a = 0 := by
    unfold Bk.ansE at h
    simp only [if_true] at h
    unfold resE at h
    rcases code_cases B a with hc | hc | hc | hc | hc <;> rw [hc] at h <;> first | exact hc | simp at h
  obtain ⟨n, rfl, _⟩ := code_zero hc
  refine ⟨n, rfl, ?_⟩
  unfold Bk.act Bk.resume
  simp [hc]
theorem act_backed {B : Bk} {o : Cop} (hk : o.k = 3 ∨ o.k = 4) (h : B.ansE o = 0) : ¬ B.wait.length = 1 ∧ (B.act o).wait = B.wait.dropLast := by
  have h1 : ¬ B.wait.length = 1 := by
    unfold Bk.ansE at h
    rw [if_neg (by omega), if_pos hk] at h
    unfold bkE at h
    intro e
    rw [if_pos e] at h
    cases h
  refine ⟨h1, ?_⟩
  unfold Bk.act Bk.back Bk.finish
  rcases hk with hk | hk <;> simp [hk, h1]
theorem act_still {B : Bk} {o : Cop} (h2 : ¬ o.k = 2) (h3 : ¬ o.k = 3) (h4 : ¬ o.k = 4) : (B.act o).wait = B.wait := by
  unfold Bk.act Bk.create Bk.close
  rw [if_neg h2, if_neg h3, if_neg h4]
  repeat' split
  all_goals rfl

/-- What the loop keeps. -/
def InReturns (w : World) (b j : Nat) (sv : Value) (wr : World) : Prop :=
  ∃ (B : Bk) (F : Nat → Prop), NAt wr sv B.wait ∧ Book wr b B F ∧ (∀ k, F k → w.heap.size ≤ k) ∧ (∀ k, sv.ownBlock = some k → ¬ F k ∧ w.heap.size ≤ k) ∧ B.ended.length ≤ j + 1 ∧ B.wait.length ≤ j + 1 ∧ Kp (fun k => w.heap.size ≤ k) w wr

set_option maxRecDepth 100000 in
theorem returns_many (sa : Option Addr) (len cap : Nat) (w : World) (hl : 500 < len) (hl2 : len ≤ 140737488351232) :
    Calls Try.prog 7 #[.slice sa len cap] w fun e w' => e = .returned (.bool true) ∧ Below w.heap.size w w' := by
  go_enter Try.func7, Try.ntmps7
  go_wp2_with fail
  refine (alive_any _).mono ?_
  rintro e w1 ⟨rfl, hk⟩
  go_wp2
  go_returns
  exact ⟨rfl, hk⟩
set_option maxRecDepth 100000 in
set_option maxHeartbeats 2000000 in
theorem returns_any (sa : Option Addr) (len cap : Nat) (w : World) (hl : len ≤ 500) (ho : len ≤ 0 ∨ ∃ ob off os, sa = some ⟨ob, off, none⟩ ∧ Cops w ob off len os) :
    Calls Try.prog 7 #[.slice sa len cap] w fun e w' => e = .returned (.bool true) ∧ Below w.heap.size w w' := by
  have HO := Lib.hid ho; clear ho
  have hP : ∀ k, w.heap.size ≤ k → w.heap.size ≤ k := fun _ h => h
  go_enter Try.func7, Try.ntmps7
  go_wp2_with fail
  refine (alive_any _).mono ?_
  rintro e w1 ⟨rfl, hk⟩
  have kk : Kp (fun k => w.heap.size ≤ k) w w1 := Kp.of_below hk
  replace hP := le_of_kp kk hP
  clear hk
  go_wp2_with fail
  refine (new_own hP).mono ?_
  rintro e w2 ⟨b, rfl, ⟨F0, hB0, hF0⟩, hk⟩
  replace kk := kk.trans hk
  have hsz := kk.size
  clear hk hP
  have hI : InReturns w b 0 (.slice (some ⟨w2.heap.size, 0, none⟩) 1 1) (w2.alloc (.cells #[.int .i64 0] 3)) :=
    ⟨⟨[0], [false]⟩, _, show NAt _ _ [0] from World.ownsRow_lit (base := 0) (e := 3) (size := 1) w2 #[.int .i64 0] 1 (by omega) (by unfold maxLen; omega) rfl,
      hB0.old.kp ((Kp.refl (fun _ => False) _).alloc _) (fun _ _ _ h => h), fun k hk => hF0 k hk.1, fun k hk => by simp [Value.ownBlock] at hk; subst hk; exact ⟨fun h => by have := h.2; omega, hsz⟩, by simp, by simp, kk.alloc _⟩
  clear hB0 hF0 kk hsz
  go_wp2_with fail
  go_loopw [4, 19] (fun sv iv wr => ∃ j : Nat, iv = .int .i64 j ∧ j ≤ len ∧ InReturns w b j sv wr) (fun _ iv _ => len - (intOf iv).toNat)
  case atStart => exact ⟨0, rfl, by omega, hI⟩
  case round =>
    clear hI
    obtain ⟨j, rfl, hj, B, F, hN, hB, hF, hS, he, hw, kk⟩ := hrel
    by_cases hlt : (j : Int) < len
    · obtain ⟨ob, off, os, rfl, ho⟩ := HO.out.resolve_left (by omega)
      replace ho := ho.kp kk (by have := ho.lt; omega)
      have c0 := ho.k j (by omega)
      have c1 := ho.a j (by omega)
      have hol := ho.lt
      clear ho
      generalize os j = o at *
      obtain ⟨ok, oa⟩ := o
      dsimp only at c0 c1
      have HB := Lib.hid hB; have HF := Lib.hid hF; have KK := Lib.hid kk; have HN := Lib.hid hN; have HS := Lib.hid hS
      clear hB hF kk hN hS
      go_wp2_with fail
      have hsr := KK.out.size
      have k0 : Kp (fun _ => False) wr (wr.alloc (.cells #[.int .i64 ok, .int .i64 oa] 34)) := (Kp.refl _ _).alloc _
      have X0 : Blk (wr.alloc (.cells #[.int .i64 ok, .int .i64 oa] 34)) wr.heap.size 34 #[.int .i64 ok, .int .i64 oa] := Blk.new rfl
      refine (do_book b B ⟨ok, oa⟩ (fun k => F k ∧ k < wr.heap.size) _ (HB.out.old.kp k0 (fun _ _ _ h => h)) (by omega) (by omega)).mono ?_
      rintro e wb ⟨he', F', hs', hkb, hF'⟩
      unfold Bk.ans at he'
      obtain rfl := he'
      have hxB := Blk.kp X0 hkb (fun h => by have := h.2; omega)
      have x0 := hxB.cell 0 (.int .i64 ok) rfl
      have x1 := hxB.cell 1 (.int .i64 oa) rfl
      have hxl := hxB.lt
      have hsz := hkb.size
      have kB := (KK.out.alloc (.cells #[.int .i64 ok, .int .i64 oa] 34)).trans (hkb.mono (fun k _ h => HF.out k h.1))
      have hg := act_grows B ⟨ok, oa⟩
      have hsB := hs'.old
      have hFB : ∀ k, F' k ∧ k < wb.heap.size → w.heap.size ≤ k := fun k hk => (hF' k hk.1).elim (fun h => HF.out k h.1) (fun h => by simp at h; omega)
      have hnB : NAt wb _ B.wait := row_kp (row_kp HN.out k0 (fun _ _ h => h)) hkb (fun g hg h => (HS.out g hg).1 h.1)
      have hSB : ∀ k, Value.ownBlock _ = some k → ¬ (F' k ∧ k < wb.heap.size) ∧ w.heap.size ≤ k := fun k hk => ⟨fun h => (hF' k h.1).elim (fun h => (HS.out k hk).1 h.1) (fun h => by have := (HN.out.lt k hk).2; simp at h; omega), (HS.out k hk).2⟩
      have hFn := HF.out
      have hlw : (B.act ⟨ok, oa⟩).wait.length ≤ j + 1 + 1 ∧ (B.act ⟨ok, oa⟩).ended.length ≤ j + 1 + 1 := by
        have h2 := hg.2
        split at h2 <;> omega
      have hbk := hsB.ok.ne
      have HSB := Lib.hid hSB; have HFB := Lib.hid hFB; have HNB := Lib.hid hnB; have HBB := Lib.hid hsB; have KB := Lib.hid kB
      have hubs := hnB.lt
      clear hSB hFB hnB hsB kB hs' hkb hF' HN HS HB hg hFn X0 k0 c0 c1
      by_cases e0 : B.ansE ⟨ok, oa⟩ = 0
      · rw [e0]
        generalize B.ansN ⟨ok, oa⟩ = N0
        generalize B.ansS ⟨ok, oa⟩ = S0
        go_upto_region 12 with fail
        iterate 10 (first | go_step | go_values | go_upon | go_back | go_simp)
        go_cut [4] (fun sv wx => NAt wx sv (B.act ⟨ok, oa⟩).wait ∧ Book wx b (B.act ⟨ok, oa⟩) (fun k => F' k ∧ k < wb.heap.size) ∧ (∀ k, sv.ownBlock = some k → ¬ (F' k ∧ k < wb.heap.size) ∧ w.heap.size ≤ k) ∧ Kp (fun k => w.heap.size ≤ k) w wx)
        case first =>
          by_cases e2 : ok = 2
          · subst e2
            obtain ⟨n, rfl, hwt⟩ := act_resumed e0
            obtain ⟨i0, hi, hz0, hz1, hz2⟩ := info_parts info3
            obtain ⟨ao, ac, rfl⟩ := row_form HNB.out
            have HWT := Lib.hid hwt; clear hwt e0
            go_wp2_with (at_builtin; refine wpList_append2 _ rfl (.tmp 33) (.tmp 36) 43 rfl 3 i0 (.int .i64 0) 1 8 Try.underlying43 hi hz0 hz1 hz2 rfl (by decide) (.slice ao B.wait.length ac) B.wait.length (nums B.wait) rfl ?own ⟨wb.heap.size + 1, 0, none⟩ 1 1 [.int .i64 n] rfl rfl ?c1 ?c2 ?c3 ?c4 ?h)
            case own => exact row_kp HNB.out (((Kp.refl (fun _ => False) _).alloc _).alloc _) (fun _ _ h => h)
            case c1 => exact cell_one _ _ _ _ (by simp)
            case c2 => intro u hu; simp at hu; subst hu; rfl
            case c3 => unfold maxLen; omega
            case c4 => omega
            case h =>
              intro v' w1' hown hgr hsn
              have HOW := Lib.hid hown
              have k1 : Kp (fun k => (Value.slice ao B.wait.length ac).ownBlock = some k) wb w1' := (((Kp.refl _ wb).alloc _).alloc _).grown hgr (fun k e => .inl e)
              have K1 := Lib.hid k1
              clear hown k1
              go_wp2
              go_meet
              case rel =>
                refine ⟨?_, HBB.out.kp K1.out (fun k _ h hk => (HSB.out k hk).1 h), fun k hk => ?_, KB.out.trans' K1.out (fun k _ hk => (HSB.out k hk).2)⟩
                · rw [HWT.out]
                  unfold NAt
                  rw [List.length_append]
                  unfold nums
                  rw [List.map_append]
                  exact HOW.out
                · rcases hsn with h | h
                  · exact HSB.out k (by rw [← h]; exact hk)
                  · have := h k hk
                    simp at this
                    exact ⟨fun h => by have := h.2; omega, by have := KB.out.size; omega⟩
          · by_cases e34 : ok = 3 ∨ ok = 4
            · obtain ⟨hl1, hwt⟩ := act_backed (o := ⟨ok, oa⟩) e34 e0
              have HWT := Lib.hid hwt; clear hwt e0
              obtain ⟨g, cap', rfl⟩ := row_some HNB.out (by rw [HWT.out] at hbk; simp at hbk; omega)
              obtain ⟨m, hm⟩ : ∃ m, B.wait.length = m + 1 := ⟨B.wait.length - 1, by rw [HWT.out] at hbk; simp at hbk; omega⟩
              have ht := row_take HNB.out (m := m) (by omega)
              have hcap : m ≤ cap' := by
                rcases HNB.out.2 with ⟨h', _⟩ | ⟨g', cap', cur, h', hb, hg, hnc, hcm, hcs, htake⟩
                · simp at h'
                · simp only [Value.slice.injEq, Option.some.injEq, Addr.mk.injEq, and_true, true_and] at h'
                  obtain ⟨rfl, rfl⟩ := h'
                  omega
              have HT := Lib.hid ht; have HM := Lib.hid hm
              clear ht
              rw [hm] at hl1 hw ⊢
              clear hm
              have hm0 : 0 < m := by omega
              have q1 : (ok == 2) = false := by simpa using e2
              have hslots : NAt wb (.slice (some ⟨g, 0, none⟩) m cap') (B.act ⟨ok, oa⟩).wait := by
                rw [HWT.out]
                unfold NAt
                rw [List.length_dropLast, HM.out]
                have hx : (nums B.wait).take m = nums B.wait.dropLast := by
                  unfold nums; rw [← List.map_take, List.dropLast_eq_take, HM.out]; rfl
                rw [← hx]
                exact HT.out
              have HSL := Lib.hid hslots; clear hslots e2
              rcases e34 with rfl | rfl
              all_goals
                go_wp2
                go_meet
                case rel =>
                  exact ⟨row_kp HSL.out ((Kp.refl (fun _ => False) _).alloc _) (fun _ _ h => h), HBB.out.kp ((Kp.refl (fun _ => False) _).alloc _) (fun _ _ _ h => h), fun k hk => HSB.out k hk, KB.out.alloc _⟩
            · have q1 : (ok == 2) = false := by simpa using e2
              have q2 : (ok == 3) = false := by simp; omega
              have q3 : (ok == 4) = false := by simp; omega
              have hwt := act_still (B := B) (o := ⟨ok, oa⟩) e2 (fun h => e34 (.inl h)) (fun h => e34 (.inr h))
              have HWT := Lib.hid hwt; clear hwt e0 e2 e34
              go_wp2
              go_meet
              case rel =>
                exact ⟨by rw [HWT.out]; exact row_kp HNB.out ((Kp.refl (fun _ => False) _).alloc _) (fun _ _ h => h), HBB.out.kp ((Kp.refl (fun _ => False) _).alloc _) (fun _ _ _ h => h), fun k hk => HSB.out k hk, KB.out.alloc _⟩
        case rest =>
          obtain ⟨hnC, hbC, hsC, kC⟩ := hcut
          generalize hact : B.act ⟨ok, oa⟩ = B' at *
          obtain ⟨g, cap', rfl⟩ := row_some hnC hbk
          obtain ⟨m, hm⟩ : ∃ m, B'.wait.length = m + 1 := ⟨B'.wait.length - 1, by omega⟩
          have cm : wc.cell? ⟨g, m, none⟩ = some (.int .i64 (B'.run : Nat)) := by
            rw [World.ownsRow.cellAt hnC m (by omega)]; unfold nums Bk.run; rw [List.getElem?_map, getLastD_at hm]; rfl
          have hgl := (hnC.lt g rfl).2
          have HNC := Lib.hid hnC; have HBC := Lib.hid hbC; have HSC := Lib.hid hsC; have KC := Lib.hid kC
          have HM := Lib.hid hm
          clear hnC hbC hsC kC HSB HNB HBB KB hubs hbk e0
          rw [hm] at hlw ⊢
          clear hm
          have hwm : IntKind.i64.wrap (m : Int) = m := by rw [IntKind.wrap_i64]; omega
          have hlm : (m : Int) < (m : Int) + 1 := by omega
          go_wp2_with fail
          refine wp_region_K (S := fun w' => w'.cell? ⟨g, m, none⟩ = some (.int .i64 (B'.run : Nat))) (K := 17) (by kernel_rfl) ?_
          have hHeld : (fun w' => w'.cell? ⟨g, m, none⟩ = some (.int .i64 (B'.run : Nat))) (World.drew _) := cm
          refine wpK_take (i := 0) (v := ?_) rfl (by kernel_rfl) (fun _ _ _ h => h) (Or.inl ⟨by kernel_rfl, ?_⟩) hHeld ?_
          rotate_left
          · intro w hSw; (try dsimp only at hSw); go_simp; (try with_reducible rfl)
          simp only [Act.put, List.setIfInBounds_toArray, List.set_cons_zero, List.set_cons_succ]
          refine wpK_take (i := 2) (v := ?_) rfl (by kernel_rfl) (fun _ _ _ h => h) (Or.inl ⟨by kernel_rfl, ?_⟩) hHeld ?_
          rotate_left
          · intro w hSw; (try dsimp only at hSw); go_simp; (try with_reducible rfl)
          simp only [Act.put, List.setIfInBounds_toArray, List.set_cons_zero, List.set_cons_succ]
          refine wpK_take (i := 3) (v := ?_) rfl (by kernel_rfl) (fun _ _ _ h => h) (Or.inl ⟨by kernel_rfl, ?_⟩) hHeld ?_
          rotate_left
          · intro w hSw; (try dsimp only at hSw); go_simp; (try with_reducible rfl)
          simp only [Act.put, List.setIfInBounds_toArray, List.set_cons_zero, List.set_cons_succ]
          refine wpK_take (i := 4) (v := ?_) rfl (by kernel_rfl) (fun _ _ _ h => h) (Or.inl ⟨by kernel_rfl, ?_⟩) hHeld ?_
          rotate_left
          · intro w hSw; (try dsimp only at hSw); go_simp; (try with_reducible rfl)
          simp only [Act.put, List.setIfInBounds_toArray, List.set_cons_zero, List.set_cons_succ]
          refine wpK_take (i := 5) (v := ?_) rfl (by kernel_rfl) (fun _ _ _ h => h) (Or.inl ⟨by kernel_rfl, ?_⟩) hHeld ?_
          rotate_left
          · intro w hSw; (try dsimp only at hSw); go_simp; (try with_reducible rfl)
          simp only [Act.put, List.setIfInBounds_toArray, List.set_cons_zero, List.set_cons_succ]
          refine wpK_take (i := 6) (v := ?_) rfl (by kernel_rfl) (fun _ _ _ h => h) (Or.inl ⟨by kernel_rfl, ?_⟩) hHeld ?_
          rotate_left
          · intro w hSw; (try dsimp only at hSw); go_simp; (try with_reducible rfl)
          simp only [Act.put, List.setIfInBounds_toArray, List.set_cons_zero, List.set_cons_succ]
          refine wpK_take (i := 7) (v := ?_) rfl (by kernel_rfl) (fun _ _ _ h => h) (Or.inl ⟨by kernel_rfl, ?_⟩) hHeld ?_
          rotate_left
          · intro w hSw; (try dsimp only at hSw); go_simp; (try with_reducible rfl)
          simp only [Act.put, List.setIfInBounds_toArray, List.set_cons_zero, List.set_cons_succ]
          refine wpK_one (i := 1) (by kernel_rfl) rfl (fun K' hK => ?_)
          go_simp
          refine (running_book b B' (fun k => F' k ∧ k < wb.heap.size) (World.drew _) (HBC.out.kp ((Kp.refl (fun _ => False) _).drew) (fun _ _ _ h => h))).mono ?_
          rintro _ wd ⟨rfl, hk0⟩
          have hk : Kp (fun _ => False) wc wd := ((Kp.refl (fun _ => False) wc).drew).trans hk0
          clear hk0
          refine hK.out _ _ (fun _ => (hk.cell (p := ⟨g, m, none⟩) hgl (fun h => h)).trans cm) (fun hHeld' => ?_)
          have hHeld := hHeld' (by decide)
          clear hHeld' hK K'
          replace cm := (hk.cell (p := ⟨g, m, none⟩) hgl (fun h => h)).trans cm
          replace HBC := Lib.hid (HBC.out.kp hk (fun _ _ _ h => h))
          replace HNC := Lib.hid (row_kp HNC.out hk (fun _ _ h => h))
          replace KC := Lib.hid (kp_tell KC.out hk)
          have hgl := Nat.lt_of_lt_of_le hgl hk.size
          clear hk
          refine wpK_take (i := 8) (v := ?_) rfl (by kernel_rfl) (fun _ _ _ h => h) (Or.inl ⟨by kernel_rfl, ?_⟩) hHeld ?_
          rotate_left
          · intro w hSw; (try dsimp only at hSw); go_simp; (try with_reducible rfl)
          simp only [Act.put, List.setIfInBounds_toArray, List.set_cons_zero, List.set_cons_succ]
          refine wpK_take (i := 9) (v := ?_) rfl (by kernel_rfl) (fun _ _ _ h => h) (Or.inl ⟨by kernel_rfl, ?_⟩) hHeld ?_
          rotate_left
          · intro w hSw; (try dsimp only at hSw); go_simp; (try with_reducible rfl)
          simp only [Act.put, List.setIfInBounds_toArray, List.set_cons_zero, List.set_cons_succ]
          refine wpK_take (i := 10) (v := ?_) rfl (by kernel_rfl) (fun _ _ _ h => h) (Or.inl ⟨by kernel_rfl, ?_⟩) hHeld ?_
          rotate_left
          · intro w hSw; (try dsimp only at hSw); go_simp; (try with_reducible rfl)
          simp only [Act.put, List.setIfInBounds_toArray, List.set_cons_zero, List.set_cons_succ]
          refine wpK_take (i := 12) (v := ?_) rfl (by kernel_rfl) (fun _ _ _ h => h) (Or.inl ⟨by kernel_rfl, ?_⟩) hHeld ?_
          rotate_left
          · intro w hSw; (try dsimp only at hSw); go_simp; (try with_reducible rfl)
          simp only [Act.put, List.setIfInBounds_toArray, List.set_cons_zero, List.set_cons_succ]
          refine wpK_take (i := 13) (v := ?_) rfl (by kernel_rfl) (fun _ _ _ h => h) (Or.inl ⟨by kernel_rfl, ?_⟩) hHeld ?_
          rotate_left
          · intro w hSw; (try dsimp only at hSw); go_simp; (try with_reducible rfl)
          simp only [Act.put, List.setIfInBounds_toArray, List.set_cons_zero, List.set_cons_succ]
          refine wpK_take (i := 14) (v := ?_) rfl (by kernel_rfl) (fun _ _ _ h => h) (Or.inl ⟨by kernel_rfl, ?_⟩) hHeld ?_
          rotate_left
          · intro w hSw; (try dsimp only at hSw); go_simp; (try with_reducible rfl)
          simp only [Act.put, List.setIfInBounds_toArray, List.set_cons_zero, List.set_cons_succ]
          refine wpK_one (i := 11) (by kernel_rfl) rfl (fun K' hK => ?_)
          go_simp
          refine (deep_book b B' _ _ HBC.out).mono ?_
          rw [HM.out]
          rintro _ we ⟨rfl, hk⟩
          refine hK.out _ _ (fun _ => (hk.cell (p := ⟨g, m, none⟩) hgl (fun h => h)).trans cm) (fun hHeld' => ?_)
          have hHeld := hHeld' (by decide)
          clear hHeld' hK K'
          replace cm := (hk.cell (p := ⟨g, m, none⟩) hgl (fun h => h)).trans cm
          replace HBC := Lib.hid (HBC.out.kp hk (fun _ _ _ h => h))
          replace HNC := Lib.hid (row_kp HNC.out hk (fun _ _ h => h))
          replace KC := Lib.hid (kp_tell KC.out hk)
          clear hk
          refine wpK_take (i := 15) (v := ?_) rfl (by kernel_rfl) (fun _ _ _ h => h) (Or.inl ⟨by kernel_rfl, ?_⟩) hHeld ?_
          rotate_left
          · intro w hSw; (try dsimp only at hSw); go_simp; (try with_reducible rfl)
          simp only [Act.put, List.setIfInBounds_toArray, List.set_cons_zero, List.set_cons_succ]
          refine wpK_take (i := 16) (v := ?_) rfl (by kernel_rfl) (fun _ _ _ h => h) (Or.inl ⟨by kernel_rfl, ?_⟩) hHeld ?_
          rotate_left
          · intro w hSw; (try dsimp only at hSw); go_simp; (try with_reducible rfl)
          simp only [Act.put, List.setIfInBounds_toArray, List.set_cons_zero, List.set_cons_succ]
          refine wpK_done (by kernel_rfl) ?_ _
          have hnc : NAt we (.slice (some ⟨g, 0, none⟩) (m + 1) cap') B'.wait := by
            have h := HNC.out
            unfold NAt at h ⊢
            rw [HM.out] at h ⊢
            exact h
          have hsc := HSC.out
          rw [HM.out] at hsc
          have hw' := HM.out
          have HI : InReturns w b (j + 1) (.slice (some ⟨g, 0, none⟩) (m + 1) cap') we := ⟨B', _, hnc, HBC.out, HFB.out, hsc, by omega, by omega, KC.out⟩
          have HII := Lib.hid HI
          clear HI hnc hsc hw'
          go_wp2
          go_roundw
          case rel => exact ⟨j + 1, by go_num, by omega, HII.out⟩
          case measure => simp [intOf]; omega
      · have hwt := act_refused e0
        have q1 : (B.ansE ⟨ok, oa⟩ == 0) = false := by simpa using e0
        have HWT := Lib.hid hwt; clear hwt e0
        generalize B.ansN ⟨ok, oa⟩ = N0
        generalize B.ansS ⟨ok, oa⟩ = S0
        generalize B.ansE ⟨ok, oa⟩ = E0 at *
        go_wp2
        go_roundw
        case rel =>
          exact ⟨j + 1, by go_num, by omega, _, _, by rw [HWT.out]; exact row_kp HNB.out ((Kp.refl (fun _ => False) _).alloc _) (fun _ _ h => h), HBB.out.kp ((Kp.refl (fun _ => False) _).alloc _) (fun _ _ _ h => h), HFB.out, HSB.out, by omega, by omega, KB.out.alloc _⟩
        case measure => simp [intOf]; omega
    · have hne := hB.ok.ne
      obtain ⟨g, cap', rfl⟩ := row_some hN hne
      obtain ⟨m, hm⟩ : ∃ m, B.wait.length = m + 1 := ⟨B.wait.length - 1, by omega⟩
      have hcap : m + 1 ≤ cap' := by
        rcases hN.2 with ⟨h', _⟩ | ⟨g', cap', cur, h', hb, hg, hnc, hcm, hcs, htake⟩
        · simp at h'
        · simp only [Value.slice.injEq, Option.some.injEq, Addr.mk.injEq, and_true, true_and] at h'
          obtain ⟨rfl, rfl⟩ := h'
          omega
      have hI : ∃ C, OwnB (fun k => w.heap.size ≤ k) wr b C ∧ C.wait = B.wait.take (m + 1) := ⟨B, ⟨F, hB, hF⟩, by rw [List.take_of_length_le (by omega)]⟩
      have HI := Lib.hid hI; have HM := Lib.hid hm; have KK := Lib.hid kk
      rw [hm] at hw ⊢
      clear hI hm hB hF hS hN hne kk
      go_wp2_with fail
      all_goals
        go_loopw [70] (fun iv wx => ∃ i : Nat, iv = .int .i64 i ∧ i ≤ m ∧ (∃ C, OwnB (fun k => w.heap.size ≤ k) wx b C ∧ C.wait = B.wait.take (m + 1 - i)) ∧ Kp (fun k => w.heap.size ≤ k) w wx) (fun iv _ => m - (intOf iv).toNat)
        case atStart => exact ⟨0, rfl, by omega, HI.out, KK.out⟩
        case round =>
          clear HI KK
          obtain ⟨i, rfl, hi, ⟨C, hO, hC⟩, kk⟩ := hrel
          have hCl : C.wait.length = m + 1 - i := by rw [hC, List.length_take, HM.out]; omega
          by_cases hlt2 : (i : Int) < m
          · go_wp2_with fail
            refine (yield_own hO).mono ?_
            rintro e wy ⟨he', hO', hk'⟩
            obtain rfl : e = .returned (.tuple #[.string wNone, .int .i64 0]) := he'.trans (by unfold bkS bkE; rw [if_neg (by omega), if_neg (by omega)])
            have hbw : C.back.wait = B.wait.take (m + 1 - (i + 1)) := by
              unfold Bk.back
              rw [if_neg (by omega)]
              simp only
              rw [hC, List.dropLast_eq_take, List.take_take, List.length_take, HM.out]
              congr 1
              omega
            have HH := Lib.hid (show ∃ C, OwnB (fun k => w.heap.size ≤ k) wy b C ∧ C.wait = B.wait.take (m + 1 - (i + 1)) from ⟨_, hO', hbw⟩)
            have KK := Lib.hid (kk.trans hk')
            clear hO hO' hbw hk' kk hC hCl
            go_wp2
            go_roundw
            case rel => exact ⟨i + 1, by go_num, by omega, HH.out, KK.out⟩
            case measure => simp [intOf]; omega
          · obtain rfl : i = m := by omega
            have hC1 : C.wait.length = 1 := by omega
            have hrun : C.run = 0 := by
              have h := hO.ok.head
              unfold Bk.run
              match hx : C.wait, hC1, h with
              | [a], _, h => simpa using h
            have HR := Lib.hid hrun; have HC1 := Lib.hid hC1
            clear hC hCl hC1 hrun
            go_wp2_with fail
            refine (running_own hO).mono ?_
            rw [HR.out]
            rintro e wy ⟨rfl, hk'⟩
            have HO2 := Lib.hid (ownb_tell hO hk')
            have KK := Lib.hid (kp_tell kk hk')
            clear hO hk' kk
            go_wp2_with fail
            refine (deep_own HO2.out).mono ?_
            rw [HC1.out]
            rintro e wz ⟨rfl, hk'⟩
            go_wp2
            go_returns
            exact ⟨rfl, (kp_tell KK.out hk').below (Nat.le_refl _) (fun _ h => by omega)⟩
end Go.Proofs.Ytbmbfgcdbpanjaa
