/- The document's site: Ask. -/
import Derived.Test.YtcdofhfneiednaaSiK
namespace Go.Proofs.Ytcdofhfneiednaa
set_option linter.unusedSimpArgs false
set_option linter.unusedVariables false
open Go.RowKit

theorem nodup_inj {l : List Ent} (hn : (l.map Ent.sh).Nodup) {x y : Ent} (hx : x ∈ l) (hy : y ∈ l) (h : x.sh = y.sh) : x = y := by
  induction l with
  | nil => cases hx
  | cons a r ih =>
    simp only [List.map_cons, List.nodup_cons] at hn
    rcases List.mem_cons.1 hx with hx1 | hx1
    · rcases List.mem_cons.1 hy with hy1 | hy1
      · rw [hx1, hy1]
      · exact absurd (List.mem_map.2 ⟨y, hy1, by rw [← h, hx1]⟩) hn.1
    · rcases List.mem_cons.1 hy with hy1 | hy1
      · exact absurd (List.mem_map.2 ⟨x, hx1, by rw [h, hy1]⟩) hn.1
      · exact ih hn.2 hx1 hy1
theorem look_found {s : SS} (ok : SOk s) {k ep : Int} {i : Nat} (hi : i < s.l.length) (h1 : s.l[i].sh = k) (h2 : s.l[i].ep = ep) : s.look k ep = some s.l[i] := by
  unfold SS.look
  cases hf : s.l.find? (fun e => e.sh == k) with
  | none => have := List.find?_eq_none.1 hf s.l[i] (List.getElem_mem hi); simp [h1] at this
  | some e =>
    have h3 := List.mem_of_find?_eq_some hf
    have h4 := List.find?_some hf
    have : e = s.l[i] := nodup_inj ok.nodup h3 (List.getElem_mem hi) (by rw [h1]; simpa using h4)
    subst this
    simp [Option.filter, h2]
theorem look_nowhere {s : SS} {k ep : Int} (h : ∀ j, (hj : j < s.l.length) → ¬ (s.l[j].sh = k ∧ s.l[j].ep = ep)) : s.look k ep = none := by
  unfold SS.look
  cases hf : s.l.find? (fun e => e.sh == k) with
  | none => rfl
  | some e =>
    have h3 := List.mem_of_find?_eq_some hf
    have h4 := List.find?_some hf
    obtain ⟨j, hj, rfl⟩ := List.getElem_of_mem h3
    have := h j hj
    simp only [Option.filter]
    split
    · rename_i h5
      exact absurd ⟨by simpa using h4, by simpa using h5⟩ this
    · rfl

set_option maxRecDepth 100000 in
set_option maxHeartbeats 1000000 in
theorem rask_any (b : Nat) (s : SS) (v : Value) (k ep : Int) (w : World) (h : RAt w b s v) (hl : REt w v s.l) (ok : SOk s) (hh : s.hits < 1000000000000) :
    Calls Try.prog 39 #[.pointer (some ⟨b, 0, none⟩), .int .i64 k, .int .u64 ep] w fun e w' => e = .returned (.tuple #[.int .i64 (s.askN k ep), .bool (s.askIs k ep)]) ∧ RAt w' b (s.asked k ep) v ∧ Kp (· = b) w w' := by
  have hlen : s.l.length ≤ 8 := by have := ok.len; have := ok.ways; omega
  have hh0 := ok.hits.1
  by_cases hst : s.state = 1
  · have hne : s.l ≠ [] := ok.one.1 hst
    have hpos : 0 < s.l.length := by cases hq : s.l with | nil => exact absurd hq hne | cons a r => simp
    obtain ⟨g, cap, rfl, _, hg⟩ := World.ownsRow.form hl hpos
    have hgb : ¬ g = b := fun e => hl.ne h (by decide) (by rw [← e]; rfl)
    have hb := h.lt
    have h3 := h.cell 3 (.int .i64 s.state) rfl
    rw [hst] at h3
    have h4 := h.cell 4 (.slice (some ⟨g, 0, none⟩) s.l.length cap) rfl
    have H := Lib.hid h; clear h
    have HL := Lib.hid hl; clear hl
    have OK := Lib.hid ok; clear ok
    clear hne hst
    go_enter Try.func39, Try.ntmps39
    go_wp2_with fail
    go_loopw [20] (fun iv wr => ∃ i : Nat, iv = .int .i64 i ∧ i ≤ s.l.length ∧ (∀ j, (h : j < i) → (h' : j < s.l.length) → ¬ (s.l[j].sh = k ∧ s.l[j].ep = ep)) ∧ Below w.heap.size w wr) (fun iv _ => s.l.length - (intOf iv).toNat)
    case atStart => exact ⟨0, rfl, Nat.zero_le _, fun _ h => absurd h (Nat.not_lt_zero _), Below.refl _ _⟩
    case round =>
      clear h3 h4
      obtain ⟨i, rfl, hi, hno, hk⟩ := hrel
      have HNO := Lib.hid hno; clear hno
      have hsz := hk.size
      by_cases hlt : (i : Int) < s.l.length
      · obtain ⟨c0, c1, c2⟩ := HL.out.cell i (by omega)
        have d0 := (hk.cell (p := ⟨g, i * 3, none⟩) hg).trans c0
        have d1 := (hk.cell (p := ⟨g, i * 3 + 1, none⟩) hg).trans c1
        have d2 := (hk.cell (p := ⟨g, i * 3 + 2, none⟩) hg).trans c2
        have hgr : g < wr.heap.size := by omega
        clear c0 c1 c2
        have hlt' : i < s.l.length := by omega
        by_cases he : s.l[i].sh = k
        · by_cases he2 : s.l[i].ep = ep
          · have hf := look_found OK.out hlt' he he2
            have hr : RAt wr b s _ := H.out.below hk hb
            have h6 := hr.cell 6 (.int .i64 s.hits) rfl
            have fr := hr.free
            have hbr := hr.lt
            have HR := Lib.hid hr; clear hr
            have HF := Lib.hid hf; clear hf
            have e1 : (s.l[i].sh == k) = true := by simpa using he
            have e2 : (s.l[i].ep == ep) = true := by simpa using he2
            clear he he2
            generalize s.l[i] = x at *
            go_wp2
            go_returns
            unfold SS.askN SS.askIs SS.asked
            rw [HF.out]
            refine ⟨rfl, ?_, ?_⟩
            · exact RAt.of ((Blk.set HR.out 6 _).alloc _) rfl
            · exact (Kp.setCell (S := (· = b)) (p := ⟨b, 6, none⟩) (Kp.of_below hk) (.inl rfl) _).alloc _
          · have e1 : (s.l[i].sh == k) = true := by simpa using he
            have e2 : (s.l[i].ep == ep) = false := by simpa using he2
            have HN2 := Lib.hid he2; clear he he2
            generalize hx : s.l[i] = x at *
            have HX := Lib.hid hx; clear hx
            go_wp2
            go_roundw
            case rel =>
              refine ⟨i + 1, by go_num, by omega, fun j hj hj' => ?_, by go_grown⟩
              rcases Nat.lt_succ_iff_lt_or_eq.1 hj with h | h
              · exact HNO.out j h hj'
              · subst h; rw [HX.out]; exact fun e => HN2.out e.2
            case measure => simp [intOf]; omega
        · have e1 : (s.l[i].sh == k) = false := by simpa using he
          have HN2 := Lib.hid he; clear he
          generalize hx : s.l[i] = x at *
          have HX := Lib.hid hx; clear hx
          go_wp2
          go_roundw
          case rel =>
            refine ⟨i + 1, by go_num, by omega, fun j hj hj' => ?_, by go_grown⟩
            rcases Nat.lt_succ_iff_lt_or_eq.1 hj with h | h
            · exact HNO.out j h hj'
            · subst h; rw [HX.out]; exact fun e => HN2.out e.1
          case measure => simp [intOf]; omega
      · have hf := look_nowhere (s := s) (k := k) (ep := ep) (fun j hj => HNO.out j (by omega) hj)
        have HF := Lib.hid hf; clear hf
        go_wp2
        go_returns
        unfold SS.askN SS.askIs SS.asked
        rw [HF.out]
        exact ⟨rfl, H.out.below hk hb, Kp.of_below hk⟩
  · have hnil : s.l = [] := by
      by_cases hn : s.l = []
      · exact hn
      · exact absurd (ok.one.2 hn) hst
    have hf : s.look k ep = none := by unfold SS.look; rw [hnil]; rfl
    unfold SS.askN SS.askIs SS.asked
    rw [hf]
    have hb := h.lt
    have h3 := h.cell 3 (.int .i64 s.state) rfl
    have e2 : (s.state != 1) = true := by simpa using hst
    have H := Lib.hid h; clear h
    clear hst hf hnil hl ok
    go_enter Try.func39, Try.ntmps39
    go_wp2
    go_returns
    exact ⟨rfl, H.out, Kp.refl _ _⟩
end Go.Proofs.Ytcdofhfneiednaa
