/- A policy that came in, opened. -/
import Derived.Test.YtcdofhfneiednaaPoP
namespace Go.Proofs.Ytcdofhfneiednaa
set_option linter.unusedSimpArgs false
set_option linter.unusedVariables false
open Go.ChangeShapes Go.WideShapes Go.ChangeAt Go.RowKit Go.Deep

section
variable {H : Type} {enc : TypeId × Value → H} {W : World}
theorem flat_pick (l : List Ev) (w : World) (b off : Nat) (h : ∀ i, (hi : i < l.length) → w.cell? ⟨b, off + i * 4 + 0, none⟩ = some (.int .i64 l[i].at') ∧ w.cell? ⟨b, off + i * 4 + 1, none⟩ = some (.int .i64 l[i].kind) ∧ w.cell? ⟨b, off + i * 4 + 2, none⟩ = some (.int .i64 l[i].site) ∧ w.cell? ⟨b, off + i * 4 + 3, none⟩ = some (.int .i64 l[i].way)) :
    ∀ j u, (l.flatMap Ev.cells)[j]? = some u → w.cell? ⟨b, off + j, none⟩ = some u := by
  intro j u hu
  have hj : j < l.length * 4 := by
    have := (List.getElem?_eq_some_iff.1 hu).1
    rwa [eflat_len] at this
  obtain ⟨i, r, rfl, hr⟩ : ∃ i r, j = i * 4 + r ∧ r < 4 := ⟨j / 4, j % 4, by omega, by omega⟩
  have hi : i < l.length := by omega
  obtain ⟨e0, e1, e2, e3⟩ := eflat_at l i hi
  obtain ⟨c0, c1, c2, c3⟩ := h i hi
  have : r = 0 ∨ r = 1 ∨ r = 2 ∨ r = 3 := by omega
  rcases this with rfl | rfl | rfl | rfl
  · rw [Nat.add_zero, e0] at hu; rw [← hu, ← c0]; rfl
  · rw [e1] at hu; rw [← hu, ← c1]; rfl
  · rw [e2] at hu; rw [← hu, ← c2]; rfl
  · rw [e3] at hu; rw [← hu, ← c3]; rfl
set_option maxRecDepth 100000 in
theorem open_evs {u : Value} (h : Reads enc Try.prog W 0 (fun _ => true) true 52 u) : ∃ l : List Ev, EIn W u l ∧ l.length ≤ 140737488351232 := by
  obtain ⟨m, y, hy, hf⟩ := h
  have hC : Try.prog.cellsOf 96 = 4 := by kernel_rfl
  have hB : Try.prog.bytesOf 96 = 32 := by kernel_rfl
  rcases open_slice (t := 52) Try.underlying52 hy with ⟨hcs, hx⟩ | ⟨a, len, cap, m', n, D, Pl, hcs, hb, hle, hm, hmm, hx, hi⟩
  · obtain rfl : u = .slice none 0 0 := by simpa using hcs
    exact ⟨[], ⟨none, 0, rfl, .inl rfl⟩, by simp⟩
  · obtain rfl : u = .slice (some a) len cap := by simpa using hcs
    have ht : DataW.Trod enc Try.prog W 0 (fun _ => true) true 52 (.slice (some a) len cap) y.1 y.2 := ⟨m, by simpa [Value.cells] using hy⟩
    obtain ⟨h1, h2, h3⟩ := open_recs (by omega) Try.underlying52 Try.underlying96 (by kernel_rfl) hC (by decide) ht hf
    rw [hB] at h2
    have hlen : len ≤ 140737488351232 := by simp only [reachBytes] at h2; omega
    by_cases hl : 0 < len
    · obtain ⟨ob, off, he, hbl, hc⟩ := h3 hl
      have key : ∀ i, i < len → ∃ o : Ev, W.cell? ⟨ob, off + i * 4 + 0, none⟩ = some (.int .i64 o.at') ∧ W.cell? ⟨ob, off + i * 4 + 1, none⟩ = some (.int .i64 o.kind) ∧ W.cell? ⟨ob, off + i * 4 + 2, none⟩ = some (.int .i64 o.site) ∧ W.cell? ⟨ob, off + i * 4 + 3, none⟩ = some (.int .i64 o.way) := by
        intro i hi
        obtain ⟨u0, g0, r0⟩ := hc i hi 0 _ rfl
        obtain ⟨u1, g1, r1⟩ := hc i hi 1 _ rfl
        obtain ⟨u2, g2, r2⟩ := hc i hi 2 _ rfl
        obtain ⟨u3, g3, r3⟩ := hc i hi 3 _ rfl
        obtain ⟨n0, rfl, _⟩ := r0.int Try.underlying2
        obtain ⟨n1, rfl, _⟩ := r1.int Try.underlying3
        obtain ⟨n2, rfl, _⟩ := r2.int Try.underlying3
        obtain ⟨n3, rfl, _⟩ := r3.int Try.underlying3
        exact ⟨⟨n0, n1, n2, n3⟩, g0, g1, g2, g3⟩
      let f : Nat → Ev := fun i => if h : i < len then Classical.choose (key i h) else default
      have hfl : ((List.range len).map f).length = len := by simp
      refine ⟨(List.range len).map f, ⟨some a, cap, by rw [hfl], .inr ⟨ob, off, he, hbl, flat_pick _ _ _ _ ?_⟩⟩, by rw [hfl]; exact hlen⟩
      intro i hi
      have hi' : i < len := by rwa [hfl] at hi
      have := Classical.choose_spec (key i hi')
      simp only [List.getElem_map, List.getElem_range, f, dif_pos hi']
      exact this
    · obtain rfl : len = 0 := by omega
      exact ⟨[], ⟨some a, cap, rfl, .inl rfl⟩, by simp⟩
set_option maxRecDepth 100000 in
theorem open_pol {base : Nat} {v : Value} {d : DataW H} {p : List MemPlace} (ok : Value.okWide Try.prog W .any base 54 v) (h : DataW.Trod enc Try.prog W 0 (fun _ => true) true 54 v d p) (hf : Fits Try.prog 54 d) :
    ∃ (q : Pol) (u : Value), v = .agg (q.cells u) ∧ EIn W u q.evs ∧ q.evs.length ≤ 140737488351232 := by
  obtain ⟨vs, rfl, hl, hr⟩ := open_fields Try.underlying54 (by kernel_rfl) (by kernel_rfl) ok h hf
  obtain ⟨x0, x1, x2, x3, x4, rfl⟩ : ∃ x0 x1 x2 x3 x4, vs = [x0, x1, x2, x3, x4] := by
    match vs, hl with
    | [x0, x1, x2, x3, x4], _ => exact ⟨_, _, _, _, _, rfl⟩
  obtain ⟨n0, rfl, _⟩ := (hr 0 _ _ rfl rfl).int Try.underlying3
  obtain ⟨n1, rfl, _⟩ := (hr 1 _ _ rfl rfl).int Try.underlying3
  obtain ⟨n2, rfl, _⟩ := (hr 2 _ _ rfl rfl).int Try.underlying3
  obtain ⟨n3, rfl, _⟩ := (hr 3 _ _ rfl rfl).int Try.underlying3
  obtain ⟨l, he, hlen⟩ := open_evs (hr 4 _ _ rfl rfl)
  exact ⟨⟨n0, n1, n2, n3, l⟩, x4, rfl, he, hlen⟩
end
end Go.Proofs.Ytcdofhfneiednaa
