/- The steps that came in, opened, with the shapes' bounds. -/
import Derived.Test.YtcdofhfneiednaaSiU
namespace Go.Proofs.Ytcdofhfneiednaa
set_option linter.unusedSimpArgs false
set_option linter.unusedVariables false
open Go.ChangeShapes Go.WideShapes Go.ChangeAt Go.RowKit Go.Deep

section
variable {H : Type} {enc : TypeId × Value → H} {W : World}
set_option maxRecDepth 100000 in
theorem open_sopsw {base : Nat} {v : Value} {d : DataW H} {p : List MemPlace} (ok : Value.okWide Try.prog W .any base 34 v) (h : DataW.Trod enc Try.prog W 0 (fun _ => true) true 34 v d p) (hf : Fits Try.prog 34 d) :
    ∃ sa len cap, v = .slice sa len cap ∧ len * 32 ≤ 140737488351232 ∧ (len ≤ 0 ∨ ∃ ob off os, sa = some ⟨ob, off, none⟩ ∧ Sops W ob off len os ∧ ∀ j, j < len → (Lit.int .i64 (os j).a).wf = true) := by
  obtain ⟨sa, len, cap, rfl⟩ := okWide_slice (t := 34) Try.underlying34 ok
  have hC : Try.prog.cellsOf 38 = 4 := by kernel_rfl
  have hB : Try.prog.bytesOf 38 = 32 := by kernel_rfl
  obtain ⟨h1, h2, h3⟩ := open_recs (by omega) Try.underlying34 Try.underlying38 (by kernel_rfl) hC (by decide) h hf
  rw [hB] at h2
  refine ⟨sa, len, cap, rfl, by simp only [reachBytes] at h2; omega, ?_⟩
  by_cases hl : 0 < len
  · obtain ⟨ob, off, rfl, hb, hc⟩ := h3 hl
    have key : ∀ i, i < len → ∃ o : Sop, W.cell? ⟨ob, off + i * 4, none⟩ = some (.int .i64 o.k) ∧ W.cell? ⟨ob, off + i * 4 + 1, none⟩ = some (.int .i64 o.a) ∧ W.cell? ⟨ob, off + i * 4 + 2, none⟩ = some (.int .i64 o.b) ∧ W.cell? ⟨ob, off + i * 4 + 3, none⟩ = some (.int .u64 o.ep) ∧ (Lit.int .i64 o.a).wf = true := by
      intro i hi
      obtain ⟨u0, g0, r0⟩ := hc i hi 0 _ rfl
      obtain ⟨u1, g1, r1⟩ := hc i hi 1 _ rfl
      obtain ⟨u2, g2, r2⟩ := hc i hi 2 _ rfl
      obtain ⟨u3, g3, r3⟩ := hc i hi 3 _ rfl
      obtain ⟨n0, rfl, _⟩ := r0.int Try.underlying3
      obtain ⟨n1, rfl, hw1⟩ := r1.int Try.underlying3
      obtain ⟨n2, rfl, _⟩ := r2.int Try.underlying3
      obtain ⟨n3, rfl, _⟩ := r3.int Try.underlying29
      exact ⟨⟨n0, n1, n2, n3⟩, g0, g1, g2, g3, hw1⟩
    refine .inr ⟨ob, off, fun i => if h : i < len then Classical.choose (key i h) else default, rfl, ⟨hb, ?_, ?_, ?_, ?_⟩, ?_⟩
    all_goals
      intro j hj
      simp only [dif_pos hj]
      have := Classical.choose_spec (key j hj)
    · exact this.1
    · exact this.2.1
    · exact this.2.2.1
    · exact this.2.2.2.1
    · exact this.2.2.2.2
  · exact .inl (by omega)
end
end Go.Proofs.Ytcdofhfneiednaa
