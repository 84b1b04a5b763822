/- The law's arguments: limits, steps. -/
import Derived.Test.YtmngeljbcnifgaaMtI
import Derived.Test.YtmngeljbcnifgaaOp
namespace Go.Proofs.Ytmngeljbcnifgaa
set_option linter.unusedSimpArgs false
set_option linter.unusedVariables false
open Go.ChangeShapes Go.WideShapes Go.ChangeAt Go.RowKit Go.Deep

section
variable {H : Type} {enc : TypeId × Value → H} {W : World}
def limFields : Array Field := #[]
theorem open_lims {base : Nat} {v : Value} {d : DataW H} {p : List MemPlace} (ok : Value.okWide Try.prog W .any base 34 v) (h : DataW.Trod enc Try.prog W 0 (fun _ => true) true 34 v d p) (hf : Fits Try.prog 34 d) : ∃ l : Lims, v = l.val := by
  obtain ⟨vs, rfl, hl, hr⟩ := open_fields Try.underlying34 (by kernel_rfl) (by kernel_rfl) ok h hf
  match vs, hl with
  | [c0, c1, c2, c3, c4], _ =>
    obtain ⟨n0, rfl, _⟩ := (hr 0 _ _ rfl rfl).int Try.underlying3
    obtain ⟨n1, rfl, _⟩ := (hr 1 _ _ rfl rfl).int Try.underlying3
    obtain ⟨n2, rfl, _⟩ := (hr 2 _ _ rfl rfl).int Try.underlying3
    obtain ⟨n3, rfl, _⟩ := (hr 3 _ _ rfl rfl).int Try.underlying3
    obtain ⟨n4, rfl, _⟩ := (hr 4 _ _ rfl rfl).int Try.underlying3
    exact ⟨⟨n0, n1, n2, n3, n4⟩, rfl⟩
theorem open_stes {base : Nat} {v : Value} {d : DataW H} {p : List MemPlace} (ok : Value.okWide Try.prog W .any base 35 v) (h : DataW.Trod enc Try.prog W 0 (fun _ => true) true 35 v d p) (hf : Fits Try.prog 35 d) :
    ∃ sa len cap, v = .slice sa len cap ∧ len * 32 ≤ 140737488351232 ∧ (len ≤ 0 ∨ ∃ ob off os, sa = some ⟨ob, off, none⟩ ∧ Stes W ob off len os) := by
  obtain ⟨sa, len, cap, rfl⟩ := okWide_slice Try.underlying35 ok
  have hC : Try.prog.cellsOf 44 = 3 := by kernel_rfl
  have hB : Try.prog.bytesOf 44 = 32 := by kernel_rfl
  obtain ⟨h1, h2, h3⟩ := open_recs (by omega) Try.underlying35 Try.underlying44 (by kernel_rfl) hC (by decide) h hf
  rw [hB] at h2
  refine ⟨sa, len, cap, rfl, by simp only [reachBytes] at h2; omega, ?_⟩
  by_cases hl : 0 < len
  · obtain ⟨ob, off, rfl, hb, hc⟩ := h3 hl
    have key : ∀ i, i < len → ∃ o : Ste, W.cell? ⟨ob, off + i * 3, none⟩ = some (.int .i64 o.k) ∧ W.cell? ⟨ob, off + i * 3 + 1, none⟩ = some (.int .i64 o.n) ∧ W.cell? ⟨ob, off + i * 3 + 2, none⟩ = some (.string o.s) ∧ o.s.size ≤ 140737488351232 := by
      intro i hi
      obtain ⟨u0, g0, r0⟩ := hc i hi 0 _ rfl
      obtain ⟨u1, g1, r1⟩ := hc i hi 1 _ rfl
      obtain ⟨u2, g2, r2⟩ := hc i hi 2 _ rfl
      obtain ⟨n0, rfl, _⟩ := r0.int Try.underlying3
      obtain ⟨n1, rfl, _⟩ := r1.int Try.underlying3
      obtain ⟨s, rfl, hs⟩ := r2.string Try.underlying9
      exact ⟨⟨n0, n1, s⟩, g0, g1, g2, hs⟩
    refine .inr ⟨ob, off, fun i => if h : i < len then Classical.choose (key i h) else default, rfl, hb, ?_, ?_, ?_, ?_⟩
    all_goals
      intro j hj
      simp only [dif_pos hj]
      have := Classical.choose_spec (key j hj)
    · exact this.1
    · exact this.2.1
    · exact this.2.2.1
    · exact this.2.2.2
  · exact .inl (by omega)
end
end Go.Proofs.Ytmngeljbcnifgaa
