/- The steps that came in, opened; what they do to a book. -/
import Derived.Test.YtbmbfgcdbpanjaaCrH
import Derived.Test.YtbmbfgcdbpanjaaOq
namespace Go.Proofs.Ytbmbfgcdbpanjaa
set_option linter.unusedSimpArgs false
set_option linter.unusedVariables false
open Go.ChangeShapes Go.WideShapes Go.ChangeAt Go.RowKit Go.Deep

/-- The steps that came in: where they lie. -/
structure Cops (w : World) (b off len : Nat) (os : Nat → Cop) : Prop where
  lt : b < w.heap.size
  k : ∀ j, j < len → w.cell? ⟨b, off + j * 2, none⟩ = some (.int .i64 (os j).k)
  a : ∀ j, j < len → w.cell? ⟨b, off + j * 2 + 1, none⟩ = some (.int .i64 (os j).a)
theorem Cops.kp {S : Nat → Prop} {w w' : World} {b off len : Nat} {os : Nat → Cop} (h : Cops w b off len os) (k : Kp S w w') (hn : ¬ S b) : Cops w' b off len os :=
  ⟨Nat.lt_of_lt_of_le h.lt k.size, fun j hj => (k.cell (p := ⟨b, _, none⟩) h.lt hn).trans (h.k j hj), fun j hj => (k.cell (p := ⟨b, _, none⟩) h.lt hn).trans (h.a j hj)⟩
section
variable {H : Type} {enc : TypeId × Value → H} {W : World}
set_option maxRecDepth 100000 in
theorem open_cops {base : Nat} {v : Value} {d : DataW H} {p : List MemPlace} (ok : Value.okWide Try.prog W .any base 32 v) (h : DataW.Trod enc Try.prog W 0 (fun _ => true) true 32 v d p) (hf : Fits Try.prog 32 d) :
    ∃ sa len cap, v = .slice sa len cap ∧ len * 16 ≤ 140737488351232 ∧ (len ≤ 0 ∨ ∃ ob off os, sa = some ⟨ob, off, none⟩ ∧ Cops W ob off len os) := by
  obtain ⟨sa, len, cap, rfl⟩ := okWide_slice (t := 32) Try.underlying32 ok
  have hC : Try.prog.cellsOf 34 = 2 := by kernel_rfl
  have hB : Try.prog.bytesOf 34 = 16 := by kernel_rfl
  obtain ⟨h1, h2, h3⟩ := open_recs (by omega) Try.underlying32 Try.underlying34 (by kernel_rfl) hC (by decide) h hf
  rw [hB] at h2
  refine ⟨sa, len, cap, rfl, by simp only [reachBytes] at h2; omega, ?_⟩
  by_cases hl : 0 < len
  · obtain ⟨ob, off, rfl, hb, hc⟩ := h3 hl
    have key : ∀ i, i < len → ∃ o : Cop, W.cell? ⟨ob, off + i * 2, none⟩ = some (.int .i64 o.k) ∧ W.cell? ⟨ob, off + i * 2 + 1, none⟩ = some (.int .i64 o.a) := by
      intro i hi
      obtain ⟨u0, g0, r0⟩ := hc i hi 0 _ rfl
      obtain ⟨u1, g1, r1⟩ := hc i hi 1 _ rfl
      obtain ⟨n0, rfl, _⟩ := r0.int Try.underlying3
      obtain ⟨n1, rfl, _⟩ := r1.int Try.underlying3
      exact ⟨⟨n0, n1⟩, g0, g1⟩
    refine .inr ⟨ob, off, fun i => if h : i < len then Classical.choose (key i h) else default, rfl, hb, ?_, ?_⟩
    all_goals
      intro j hj
      simp only [dif_pos hj]
      have := Classical.choose_spec (key j hj)
    · exact this.1
    · exact this.2
  · exact .inl (by omega)
end
theorem act_grows (B : Bk) (o : Cop) : (B.act o).wait.length ≤ B.wait.length + 1 ∧ (B.act o).ended.length = (if o.k = 1 then B.ended.length + 1 else B.ended.length) := by
  unfold Bk.act Bk.create Bk.resume Bk.back Bk.finish Bk.close
  repeat' split
  all_goals first | omega | (constructor <;> (try simp) <;> (try omega) <;> contradiction) | (constructor <;> simp <;> omega)
end Go.Proofs.Ytbmbfgcdbpanjaa
