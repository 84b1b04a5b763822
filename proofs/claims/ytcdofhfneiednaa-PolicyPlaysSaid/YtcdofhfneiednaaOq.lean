/- A slice of integers that came in, opened: nil or empty, or a row of cells that were there; its length is within the reach. -/
import Derived.Test.YtcdofhfneiednaaOp
namespace Go.Proofs.Ytcdofhfneiednaa
set_option linter.unusedSimpArgs false
set_option linter.unusedVariables false
open Go.ChangeShapes Go.WideShapes Go.ChangeAt Go.RowKit Go.Deep

section
variable {H : Type} {enc : TypeId × Value → H} {P : Program} {w : World} {base : Nat} {held : Bool}

theorem open_row {r : Reach} {b0 : Nat} {t e : TypeId} {k : IntKind} {v : Value} {d : DataW H} {p : List MemPlace} (ht : P.underlying t = some (.slice e)) (he : P.underlying e = some (.int k)) (hC : P.cellsOf e = 1)
    (hv : Value.okWide P w r b0 t v) (h : DataW.Trod enc P w base (fun _ => true) held t v d p) (hf : Fits P t d) :
    ∃ (ao : Option Addr) (len cap : Nat) (zs : Nat → Int), v = .slice ao len cap ∧ len ≤ cap ∧ cap * P.bytesOf e ≤ reachBytes ∧
      (len = 0 ∨ ∃ b off, ao = some ⟨b, off, none⟩ ∧ b < w.heap.size ∧ (∀ j, j < len → w.cell? ⟨b, off + j, none⟩ = some (.int k (zs j))) ∧ ∀ j, j < len → (Lit.int k (zs j)).wf = true) := by
  obtain ⟨ao, len, cap, rfl⟩ := okWide_slice ht hv
  obtain ⟨fuel, hh⟩ := h
  rcases open_ints ht he hC hh with ⟨hcs, hx⟩ | ⟨a, len', cap', zs, hcs, hb, hle, hm, hz, hx, hcell, hw⟩
  · simp [Value.cells] at hcs
    obtain ⟨rfl, rfl, rfl⟩ := hcs
    exact ⟨_, _, _, fun _ => 0, rfl, Nat.le_refl _, by simp, .inl rfl⟩
  · simp [Value.cells] at hcs
    obtain ⟨rfl, rfl, rfl⟩ := hcs
    simp only [if_true] at hz
    simp only [Prod.mk.injEq] at hx
    obtain ⟨rfl, -⟩ := hx
    refine ⟨_, _, _, fun j => zs.getD j 0, rfl, hle, ?_, ?_⟩
    · have := fits_len ht hf
      simp only [lits, List.length_map, List.length_take, List.length_drop] at this
      rwa [show min len zs.length + (zs.length - len) = cap by omega] at this
    · by_cases h0 : len = 0
      · exact .inl h0
      right
      obtain ⟨b, off, spot⟩ := a
      have hc0 := hcell 0 (by omega)
      have hsp : spot = none := by simpa [Addr.add] using World.cell?_spot hc0
      subst hsp
      have hbl : b < w.heap.size := by
        have := World.block_lt_of_cell? w _ hc0
        simpa [Addr.add] using this
      refine ⟨b, off, rfl, hbl, fun j hj => ?_, fun j hj => hw _ ?_⟩
      · have h1 := hcell j (by omega)
        rwa [show (⟨b, off, none⟩ : Addr).add j = ⟨b, off + j, none⟩ from by
          unfold Addr.add
          split
          · rename_i h; simp [show j = 0 by omega]
          · rfl] at h1
      · show zs.getD j 0 ∈ zs
        rw [List.getD_eq_getElem?_getD, List.getElem?_eq_getElem (by omega)]; exact List.getElem_mem _
end
end Go.Proofs.Ytcdofhfneiednaa
