/- Arguments opened: a struct of one-cell fields by value, a slice of such structs; with the bounds that the reach gives. -/
import Derived.Deep.Slices
import Derived.Deep.Fields
import Derived.ProofKit
import Derived.SizedLaws
import Derived.OpenShut
namespace Go.Proofs.Ytcdofhfneiednaa
set_option linter.unusedSimpArgs false
set_option linter.unusedVariables false
open Go.ChangeShapes Go.WideShapes Go.ChangeAt Go.RowKit Go.Deep

section
variable {H : Type} {enc : TypeId × Value → H} {P : Program} {w : World} {base : Nat} {spare : Nat → Bool} {held : Bool}

/-- A reading whose parts are within the reach. -/
def Fits (P : Program) (t : TypeId) (d : DataW H) : Prop := ∀ n ∈ d.weights P t, n ≤ reachBytes

theorem fits_arg {ts : List TypeId} {ds : List (DataW H)} (h : (DataW.weightsEach P ts ds).all (· ≤ reachBytes) = true) {j : Nat} {t : TypeId} {d : DataW H} (ht : ts[j]? = some t) (hd : ds[j]? = some d) : Fits P t d := by
  intro n hn
  have := List.all_eq_true.1 h _ (DataW.weights_mem_each ht hd n hn)
  simpa using this
theorem weights_mem_all {e : TypeId} : ∀ {ds : List (DataW H)} {j : Nat} {d : DataW H}, ds[j]? = some d → ∀ n ∈ d.weights P e, n ∈ DataW.weightsAll P e ds
  | d0 :: ds, 0, d, hd, n, hn => by
    simp only [List.getElem?_cons_zero, Option.some.injEq] at hd
    subst hd
    simp only [DataW.weightsAll, List.mem_append]
    exact Or.inl hn
  | d0 :: ds, j + 1, d, hd, n, hn => by
    simp only [List.getElem?_cons_succ] at hd
    simp only [DataW.weightsAll, List.mem_append]
    exact Or.inr (weights_mem_all hd n hn)
  | [], _, _, hd, _, _ => by simp at hd
theorem fits_field {t : TypeId} {fs : Array Field} {parts : List (DataW H)} (ht : P.underlying t = some (.struct fs)) (h : Fits P t (.agg parts)) {j : Nat} {f : Field} {d : DataW H} (hf : fs[j]? = some f) (hd : parts[j]? = some d) : Fits P f.type d := by
  intro n hn
  refine h n ?_
  simp only [DataW.weights, ht]
  exact DataW.weights_mem_each (by simp [hf]) hd n hn
theorem fits_elem {t e : TypeId} {elems spr : List (DataW H)} (ht : P.underlying t = some (.slice e)) (h : Fits P t (.slice elems spr)) {j : Nat} {d : DataW H} (hd : elems[j]? = some d) : Fits P e d := by
  intro n hn
  refine h n ?_
  simp only [DataW.weights, ht, List.mem_cons, List.mem_append]
  exact Or.inr (Or.inl (weights_mem_all hd n hn))
theorem fits_len {t e : TypeId} {elems spr : List (DataW H)} (ht : P.underlying t = some (.slice e)) (h : Fits P t (.slice elems spr)) : (elems.length + spr.length) * P.bytesOf e ≤ reachBytes := by
  refine h _ ?_
  simp [DataW.weights, ht]
theorem fits_string {t : TypeId} {bytes : List UInt8} (h : Fits P t (.lit (.string bytes) : DataW H)) : bytes.length ≤ 140737488351232 := by
  have := h bytes.length (by simp [DataW.weights])
  simpa [reachBytes] using this

/-- One cell of type t that reads, within the reach. -/
def Reads (enc : TypeId × Value → H) (P : Program) (w : World) (base : Nat) (spare : Nat → Bool) (held : Bool) (t : TypeId) (u : Value) : Prop :=
  ∃ n y, DataW.trod enc P w base spare held n t [u] = some y ∧ Fits P t y.1

theorem Reads.int {k : IntKind} {t : TypeId} {u : Value} (ht : P.underlying t = some (.int k)) (h : Reads enc P w base spare held t u) : ∃ n, u = .int k n ∧ (Lit.int k n).wf = true := by
  obtain ⟨m, y, hy, _⟩ := h
  obtain ⟨n, hc, _, hw⟩ := DataW.trod_int ht hy
  exact ⟨n, by simpa using hc, hw⟩
theorem Reads.bool {t : TypeId} {u : Value} (ht : P.underlying t = some .bool) (h : Reads enc P w base spare held t u) : ∃ b, u = .bool b := by
  obtain ⟨m, y, hy, _⟩ := h
  obtain ⟨n, hc, _⟩ := DataW.trod_bool ht hy
  exact ⟨n, by simpa using hc⟩
theorem Reads.string {t : TypeId} {u : Value} (ht : P.underlying t = some .string) (h : Reads enc P w base spare held t u) : ∃ s : ByteArray, u = .string s ∧ s.size ≤ 140737488351232 := by
  obtain ⟨m, y, hy, hf⟩ := h
  obtain ⟨s, hc, hx, _⟩ := DataW.trod_string ht hy
  refine ⟨s, by simpa using hc, ?_⟩
  rw [hx] at hf
  have := fits_string hf
  simpa using this

theorem fields_read {t : TypeId} {fs : Array Field} {fuel : Nat} {cs : List Value} {x : DataW H × List MemPlace} (ht : P.underlying t = some (.struct fs)) (hone : oneCellFields P fs = true) (hC : P.cellsOf t = fs.size)
    (h : DataW.trod enc P w base spare held fuel t cs = some x) (hf : Fits P t x.1) : cs.length = fs.size ∧ ∀ (j : Nat) (f : Field) (u : Value), fs[j]? = some f → cs[j]? = some u → Reads enc P w base spare held f.type u := by
  obtain ⟨ys, n, _, hx, hl, hyl, hg⟩ := DataW.trod_struct ht h
  refine ⟨by omega, fun j f u hj hu => ?_⟩
  have hjs : j < fs.size := (Array.getElem?_eq_some_iff.1 hj).1
  obtain ⟨ho, hk⟩ := hone_of hone j f hj
  have hr := hg j f hj
  rw [ho, hk] at hr
  have hcu : (cs.drop j).take 1 = [u] := by
    obtain ⟨hj', he⟩ := List.getElem?_eq_some_iff.1 hu
    rw [List.drop_eq_getElem_cons hj', he]
    rfl
  rw [hcu] at hr
  have hys : ys[j]? = some (ys[j]'(by omega)) := List.getElem?_eq_getElem (by omega)
  refine ⟨n, _, hr.trans hys, ?_⟩
  rw [hx] at hf
  exact fits_field ht hf hj (by simp [hys])

/-- A struct of one-cell fields by value. -/
theorem open_fields {r : Reach} {b0 : Nat} {t : TypeId} {fs : Array Field} {v : Value} {d : DataW H} {p : List MemPlace} (ht : P.underlying t = some (.struct fs)) (hone : oneCellFields P fs = true) (hC : P.cellsOf t = fs.size)
    (hv : Value.okWide P w r b0 t v) (h : DataW.Trod enc P w base spare held t v d p) (hf : Fits P t d) :
    ∃ vs : List Value, v = .agg vs.toArray ∧ vs.length = fs.size ∧ ∀ (j : Nat) (f : Field) (u : Value), fs[j]? = some f → vs[j]? = some u → Reads enc P w base spare held f.type u := by
  obtain ⟨cs, rfl, hsz⟩ := okWide_struct ht hv
  obtain ⟨fuel, hh⟩ := h
  obtain ⟨h1, h2⟩ := fields_read ht hone hC (by simpa [Value.cells] using hh) hf
  exact ⟨cs.toList, by simp, h1, h2⟩

/-- A slice of structs of one-cell fields. -/
theorem open_recs {t e : TypeId} {fs : Array Field} {ao : Option Addr} {len cap : Nat} {d : DataW H} {p : List MemPlace} (hl : len = 0 ∨ 0 < len) (ht : P.underlying t = some (.slice e)) (he : P.underlying e = some (.struct fs)) (hone : oneCellFields P fs = true) (hC : P.cellsOf e = fs.size) (h0 : 0 < fs.size)
    (h : DataW.Trod enc P w base (fun _ => true) held t (.slice ao len cap) d p) (hf : Fits P t d) :
    len ≤ cap ∧ cap * P.bytesOf e ≤ reachBytes ∧ (0 < len → ∃ b off, ao = some ⟨b, off, none⟩ ∧ b < w.heap.size ∧
      ∀ i, i < len → ∀ (j : Nat) (f : Field), fs[j]? = some f → ∃ u, w.cell? ⟨b, off + i * fs.size + j, none⟩ = some u ∧ Reads enc P w base (fun _ => true) held f.type u) := by
  obtain ⟨fuel, hh⟩ := h
  rcases open_slice ht hh with ⟨hcs, hx⟩ | ⟨a, len', cap', m, n, D, Pl, hcs, hb, hle, hm, hmm, hx, hi⟩
  · simp [Value.cells] at hcs
    obtain ⟨rfl, rfl, rfl⟩ := hcs
    exact ⟨Nat.le_refl _, by simp, fun h => absurd h (Nat.lt_irrefl _)⟩
  · simp [Value.cells] at hcs
    obtain ⟨rfl, rfl, rfl⟩ := hcs
    simp only [if_true] at hmm
    subst hmm
    simp only [Prod.mk.injEq] at hx
    obtain ⟨rfl, -⟩ := hx
    refine ⟨hle, ?_, fun hl0 => ?_⟩
    · have := fits_len ht hf
      simpa [show len + (m - len) = m by omega] using this
    · obtain ⟨b, off, spot⟩ := a
      have first := hi 0 (by omega)
      obtain ⟨cs', hc', _⟩ := first
      rw [hC] at hc'
      obtain ⟨_, hcl, hat⟩ := World.cells?_some hc'
      have hc0 := hat 0 h0
      have hsp : spot = none := by simpa [Addr.add] using World.cell?_spot (hc0.trans (List.getElem?_eq_getElem (by omega)))
      subst hsp
      have hbl : b < w.heap.size := by
        have := World.block_lt_of_cell? w _ (hc0.trans (List.getElem?_eq_getElem (by omega)))
        simpa [Addr.add] using this
      refine ⟨b, off, rfl, hbl, fun i him j f hj => ?_⟩
      obtain ⟨cs', hc', ht'⟩ := hi i (by omega)
      rw [hC] at hc'
      obtain ⟨_, hcl, hat⟩ := World.cells?_some hc'
      have hjs : j < fs.size := (Array.getElem?_eq_some_iff.1 hj).1
      have hfe : Fits P e (D i, Pl i).1 := fits_elem ht hf (j := i) (by simp [him])
      obtain ⟨_, hr⟩ := fields_read he hone hC ht' hfe
      have hu : cs'[j]? = some (cs'[j]'(by omega)) := List.getElem?_eq_getElem (by omega)
      have h1 := (hat j hjs).trans hu
      rw [add_add, show (⟨b, off, none⟩ : Addr).add (i * fs.size + j) = ⟨b, off + i * fs.size + j, none⟩ from by
        unfold Addr.add
        split
        · rename_i h; simp [show i * fs.size = 0 by omega, show j = 0 by omega]
        · simp [Nat.add_assoc]] at h1
      exact ⟨_, h1, hr j f _ hj hu⟩
end
end Go.Proofs.Ytcdofhfneiednaa
