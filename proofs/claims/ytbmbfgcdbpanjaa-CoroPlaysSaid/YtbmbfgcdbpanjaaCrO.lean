/- The document's book of threads: where it lies; Running, Deep, is, Status, New. -/
import Derived.Test.YtbmbfgcdbpanjaaCrM
namespace Go.Proofs.Ytbmbfgcdbpanjaa
set_option linter.unusedSimpArgs false
set_option linter.unusedVariables false
open Go.RowKit

def ints (l : List Int) : List Value := l.map (fun (i : Int) => Value.int .i64 i)
def codes (B : Bk) : List Int := (List.range B.ended.length).map (fun (i : Nat) => B.code (i : Nat))
theorem ints_len (l : List Int) : (ints l).length = l.length := by simp [ints]
theorem codes_len (B : Bk) : (codes B).length = B.ended.length := by simp [codes]
theorem codes_at {B : Bk} {i : Nat} (h : i < B.ended.length) : (codes B)[i]? = some (B.code (i : Nat)) := by simp [codes, h]
/-- Who had whom run. -/
structure ByOk (B : Bk) (by' : List Int) : Prop where
  len : by'.length = B.ended.length
  pre : ∀ i, i + 1 < B.wait.length → by'[B.wait.getD (i + 1) 0]? = some ((B.wait.getD i 0 : Nat) : Int)
/-- The document's book over the blocks F. -/
def RBook (w : World) (c : Nat) (B : Bk) (F : Nat → Prop) : Prop :=
  ∃ vl vb by', Blk w c 45 #[vl, vb] ∧ w.ownsRow 0 3 1 vl B.ended.length (ints (codes B)) ∧ w.ownsRow 0 3 1 vb B.ended.length (ints by') ∧ (∀ k, vl.ownBlock = some k → vb.ownBlock ≠ some k) ∧ ByOk B by' ∧ BOk B ∧ F c ∧ (∀ k, vl.ownBlock = some k → F k) ∧ (∀ k, vb.ownBlock = some k → F k)
theorem RBook.kp {S : Nat → Prop} {w w' : World} {b : Nat} {B : Bk} {F : Nat → Prop} (h : RBook w b B F) (k : Kp S w w') (hn : ∀ k, k < w.heap.size → F k → ¬ S k) : RBook w' b B F := by
  obtain ⟨vl, vb, by', h1, h2, h3, h4, h5, h6, h7, h8, h9⟩ := h
  exact ⟨vl, vb, by', Blk.kp h1 k (hn b h1.lt h7), row_kp h2 k (fun g hg => hn g (h2.lt g hg).2 (h8 g hg)), row_kp h3 k (fun g hg => hn g (h3.lt g hg).2 (h9 g hg)), h4, h5, h6, h7, h8, h9⟩
theorem RBook.ok {w : World} {b : Nat} {B : Bk} {F : Nat → Prop} (h : RBook w b B F) : BOk B := by obtain ⟨vl, vb, by', h1, h2, h3, h4, h5, h6, _⟩ := h; exact h6
theorem RBook.lt {w : World} {b : Nat} {B : Bk} {F : Nat → Prop} (h : RBook w b B F) : b < w.heap.size := by obtain ⟨vl, vb, by', h1, _⟩ := h; exact h1.lt
theorem RBook.old {w : World} {b : Nat} {B : Bk} {F : Nat → Prop} (h : RBook w b B F) : RBook w b B (fun k => F k ∧ k < w.heap.size) := by
  obtain ⟨vl, vb, by', h1, h2, h3, h4, h5, h6, h7, h8, h9⟩ := h
  exact ⟨vl, vb, by', h1, h2, h3, h4, h5, h6, ⟨h7, h1.lt⟩, fun k hk => ⟨h8 k hk, (h2.lt k hk).2⟩, fun k hk => ⟨h9 k hk, (h3.lt k hk).2⟩⟩
theorem row_cell {w : World} {g cap n : Nat} {l : List Int} (h : w.ownsRow 0 3 1 (.slice (some ⟨g, 0, none⟩) n cap) n (ints l)) (i : Nat) (hi : i < n) {x : Int} (hx : l[i]? = some x) : w.cell? ⟨g, i, none⟩ = some (.int .i64 x) := by
  rw [World.ownsRow.cellAt h i (by omega)]
  unfold ints
  rw [List.getElem?_map, hx]
  rfl
theorem run_in {B : Bk} (h : BOk B) : B.run ∈ B.wait := by rw [wait_split h]; simp
theorem run_lt {B : Bk} (h : BOk B) : B.run < B.ended.length := h.lt _ (run_in h)
/-- How a thread stands. -/
theorem code_nat {B : Bk} {k : Nat} (hk : k < B.ended.length) : B.code k = if B.ended.getD k false = true then 3 else if k = B.run then 1 else if k ∈ B.wait then 2 else 0 := by
  unfold Bk.code
  rw [if_neg (by omega), Int.toNat_natCast]
  congr 1
  by_cases h1 : k = B.run
  · rw [if_pos (by omega), if_pos h1]
  · rw [if_neg (by omega), if_neg h1]
    congr 1
    unfold hasN
    rw [List.any_eq_true]
    simp only [eq_iff_iff]
    constructor
    · rintro ⟨x, hx, he⟩
      simp at he
      have : x = k := by omega
      exact this ▸ hx
    · intro h
      exact ⟨k, h, by simp⟩

set_option maxRecDepth 100000 in
theorem rnewb_any (w : World) : Calls Try.prog 18 #[] w fun e w' => ∃ b F, e = .returned (.pointer (some ⟨b, 0, none⟩)) ∧ RBook w' b ⟨[0], [false]⟩ F ∧ (∀ k, F k → w.heap.size ≤ k) ∧ Below w.heap.size w w' := by
  go_enter Try.func18, Try.ntmps18
  go_wp2
  go_returns
  refine ⟨_, fun k => w.heap.size ≤ k, rfl, ⟨_, _, [-1], Blk.new (by simp), ?_, ?_, ?_, ⟨rfl, fun i hi => by simp at hi⟩, ⟨rfl, by simp, by simp, by simp, by simp⟩, by omega, ?_, ?_⟩, fun _ h => h, by go_grown⟩
  · exact row_kp (World.ownsRow_lit (base := 0) (e := 3) (size := 1) w #[.int .i64 1] 1 (by omega) (by unfold maxLen; omega) rfl) (((Kp.refl (fun _ => False) _).alloc _).alloc _) (fun _ _ h => h)
  · have h := World.ownsRow_lit (base := 0) (e := 3) (size := 1) (w.alloc (.cells #[.int .i64 1] 3)) #[.int .i64 (-1)] 1 (by omega) (by unfold maxLen; omega) rfl
    rw [show (w.alloc (.cells #[.int .i64 1] 3)).heap.size = w.heap.size + 1 by simp] at h
    exact row_kp h ((Kp.refl (fun _ => False) _).alloc _) (fun _ _ h => h)
  · intro k hk; simp [Value.ownBlock] at hk ⊢; omega
  · intro k hk; simp [Value.ownBlock] at hk; omega
  · intro k hk; simp [Value.ownBlock] at hk; omega

set_option maxRecDepth 100000 in
set_option maxHeartbeats 1000000 in
theorem rrunning_book (b : Nat) (B : Bk) (F : Nat → Prop) (w : World) (h : RBook w b B F) :
    Calls Try.prog 20 #[.pointer (some ⟨b, 0, none⟩)] w fun e w' => e = .returned (.int .i64 (B.run : Nat)) ∧ Kp (fun _ => False) w w' := by
  have hrl := run_lt h.ok
  have hsm := h.ok.small
  obtain ⟨vl, vb, by', h1, h2, h3, h4, h5, h6, h7, h8, h9⟩ := h
  obtain ⟨g, cap, rfl⟩ := row_some h2 h6.lpos
  have hg := (h2.lt g rfl).2
  have hb := h1.lt
  have d0 := h1.cell 0 (.slice (some ⟨g, 0, none⟩) B.ended.length cap) rfl
  have H2 := Lib.hid h2; have H6 := Lib.hid h6
  clear h1 h2 h3 h4 h5 h6 h7 h8 h9
  go_enter Try.func20, Try.ntmps20
  go_wp2_with fail
  go_loopw [10] (fun iv wr => ∃ i : Nat, iv = .int .i64 i ∧ i ≤ B.run ∧ Kp (fun _ => False) w wr) (fun iv _ => B.ended.length - (intOf iv).toNat)
  case atStart => exact ⟨0, rfl, by omega, Kp.refl _ _⟩
  case round =>
    obtain ⟨i, rfl, hi, kx⟩ := hrel
    have hlt : (i : Int) < B.ended.length := by omega
    have d1 := (kx.cell (p := ⟨g, i, none⟩) hg (fun h => h)).trans (row_cell H2.out i (by omega) (codes_at (by omega)))
    have hgl := Nat.lt_of_lt_of_le hg kx.size
    have hc := code_run H6.out (k := i) (by omega)
    by_cases he : i = B.run
    · have hc1 := hc.2 he
      rw [hc1] at d1
      have HE := Lib.hid he; clear hc hc1 he
      go_wp2
      go_returns
      exact ⟨ret_int (by rw [← HE.out]), kx⟩
    · have hc1 : ¬ B.code (i : Nat) = 1 := fun h => he (hc.1 h)
      have q : (B.code (i : Nat) == 1) = false := by simpa using hc1
      clear hc hc1
      have KX := Lib.hid kx; clear kx
      generalize B.code (i : Nat) = x at *
      go_wp2
      go_roundw
      case rel => exact ⟨i + 1, by go_num, by omega, KX.out⟩
      case measure => simp [intOf]; omega
set_option maxRecDepth 100000 in
set_option maxHeartbeats 1000000 in
theorem rdeep_book (b : Nat) (B : Bk) (F : Nat → Prop) (w : World) (h : RBook w b B F) :
    Calls Try.prog 21 #[.pointer (some ⟨b, 0, none⟩)] w fun e w' => e = .returned (.int .i64 (B.wait.length - 1 : Nat)) ∧ Kp (fun _ => False) w w' := by
  have hsm := h.ok.small
  obtain ⟨vl, vb, by', h1, h2, h3, h4, h5, h6, h7, h8, h9⟩ := h
  obtain ⟨g, cap, rfl⟩ := row_some h2 h6.lpos
  have hg := (h2.lt g rfl).2
  have hb := h1.lt
  have d0 := h1.cell 0 (.slice (some ⟨g, 0, none⟩) B.ended.length cap) rfl
  have H2 := Lib.hid h2; have H6 := Lib.hid h6
  clear h1 h2 h3 h4 h5 h6 h7 h8 h9
  go_enter Try.func21, Try.ntmps21
  go_wp2_with fail
  go_loopw [3, 11] (fun nv iv wr => ∃ i : Nat, iv = .int .i64 i ∧ i ≤ B.ended.length ∧ nv = .int .i64 (cnt B 2 i) ∧ Kp (fun _ => False) w wr) (fun _ iv _ => B.ended.length - (intOf iv).toNat)
  case atStart => exact ⟨0, rfl, by omega, rfl, Kp.refl _ _⟩
  case round =>
    obtain ⟨i, rfl, hi, rfl, kx⟩ := hrel
    have hcl := cnt_le B 2 i
    by_cases hlt : (i : Int) < B.ended.length
    · have d1 := (kx.cell (p := ⟨g, i, none⟩) hg (fun h => h)).trans (row_cell H2.out i (by omega) (codes_at (by omega)))
      have hgl := Nat.lt_of_lt_of_le hg kx.size
      have hs := cnt_succ B 2 i
      have KX := Lib.hid kx; clear kx
      by_cases he : B.code (i : Nat) = 2
      · rw [he] at d1
        rw [if_pos he] at hs
        have HS := Lib.hid hs; clear hs he
        generalize cnt B 2 i = c at *
        go_wp2
        go_roundw
        case rel => exact ⟨i + 1, by go_num, by omega, by rw [HS.out]; simp, KX.out⟩
        case measure => simp [intOf]; omega
      · have q : (B.code (i : Nat) == 2) = false := by simpa using he
        rw [if_neg he] at hs
        have HS := Lib.hid hs; clear hs he
        generalize cnt B 2 i = c at *
        generalize B.code (i : Nat) = x at *
        go_wp2
        go_roundw
        case rel => exact ⟨i + 1, by go_num, by omega, by rw [HS.out]; simp, KX.out⟩
        case measure => simp [intOf]; omega
    · obtain rfl : i = B.ended.length := by omega
      rw [cnt_wait H6.out]
      have KX := Lib.hid kx; clear kx hcl
      go_wp2
      go_returns
      exact ⟨rfl, KX.out⟩
set_option maxRecDepth 100000 in
theorem ris_book (b : Nat) (B : Bk) (F : Nat → Prop) (id : Int) (w : World) (h : RBook w b B F) :
    Calls Try.prog 33 #[.pointer (some ⟨b, 0, none⟩), .int .i64 id] w fun e w' => e = .returned (.bool (!decide (B.code id = -1))) ∧ Kp (fun _ => False) w w' := by
  have hsm := h.ok.small
  obtain ⟨vl, vb, by', h1, h2, h3, h4, h5, h6, h7, h8, h9⟩ := h
  obtain ⟨ao, cap, rfl⟩ := row_form h2
  have hb := h1.lt
  have d0 := h1.cell 0 (.slice ao B.ended.length cap) rfl
  clear h1 h2 h3 h4 h5 h6 h7 h8 h9
  have hc : B.code id = -1 ↔ id < 0 ∨ (B.ended.length : Int) ≤ id := by
    unfold Bk.code
    constructor
    · intro h
      split at h
      · assumption
      · split at h
        · omega
        · split at h
          · omega
          · split at h <;> omega
    · intro h; rw [if_pos h]
  by_cases e1 : id < 0
  · rw [show (!decide (B.code id = -1)) = false from by simp [hc, e1]]
    clear hc
    go_enter Try.func33, Try.ntmps33
    go_wp2
    go_returns
    exact ⟨rfl, Kp.refl _ _⟩
  · by_cases e2 : (B.ended.length : Int) ≤ id
    · rw [show (!decide (B.code id = -1)) = false from by simp [hc, e2]]
      clear hc
      go_enter Try.func33, Try.ntmps33
      go_wp2
      go_returns
      exact ⟨ret_bool (by simp; omega), Kp.refl _ _⟩
    · rw [show (!decide (B.code id = -1)) = true from by simp [hc]; omega]
      clear hc
      go_enter Try.func33, Try.ntmps33
      go_wp2
      go_returns
      exact ⟨rfl, Kp.refl _ _⟩
theorem idx4 : ∀ w : World, (Instr.index 59 (.agg #[.string ⟨#[115, 117, 115, 112, 101, 110, 100, 101, 100]⟩, .string ⟨#[114, 117, 110, 110, 105, 110, 103]⟩, .string ⟨#[110, 111, 114, 109, 97, 108]⟩, .string ⟨#[100, 101, 97, 100]⟩]) (.int .i64 0)).run Try.prog w = .ok (.string ⟨#[115, 117, 115, 112, 101, 110, 100, 101, 100]⟩) w ∧
    (Instr.index 59 (.agg #[.string ⟨#[115, 117, 115, 112, 101, 110, 100, 101, 100]⟩, .string ⟨#[114, 117, 110, 110, 105, 110, 103]⟩, .string ⟨#[110, 111, 114, 109, 97, 108]⟩, .string ⟨#[100, 101, 97, 100]⟩]) (.int .i64 1)).run Try.prog w = .ok (.string ⟨#[114, 117, 110, 110, 105, 110, 103]⟩) w ∧
    (Instr.index 59 (.agg #[.string ⟨#[115, 117, 115, 112, 101, 110, 100, 101, 100]⟩, .string ⟨#[114, 117, 110, 110, 105, 110, 103]⟩, .string ⟨#[110, 111, 114, 109, 97, 108]⟩, .string ⟨#[100, 101, 97, 100]⟩]) (.int .i64 2)).run Try.prog w = .ok (.string ⟨#[110, 111, 114, 109, 97, 108]⟩) w ∧
    (Instr.index 59 (.agg #[.string ⟨#[115, 117, 115, 112, 101, 110, 100, 101, 100]⟩, .string ⟨#[114, 117, 110, 110, 105, 110, 103]⟩, .string ⟨#[110, 111, 114, 109, 97, 108]⟩, .string ⟨#[100, 101, 97, 100]⟩]) (.int .i64 3)).run Try.prog w = .ok (.string ⟨#[100, 101, 97, 100]⟩) w :=
  fun _ => ⟨by kernel_rfl, by kernel_rfl, by kernel_rfl, by kernel_rfl⟩
set_option maxRecDepth 100000 in
theorem rstatus_book (b : Nat) (B : Bk) (F : Nat → Prop) (id : Int) (w : World) (h : RBook w b B F) :
    Calls Try.prog 22 #[.pointer (some ⟨b, 0, none⟩), .int .i64 id] w fun e w' => e = .returned (.string (word (B.code id))) ∧ Kp (fun _ => False) w w' := by
  have HB := Lib.hid h
  by_cases hc : B.code id = -1
  · have q : (!decide (B.code id = -1)) = false := by simp [hc]
    rw [show word (B.code id) = ⟨#[]⟩ from by rw [hc]; rfl]
    clear hc h
    go_enter Try.func22, Try.ntmps22
    go_wp2_with fail
    refine (ris_book b B F id _ HB.out).mono ?_
    rw [q]
    rintro e wa ⟨rfl, hka⟩
    go_wp2
    go_returns
    exact ⟨rfl, hka⟩
  · have q : (!decide (B.code id = -1)) = true := by simp [hc]
    have hid : ¬ id < 0 ∧ ¬ (B.ended.length : Int) ≤ id := by
      unfold Bk.code at hc
      constructor <;> (intro h; rw [if_pos (by omega)] at hc; exact hc rfl)
    obtain ⟨n, rfl⟩ : ∃ n : Nat, id = n := ⟨id.toNat, by omega⟩
    have hn : n < B.ended.length := by omega
    have hsm := h.ok.small
    obtain ⟨vl, vb, by', h1, h2, h3, h4, h5, h6, h7, h8, h9⟩ := h
    obtain ⟨g, cap, rfl⟩ := row_some h2 h6.lpos
    have hg := (h2.lt g rfl).2
    have H1 := Lib.hid h1
    have c0 := row_cell h2 n hn (codes_at hn)
    have HC := Lib.hid c0
    clear h1 h2 h3 h4 h5 h6 h7 h8 h9 hid c0
    rcases code_in' hn with e | e | e | e
    all_goals
      rw [e] at HC ⊢
      go_enter Try.func22, Try.ntmps22
      go_wp2_with fail
      refine (ris_book b B F n _ HB.out).mono ?_
      rw [q]
      rintro e wa ⟨rfl, hka⟩
      have d0 := (Blk.kp H1.out hka (fun h => h)).cell 0 (.slice (some ⟨g, 0, none⟩) B.ended.length cap) rfl
      have c1 := (hka.cell (p := ⟨g, n, none⟩) hg (fun h => h)).trans HC.out
      have hb := (Blk.kp H1.out hka (fun h => h)).lt
      have hg' := Nat.lt_of_lt_of_le hg hka.size
      have hix := idx4
      go_wp2
      go_returns
      exact ⟨rfl, hka⟩
end Go.Proofs.Ytbmbfgcdbpanjaa
