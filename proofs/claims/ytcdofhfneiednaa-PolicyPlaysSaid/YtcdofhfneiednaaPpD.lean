/- The program's sites and the document's over blocks apart; a step of either. -/
import Derived.Test.YtcdofhfneiednaaPpC
import Derived.Test.YtcdofhfneiednaaPoR
namespace Go.Proofs.Ytcdofhfneiednaa
set_option linter.unusedSimpArgs false
set_option linter.unusedVariables false
open Go.RowKit

structure ShopK where
  t : TypeId
  te : TypeId
  tp : TypeId
  Sp : World → Nat → SS → (Nat → Prop) → Prop
  Y : Spy Sp
def ShopK.shop (K : ShopK) (w : World) (b : Nat) (S : Ss) (bs : List Nat) (F : Nat → Prop) : Prop := Shop K.t K.te K.tp K.Sp w b S bs F
def ShopK.then' (K : ShopK) (b : Nat) (S' : Ss) (bs : List Nat) (F : Nat → Prop) (w w' : World) : Prop := ShopThen K.t K.te K.tp K.Sp b S' bs F w w'
def kP : ShopK := ⟨99, 69, 24, Site, spy_site⟩
def kR : ShopK := ⟨85, 96, 35, RSite, spy_rsite⟩
def DuoK (K K' : ShopK) (R : Nat → Prop) (w : World) (b : Nat) (S : Ss) (bs : List Nat) (b' : Nat) (S' : Ss) (bs' : List Nat) : Prop :=
  ∃ F F', K.shop w b S bs F ∧ K'.shop w b' S' bs' F' ∧ (∀ k, F k → ¬ F' k) ∧ (∀ k, F k → R k) ∧ ∀ k, F' k → R k
section
variable {K K' : ShopK} {R : Nat → Prop} {w w' : World} {b b' : Nat} {S S' : Ss} {bs bs' : List Nat}
theorem DuoK.symm (h : DuoK K K' R w b S bs b' S' bs') : DuoK K' K R w b' S' bs' b S bs := by
  obtain ⟨F, F', h1, h2, h3, h4, h5⟩ := h
  exact ⟨F', F, h2, h1, fun k a c => h3 k c a, h5, h4⟩
theorem DuoK.kp {D : Nat → Prop} (h : DuoK K K' R w b S bs b' S' bs') (k : Kp D w w') (hn : ∀ k, k < w.heap.size → R k → ¬ D k) : DuoK K K' R w' b S bs b' S' bs' := by
  obtain ⟨F, F', h1, h2, h3, h4, h5⟩ := h
  exact ⟨F, F', Shop.kp K.Y h1 k (fun i hi hf => hn i hi (h4 i hf)), Shop.kp K'.Y h2 k (fun i hi hf => hn i hi (h5 i hf)), h3, h4, h5⟩
theorem DuoK.tell (h : DuoK K K' R w b S bs b' S' bs') (k : Kp (fun _ => False) w w') : DuoK K K' R w' b S bs b' S' bs' := h.kp k (fun _ _ _ h => h)
theorem DuoK.mono {R' : Nat → Prop} (h : DuoK K K' R w b S bs b' S' bs') (hr : ∀ k, R k → R' k) : DuoK K K' R' w b S bs b' S' bs' := by
  obtain ⟨F, F', h1, h2, h3, h4, h5⟩ := h
  exact ⟨F, F', h1, h2, h3, fun k hk => hr k (h4 k hk), fun k hk => hr k (h5 k hk)⟩
theorem DuoK.except (h : DuoK K K' R w b S bs b' S' bs') (k : Kp (fun _ => False) w w') {g : Nat} (hg : w.heap.size ≤ g) : DuoK K K' (fun k => R k ∧ k ≠ g) w' b S bs b' S' bs' := by
  obtain ⟨F, F', h1, h2, h3, h4, h5⟩ := h
  exact ⟨_, _, Shop.kp K.Y (Shop.old h1) k (fun _ _ _ h => h), Shop.kp K'.Y (Shop.old h2) k (fun _ _ _ h => h), fun k a c => h3 k a.1 c.1, fun k hk => ⟨h4 k hk.1, by have := hk.2; omega⟩, fun k hk => ⟨h5 k hk.1, by have := hk.2; omega⟩⟩
/-- A step of the first. -/
theorem duo_of {P : Program} {fn : FuncId} {args : Array Value} {r : Value} {S2 : Ss} (h : DuoK K K' R w b S bs b' S' bs') (hP : ∀ k, w.heap.size ≤ k → R k)
    (hc : ∀ F, K.shop w b S bs F → Calls P fn args w fun e w' => e = .returned r ∧ K.then' b S2 bs F w w') :
    Calls P fn args w fun e w' => e = .returned r ∧ DuoK K K' R w' b S2 bs b' S' bs' ∧ Kp R w w' := by
  obtain ⟨F, F', h1, h2, h3, h4, h5⟩ := h
  refine (hc F h1).mono fun e w' ⟨he, ht⟩ => ⟨he, ?_⟩
  obtain ⟨G, g1, g2, g3⟩ := ht
  refine ⟨⟨G, _, g1, Shop.kp K'.Y (Shop.old h2) g2 (fun k _ hf hF => h3 k hF hf.1), fun k hk hf => ?_, fun k hk => (g3 k hk).elim (h4 k) (hP k), fun k hk => h5 k hk.1⟩, g2.mono (fun k _ h => h4 k h)⟩
  rcases g3 k hk with h | h
  · exact h3 k h hf.1
  · have := hf.2; omega
theorem duo_of' {P : Program} {fn : FuncId} {args : Array Value} {r : Value} {S2 : Ss} (h : DuoK K K' R w b S bs b' S' bs') (hP : ∀ k, w.heap.size ≤ k → R k)
    (hc : ∀ F, K'.shop w b' S' bs' F → Calls P fn args w fun e w' => e = .returned r ∧ K'.then' b' S2 bs' F w w') :
    Calls P fn args w fun e w' => e = .returned r ∧ DuoK K K' R w' b S bs b' S2 bs' ∧ Kp R w w' :=
  (duo_of h.symm hP hc).mono fun e w' ⟨he, h1, h2⟩ => ⟨he, h1.symm, h2⟩
/-- One site's call. -/
theorem ShopK.calls {P : Program} {fn : FuncId} {args : Array Value} {r : Value} {F : Nat → Prop} {i : Nat} (h : K.shop w b S bs F) (hi : i < S.l.length) {s' : SS}
    (hc : ∀ Fi, K.Sp w (bs.getD i 0) S.l[i] Fi → Calls P fn args w fun e w' => e = .returned r ∧ SThen K.Sp (bs.getD i 0) s' Fi w w') :
    Calls P fn args w fun e w' => e = .returned r ∧ K.then' b { S with l := S.l.set i s' } bs F w w' := by
  obtain ⟨ev, lv, Fs, h⟩ := h
  refine (ShAt.calls K.Y ⟨Fs, h⟩ hi rfl hc).mono fun e w' ⟨he, F', q1, q2, q3⟩ => ⟨he, F', q1.shop, q2, q3⟩
end
abbrev Duo := DuoK kP kR
section
variable {R : Nat → Prop} {w w' : World} {b b' : Nat} {S S' : Ss} {bs bs' : List Nat}
theorem at_duo (h : Duo R w b S bs b' S' bs') (id : Int) (hP : ∀ k, w.heap.size ≤ k → R k) (hl : S.l.length ≤ 100000) (he : S.p.evs.length ≤ 100000) (hn : 0 ≤ S.n ∧ S.n ≤ 1000000) :
    Calls Try.prog 34 #[.pointer (some ⟨b, 0, none⟩), .int .i64 id] w fun e w' => e = .returned (atPtr bs id S.l.length) ∧ Duo R w' b (S.at' id) bs b' S' bs' ∧ Kp R w w' :=
  duo_of h hP fun F hF => at_shop b S bs F id w hF hl he hn
theorem rat_duo (h : Duo R w b S bs b' S' bs') (id : Int) (hP : ∀ k, w.heap.size ≤ k → R k) (hl : S'.l.length ≤ 100000) (he : S'.p.evs.length ≤ 100000) (hn : 0 ≤ S'.n ∧ S'.n ≤ 1000000) :
    Calls Try.prog 37 #[.pointer (some ⟨b', 0, none⟩), .int .i64 id] w fun e w' => e = .returned (atPtr bs' id S'.l.length) ∧ Duo R w' b S bs b' (S'.at' id) bs' ∧ Kp R w w' :=
  duo_of' h hP fun F hF => rat_shop b' S' bs' F id w hF hl he hn
theorem ask_duo (h : Duo R w b S bs b' S' bs') {i : Nat} (hi : i < S.l.length) (k ep : Int) (hP : ∀ k, w.heap.size ≤ k → R k) (hh : S.l[i].hits < 1000000000000) :
    Calls Try.prog 14 #[.pointer (some ⟨bs.getD i 0, 0, none⟩), .int .i64 k, .int .u64 ep] w fun e w' => e = .returned (.tuple #[.int .i64 (S.l[i].askN k ep), .bool (S.l[i].askIs k ep)]) ∧ Duo R w' b { S with l := S.l.set i (S.l[i].asked k ep) } bs b' S' bs' ∧ Kp R w w' :=
  duo_of h hP fun F hF => ShopK.calls hF hi fun Fi hFi => (ask_site (bs.getD i 0) S.l[i] k ep Fi w hFi hh).mono fun e w' ⟨he, h1, h2⟩ => ⟨he, Fi, h1, h2, fun _ h => .inl h⟩
theorem rask_duo (h : Duo R w b S bs b' S' bs') {i : Nat} (hi : i < S'.l.length) (k ep : Int) (hP : ∀ k, w.heap.size ≤ k → R k) (hh : S'.l[i].hits < 1000000000000) :
    Calls Try.prog 39 #[.pointer (some ⟨bs'.getD i 0, 0, none⟩), .int .i64 k, .int .u64 ep] w fun e w' => e = .returned (.tuple #[.int .i64 (S'.l[i].askN k ep), .bool (S'.l[i].askIs k ep)]) ∧ Duo R w' b S bs b' { S' with l := S'.l.set i (S'.l[i].asked k ep) } bs' ∧ Kp R w w' :=
  duo_of' h hP fun F hF => ShopK.calls hF hi fun Fi hFi => rask_site (bs'.getD i 0) S'.l[i] k ep Fi w hFi hh
theorem learn_duo (h : Duo R w b S bs b' S' bs') {i : Nat} (hi : i < S.l.length) (x : Ent) (hP : ∀ k, w.heap.size ≤ k → R k) (hh : S.l[i].rw < 1000000000000) :
    Calls Try.prog 16 #[.pointer (some ⟨bs.getD i 0, 0, none⟩), .int .i64 x.sh, .int .i64 x.sl, .int .u64 x.ep] w fun e w' => e = .returned (.tuple #[]) ∧ Duo R w' b { S with l := S.l.set i (S.l[i].learn x) } bs b' S' bs' ∧ Kp R w w' :=
  duo_of h hP fun F hF => ShopK.calls hF hi fun Fi hFi => learn_site (bs.getD i 0) S.l[i] x Fi w hFi hh
theorem rlearn_duo (h : Duo R w b S bs b' S' bs') {i : Nat} (hi : i < S'.l.length) (x : Ent) (hP : ∀ k, w.heap.size ≤ k → R k) (hh : S'.l[i].rw < 1000000000000) :
    Calls Try.prog 40 #[.pointer (some ⟨bs'.getD i 0, 0, none⟩), .int .i64 x.sh, .int .i64 x.sl, .int .u64 x.ep] w fun e w' => e = .returned (.tuple #[]) ∧ Duo R w' b S bs b' { S' with l := S'.l.set i (S'.l[i].learn x) } bs' ∧ Kp R w w' :=
  duo_of' h hP fun F hF => ShopK.calls hF hi fun Fi hFi => rlearn_site (bs'.getD i 0) S'.l[i] x Fi w hFi hh
theorem DuoK.owns (h : Duo R w b S bs b' S' bs') : OwnS R w b S bs := by obtain ⟨F, F', h1, h2, h3, h4, h5⟩ := h; exact ⟨F, h1, h4⟩
/-- What the document's side shows. -/
theorem DuoK.rcells (h : Duo R w b S bs b' S' bs') : ∃ ev lv, Blk w b' 85 (S'.cells ev lv) ∧ w.ownsRow 0 35 1 lv bs'.length (ptrs bs') ∧ bs'.length = S'.l.length := by
  obtain ⟨F, F', h1, ⟨ev, lv, Fs, hA⟩, h3, h4, h5⟩ := h
  exact ⟨ev, lv, hA.blk, hA.row, hA.many.len⟩
theorem DuoK.rsite (h : Duo R w b S bs b' S' bs') {i : Nat} (hi : i < S'.l.length) : ∃ ao ac, Blk w (bs'.getD i 0) 46 (S'.l[i].cells (.slice ao S'.l[i].l.length ac)) := by
  obtain ⟨F, F', h1, h2, h3, h4, h5⟩ := h
  obtain ⟨Fi, hs, _⟩ := Shop.site h2 hi
  obtain ⟨v, r1, r2, _⟩ := hs
  obtain ⟨ao, ac, rfl⟩ := r2.form
  exact ⟨ao, ac, r1⟩
/-- The document's, made behind the program's. -/
theorem duo_new (h : OwnS R w b S bs) (hP : ∀ k, w.heap.size ≤ k → R k) {F' : Nat → Prop} {w1 : World} {b' : Nat} (k1 : Kp (fun _ => False) w w1) (h1 : Shop 85 96 35 RSite w1 b' S' bs' F') (hF : ∀ k, F' k → w.heap.size ≤ k) : Duo R w1 b S bs b' S' bs' := by
  obtain ⟨F, q1, q2⟩ := h
  exact ⟨_, F', Shop.kp spy_site (Shop.old q1) k1 (fun _ _ _ h => h), h1, fun k a c => by have := hF k c; have := a.2; omega, fun k hk => q2 k hk.1, fun k hk => hP k (hF k hk)⟩
end

/-- Hits and rewrites stay few. -/
def Few (c : Int) (l : List SS) : Prop := ∀ s ∈ l, s.rw ≤ c ∧ s.hits ≤ c
theorem hits_app1 (s : SS) (v : Ev) : (app1 s v).hits = s.hits := by
  unfold app1 SS.flush SS.evict SS.dep SS.forget
  have := (rw_deopt s).2
  repeat' split
  all_goals first | rfl | exact this
theorem few_force {c : Int} {l : List SS} (v : Ev) (h : Few c l) : Few c (force l v) := by
  intro s hs
  unfold force forceN at hs
  obtain ⟨i, hi, he⟩ := List.getElem_of_mem hs
  rw [List.getElem_mapIdx] at he
  have hi' : i < l.length := by simpa using hi
  subst he
  split
  · rw [rw_app1, hits_app1]; exact h _ (List.getElem_mem hi')
  · exact h _ (List.getElem_mem hi')
theorem few_fold {c : Int} (es : List Ev) {l : List SS} (h : Few c l) : Few c (es.foldl force l) := by
  induction es generalizing l with
  | nil => exact h
  | cons e r ih => exact ih (few_force e h)
theorem few_set {c d : Int} {l : List SS} {i : Nat} {s : SS} (hcd : c ≤ d) (hs : s.rw ≤ d ∧ s.hits ≤ d) (h : Few c l) : Few d (l.set i s) := by
  intro t ht
  rcases List.mem_or_eq_of_mem_set ht with h' | rfl
  · have := h t h'; omega
  · exact hs
theorem few_ask {c : Int} {l : List SS} {i : Nat} (hi : i < l.length) (k ep : Int) (h : Few c l) : Few (c + 1) (l.set i (l[i].asked k ep)) := by
  have := hits_step l[i] k ep
  have := h _ (List.getElem_mem hi)
  exact few_set (by omega) (by omega) h
theorem few_learn {c : Int} {l : List SS} {i : Nat} (hi : i < l.length) (x : Ent) (h : Few c l) : Few (c + 1) (l.set i (l[i].learn x)) := by
  have := rw_step l[i] x
  have := h _ (List.getElem_mem hi)
  exact few_set (by omega) (by omega) h
theorem few_new (p : Pol) (n : Nat) : Few 0 (List.replicate n (s0of p)) := by
  intro s hs
  obtain ⟨_, rfl⟩ := List.mem_replicate.1 hs
  exact ⟨Int.le_refl _, Int.le_refl _⟩
theorem plays_step (p : Pol) (l : List SS) (n : Int) (id : Int) {c : Int} (hl : Few c l) :
    ∃ l2 n2, Ss.at' ⟨p, l, n⟩ id = ⟨p, l2, n2⟩ ∧ l2.length = l.length ∧ n ≤ n2 ∧ n2 ≤ n + 1 ∧ Few c l2 := by
  cases hin : inR id l.length with
  | false => exact ⟨l, n, by simp [Ss.at', hin], rfl, by omega, by omega, hl⟩
  | true => exact ⟨(due p.evs (n + 1)).foldl force l, n + 1, by simp [Ss.at', hin], by rw [fold_len], by omega, by omega, few_fold _ hl⟩
/-- What the loop over the accesses keeps. -/
structure Lap (R : Nat → Prop) (wc : World) (p : Pol) (m : Nat) (b : Nat) (bs : List Nat) (b' : Nat) (bs' : List Nat) (i : Nat) (l : List SS) (n : Int) (wr : World) : Prop where
  two : Duo R wr b ⟨p, l, n⟩ bs b' ⟨p, l, n⟩ bs'
  len : l.length = m
  lo : 0 ≤ n
  hi : n ≤ i
  few : Few (2 * (i : Int)) l
  kp : Kp R wc wr
end Go.Proofs.Ytcdofhfneiednaa
