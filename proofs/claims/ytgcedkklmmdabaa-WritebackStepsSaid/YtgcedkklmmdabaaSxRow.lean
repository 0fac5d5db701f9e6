/- A PART OF THE PROOF. NO CONDITION. -/
import Derived.Test.YtgcedkklmmdabaaSxAD
import Derived.ProofKit
import Derived.Deep.Slices
import Derived.OpenShut
noncomputable section
set_option linter.unusedVariables false
set_option linter.unusedSimpArgs false
namespace Go.SX
open Go Go.RowKit Go.ChangeShapes Go.WideShapes

/-! what a reading of flat memory says of its cells -/
inductive CK where
  | i (k : IntKind)
  | b
  | sl
def CKok : CK → Value → Prop
  | .i k, v => ∃ n, v = .int k n ∧ (Lit.int k n).wf = true
  | .b, v => ∃ b, v = .bool b
  | .sl, v => ∃ a l c, v = .slice a l c
def seqKinds (P : Program) (rec : TypeId → Option (List CK)) : List Field → Nat → Option (List CK)
  | [], _ => some []
  | f :: fs, pos => match Nat.beq f.offset pos, rec f.type with
    | true, some ks => match Nat.beq ks.length (P.cellsOf f.type), seqKinds P rec fs (pos + ks.length) with
      | true, some r => some (ks ++ r)
      | _, _ => none
    | _, _ => none
def repKinds : Nat → List CK → List CK
  | 0, _ => []
  | n + 1, ks => ks ++ repKinds n ks
def flatKinds (P : Program) : Nat → TypeId → Option (List CK)
  | 0, _ => none
  | m + 1, t => match P.underlying t with
    | some .bool => some [.b]
    | some (.int k) => some [.i k]
    | some (.slice _) => some [.sl]
    | some (.struct fs) => match seqKinds P (flatKinds P m) fs.toList 0 with
      | some ks => match Nat.beq ks.length (P.cellsOf t) with
        | true => some ks
        | false => none
      | none => none
    | some (.array n e) => match flatKinds P m e with
      | some ks => match Nat.beq ks.length (P.cellsOf e), Nat.beq (repKinds n ks).length (P.cellsOf t) with
        | true, true => some (repKinds n ks)
        | _, _ => none
      | none => none
    | _ => none

def Typed (ks : List CK) (cs : List Value) : Prop := cs.length = ks.length ∧ ∀ (j : Nat) k v, ks[j]? = some k → cs[j]? = some v → CKok k v
theorem Typed.append {ks ks' : List CK} {cs cs' : List Value} (h : Typed ks cs) (h' : Typed ks' cs') : Typed (ks ++ ks') (cs ++ cs') := by
  refine ⟨by simp [h.1, h'.1], fun j k v hk hv => ?_⟩
  by_cases hj : j < ks.length
  · rw [List.getElem?_append_left hj] at hk
    rw [List.getElem?_append_left (by rw [h.1]; exact hj)] at hv
    exact h.2 j k v hk hv
  · rw [List.getElem?_append_right (by omega)] at hk
    rw [List.getElem?_append_right (by rw [h.1]; omega), h.1] at hv
    exact h'.2 _ k v hk hv
theorem take_two {α : Type} (l : List α) (p a b : Nat) : (l.drop p).take (a + b) = (l.drop p).take a ++ (l.drop (p + a)).take b := by
  rw [List.take_add, List.drop_drop]

section
variable {H : Type} {enc : TypeId × Value → H} {P : Program} {w : World} {base : Nat} {spare : Nat → Bool} {held : Bool}
theorem seq_typed (rec : TypeId → Option (List CK)) (cs : List Value) (n : Nat)
    (hrec : ∀ t ks cs' x, rec t = some ks → DataW.trod enc P w base spare held n t cs' = some x → Typed ks cs') :
    ∀ (fs : List Field) (pos : Nat) (ks : List CK), seqKinds P rec fs pos = some ks →
      (∀ f ∈ fs, ∃ x, DataW.trod enc P w base spare held n f.type ((cs.drop f.offset).take (P.cellsOf f.type)) = some x) → Typed ks ((cs.drop pos).take ks.length) := by
  intro fs
  induction fs with
  | nil => intro pos ks h _; simp only [seqKinds, Option.some.injEq] at h; subst h; exact ⟨by simp, fun j k v h => by simp at h⟩
  | cons f fs ih =>
    intro pos ks h hf
    unfold seqKinds at h
    split at h <;> try (cases h; done)
    rename_i ks1 ho hr
    split at h <;> try (cases h; done)
    rename_i r hc hs
    cases h
    have ho := Nat.eq_of_beq_eq_true ho
    have hc := Nat.eq_of_beq_eq_true hc
    obtain ⟨x, hx⟩ := hf f (by simp)
    have h1 := hrec _ _ _ _ hr hx
    have h2 := ih _ _ hs fun g hg => hf g (by simp [hg])
    rw [List.length_append, take_two]
    rw [ho, ← hc] at h1
    exact h1.append h2
theorem rep_typed (cs : List Value) (k : Nat) (ks : List CK) (hk : ks.length = k) :
    ∀ (n pos : Nat), (∀ i, i < n → Typed ks ((cs.drop (pos + i * k)).take k)) → Typed (repKinds n ks) ((cs.drop pos).take (repKinds n ks).length) := by
  intro n
  induction n with
  | zero => intro pos _; exact ⟨by simp [repKinds], fun j k v h => by simp [repKinds] at h⟩
  | succ n ih =>
    intro pos h
    have h1 := h 0 (by omega)
    have h2 := ih (pos + k) fun i hi => by
      have := h (i + 1) (by omega)
      rwa [show pos + (i + 1) * k = pos + k + i * k by rw [Nat.succ_mul]; omega] at this
    show Typed (ks ++ repKinds n ks) ((cs.drop pos).take (ks ++ repKinds n ks).length)
    rw [List.length_append, take_two, hk]
    rw [Nat.zero_mul, Nat.add_zero] at h1
    exact h1.append h2
theorem flat_typed : ∀ (m : Nat) (t : TypeId) (ks : List CK) (n : Nat) (cs : List Value) (x : DataW H × List MemPlace), flatKinds P m t = some ks →
    DataW.trod enc P w base spare held n t cs = some x → Typed ks cs := by
  intro m
  induction m with
  | zero => intro t ks n cs x h; cases h
  | succ m ih =>
    intro t ks n cs x h hx
    unfold flatKinds at h
    split at h <;> try (cases h; done)
    · rename_i hu
      cases h
      obtain ⟨b, rfl, _⟩ := DataW.trod_bool hu hx
      exact ⟨rfl, fun j k v hk hv => by cases j with | zero => simp at hk hv; subst hk; subst hv; exact ⟨b, rfl⟩ | succ j => simp at hk⟩
    · rename_i k hu
      cases h
      obtain ⟨n', rfl, _, hw⟩ := DataW.trod_int hu hx
      exact ⟨rfl, fun j k v hk hv => by cases j with | zero => simp at hk hv; subst hk; subst hv; exact ⟨n', rfl, hw⟩ | succ j => simp at hk⟩
    · rename_i e hu
      cases h
      rcases DataW.trod_slice hu hx with ⟨rfl, _⟩ | ⟨a, l, c, _, _, _, _, rfl, _⟩
      · exact ⟨rfl, fun j k v hk hv => by cases j with | zero => simp at hk hv; subst hk; subst hv; exact ⟨_, _, _, rfl⟩ | succ j => simp at hk⟩
      · exact ⟨rfl, fun j k v hk hv => by cases j with | zero => simp at hk hv; subst hk; subst hv; exact ⟨_, _, _, rfl⟩ | succ j => simp at hk⟩
    · rename_i fs hu
      split at h <;> try (cases h; done)
      rename_i ks1 hs
      split at h <;> try (cases h; done)
      rename_i hc
      cases h
      have hc := Nat.eq_of_beq_eq_true hc
      obtain ⟨xs, n', rfl, _, hl, hxl, hf⟩ := DataW.trod_struct hu hx
      have := seq_typed (enc := enc) (P := P) (w := w) (base := base) (spare := spare) (held := held) (flatKinds P m) cs n' (fun t ks cs' x => ih t ks n' cs' x) fs.toList 0 ks hs fun f hf' => by
        obtain ⟨i, hi, he⟩ := List.getElem_of_mem hf'
        have h1 := hf i f (by rw [← he]; simp at hi ⊢)
        rw [h1]
        have : i < xs.length := by rw [hxl]; simpa using hi
        exact ⟨xs[i], by simp [this]⟩
      rwa [List.drop_zero, List.take_of_length_le (by rw [hl, hc]; exact Nat.le_refl _)] at this
    · rename_i n0 e hu
      split at h <;> try (cases h; done)
      rename_i ks1 he
      split at h <;> try (cases h; done)
      rename_i hc1 hc2
      cases h
      have hc1 := Nat.eq_of_beq_eq_true hc1
      have hc2 := Nat.eq_of_beq_eq_true hc2
      obtain ⟨xs, n', rfl, _, hl, hxl, hf⟩ := DataW.trod_array hu hx
      have := rep_typed cs (P.cellsOf e) ks1 hc1 n0 0 fun i hi => by
        have h1 := hf i hi
        rw [Nat.zero_add]
        have : i < xs.length := by rw [hxl]; exact hi
        exact ih _ _ _ _ xs[i] he (by rw [h1]; simp [this])
      rwa [List.drop_zero, List.take_of_length_le (by rw [hl, hc2]; exact Nat.le_refl _)] at this

/-! a slice of flat elements, seen read-only -/
abbrev here (W : World) : PH := ⟨fun b => W.heap[b]?, W⟩
theorem cells_of {a : Addr} {n : Nat} {cs : List Value} (h : w.cells? base a n = some cs) : cs.length = n ∧ ∀ j, j < n → w.cell? (a.add j) = cs[j]? := by
  unfold World.cells? at h
  split at h
  · refine ⟨by simpa using mapM_some_length h, fun j hj => ?_⟩
    have := mapM_some_get h j j (by simp [hj])
    simpa using this
  · cases h
theorem cell_of {a : Addr} {v : Value} (h : w.cell? a = some v) : a.spot = none ∧ ∃ cs ty fz, w.heap[a.block]? = some (.cells cs ty fz) ∧ cs[a.off]? = some v := by
  unfold World.cell? at h
  split at h
  · rename_i c ty fz hb
    split at h
    · cases h
    · rename_i hs
      exact ⟨by cases hp : a.spot with | none => rfl | some _ => rw [hp] at hs; simp at hs, c, ty, fz, hb, h⟩
  · cases h

/-- the elements' reader -/
structure Dec (ks : List CK) {α : Type} (d : α) (encA : α → List SV) (dec : List Value → α) : Prop where
  ok : EncOk d encA
  len : (encA d).length = ks.length
  pos : 0 < ks.length
  rv : ∀ (X : PH) (cs : List Value), Typed ks cs → ∀ (j : Nat) sv v, (encA (dec cs))[j]? = some sv → cs[j]? = some v → Rv X noKeys sv v

theorem open_ro2 {t e : TypeId} {m : Nat} {ks : List CK} {α : Type} {d : α} {encA : α → List SV} {dec : List Value → α} (D : Dec ks d encA dec)
    (ht : P.underlying t = some (.slice e)) (hk : flatKinds P m e = some ks) (hc : P.cellsOf e = ks.length) {a0 : Option Addr} {len cap : Nat} {x : DataW H} {ps : List MemPlace}
    (h : DataW.Trod enc P w 0 (fun _ => true) true t (.slice a0 len cap) x ps) : ∃ xs : List α, xs.length = len ∧ len ≤ maxLen ∧ (∀ x ∈ xs, ∃ cs, Typed ks cs ∧ x = dec cs) ∧ Rv (here w) noKeys (.ro α d encA xs) (.slice a0 len cap) := by
  obtain ⟨fuel, hf⟩ := h
  rcases Deep.open_slice ht hf with ⟨hcs, _⟩ | ⟨a, len', cap', m', n, D', Pl, hcs, _, hl, hcap, hm, _, hel⟩
  · simp [Value.cells] at hcs
    obtain ⟨rfl, rfl, rfl⟩ := hcs
    exact ⟨[], rfl, Nat.zero_le _, fun x h => (by cases h), empty_ro _ D.ok _ _⟩
  · simp [Value.cells] at hcs
    obtain ⟨rfl, rfl, rfl⟩ := hcs
    simp only [if_true] at hm
    subst hm
    rw [hc] at hel
    by_cases h0 : len = 0
    · subst h0; exact ⟨[], rfl, Nat.zero_le _, fun x h => (by cases h), empty_ro _ D.ok _ _⟩
    have hall : ∀ i, i < len → ∃ cs', Typed ks cs' ∧ ∀ j, j < ks.length → w.cell? (a.add (i * ks.length + j)) = cs'[j]? := fun i hi => by
      obtain ⟨cs', h1, h2⟩ := hel i (by omega)
      obtain ⟨hl', hcell⟩ := cells_of h1
      refine ⟨cs', flat_typed m e ks n cs' _ hk h2, fun j hj => ?_⟩
      rw [← hcell j hj]
      congr 1
      unfold Addr.add
      by_cases hi0 : i * ks.length = 0 <;> by_cases hj0 : j = 0 <;> simp_all <;> omega
    have hex : ∃ C : Nat → List Value, ∀ i, i < len → Typed ks (C i) ∧ ∀ j, j < ks.length → w.cell? (a.add (i * ks.length + j)) = (C i)[j]? := by
      refine ⟨fun i => if hi : i < len then Classical.choose (hall i hi) else [], fun i hi => ?_⟩
      simp only [hi, dif_pos]
      exact Classical.choose_spec (hall i hi)
    obtain ⟨C, hC⟩ := hex
    have hpos := D.pos
    have g0 := hC 0 (by omega)
    have h00 := g0.2 0 hpos
    rw [Nat.zero_mul, List.getElem?_eq_getElem (by rw [g0.1.1]; exact hpos)] at h00
    obtain ⟨hsp, cs, ty, fz, hb, _⟩ := cell_of h00
    have hA : a = ⟨a.block, a.off, none⟩ := by
      have : (a.add (0 + 0)).spot = a.spot := by simp [Addr.add]
      rw [this] at hsp
      cases a; simp_all
    have hb' : w.heap[a.block]? = some (.cells cs ty fz) := by simpa [Addr.add] using hb
    refine ⟨(List.range len).map fun i => dec (C i), by simp, Nat.le_trans hl hcap, fun x hx => ?_, ?_⟩
    · obtain ⟨i, hi, rfl⟩ := List.mem_map.1 hx
      exact ⟨C i, (hC i (List.mem_range.1 hi)).1, rfl⟩
    have hlen : ((List.range len).map fun i => dec (C i)).length = len := by simp
    have key := frozen_ro (X := here w) noKeys (α := α) (d := d) (enc := encA) (xs := (List.range len).map fun i => dec (C i)) (b := a.block) (p := a.off) (c := cs) (ty := ty) (fz := fz) hb' D.ok (by rw [hlen]; exact hl)
      (fun i j x sv hx hsv => by
        have hi : i < len := by
          by_cases hi : i < len
          · exact hi
          · rw [List.getElem?_eq_none (by simp; omega)] at hx; cases hx
        rw [List.getElem?_map, List.getElem?_range hi] at hx
        simp only [Option.map_some, Option.some.injEq] at hx
        subst hx
        have hj : j < ks.length := by
          rw [← D.len, ← (D.ok (dec (C i))).1]
          exact (List.getElem?_eq_some_iff.1 hsv).1
        obtain ⟨hT, hcl⟩ := hC i hi
        have := hcl j hj
        rw [List.getElem?_eq_getElem (by rw [hT.1]; exact hj)] at this
        obtain ⟨_, cs2, ty2, fz2, hb2, hv⟩ := cell_of this
        have e1 : (a.add (i * ks.length + j)).block = a.block := by unfold Addr.add; split <;> rfl
        have e2 : (a.add (i * ks.length + j)).off = a.off + (i * ks.length + j) := by
          unfold Addr.add; split
          · rename_i h; omega
          · rfl
        rw [e1, hb'] at hb2
        cases hb2
        rw [e2] at hv
        exact ⟨_, by rw [D.len]; exact hv, D.rv _ _ hT j sv _ hsv (List.getElem?_eq_getElem _)⟩)
    rw [hlen] at key
    rw [hA]
    exact key

theorem open_ro {t e : TypeId} {m : Nat} {ks : List CK} {α : Type} {d : α} {encA : α → List SV} {dec : List Value → α} (D : Dec ks d encA dec)
    (ht : P.underlying t = some (.slice e)) (hk : flatKinds P m e = some ks) (hc : P.cellsOf e = ks.length) {a0 : Option Addr} {len cap : Nat} {x : DataW H} {ps : List MemPlace}
    (h : DataW.Trod enc P w 0 (fun _ => true) true t (.slice a0 len cap) x ps) : ∃ xs : List α, xs.length = len ∧ Rv (here w) noKeys (.ro α d encA xs) (.slice a0 len cap) := by
  obtain ⟨xs, h1, _, _, h2⟩ := open_ro2 D ht hk hc h
  exact ⟨xs, h1, h2⟩

/-- a struct of flat fields -/
theorem open_flat {t : TypeId} {m : Nat} {ks : List CK} (hk : flatKinds P m t = some ks) {vs : Array Value} {x : DataW H} {ps : List MemPlace}
    (hcells : (Value.agg vs).cells.toList = vs.toList) (h : DataW.Trod enc P w base spare held t (.agg vs) x ps) : Typed ks vs.toList := by
  obtain ⟨fuel, hf⟩ := h
  rw [hcells] at hf
  exact flat_typed m t ks fuel _ _ hk hf
end

inductive Rvs (X : PH) (ρ : Rho) : List SV → List Value → Prop
  | nil : Rvs X ρ [] []
  | cons {s : SV} {v : Value} {ss : List SV} {vs : List Value} (h : Rv X ρ s v) (hs : Rvs X ρ ss vs) : Rvs X ρ (s :: ss) (v :: vs)
theorem Rvs.size {X : PH} {ρ : Rho} {ss : List SV} {vs : List Value} (h : Rvs X ρ ss vs) : vs.length = ss.length := by
  induction h with
  | nil => rfl
  | cons _ _ ih => simp [ih]
theorem Rvs.get {X : PH} {ρ : Rho} {ss : List SV} {vs : List Value} (h : Rvs X ρ ss vs) : ∀ (i : Nat) sv, ss[i]? = some sv → ∃ v, vs[i]? = some v ∧ Rv X ρ sv v := by
  induction h with
  | nil => intro i sv h; simp at h
  | cons h _ ih =>
    intro i sv hi
    cases i with
    | zero => simp at hi; subst hi; exact ⟨_, rfl, h⟩
    | succ i => simpa using ih i sv (by simpa using hi)
theorem like_all {X : PH} {ρ : Rho} {ss : List SV} {vs : List Value} (h : Rvs X ρ ss vs) : Like X ρ ss vs.toArray :=
  ⟨by simpa using h.size, fun i sv hi => by obtain ⟨v, hv, hr⟩ := h.get i sv hi; exact ⟨v, by simpa using hv, hr⟩⟩
theorem agg_all {X : PH} {ρ : Rho} {ss : List SV} {vs : List Value} (h : Rvs X ρ ss vs) : Rv X ρ (.agg ss) (.agg vs.toArray) := (like_all h).agg
theorem Typed.nil {cs : List Value} (h : Typed [] cs) : cs = [] := List.eq_nil_of_length_eq_zero h.1
theorem Typed.int {k : IntKind} {ks : List CK} {cs : List Value} (h : Typed (.i k :: ks) cs) : ∃ n r, cs = .int k n :: r ∧ (Lit.int k n).wf = true ∧ Typed ks r := by
  cases cs with
  | nil => have := h.1; simp at this
  | cons v r =>
    obtain ⟨n, rfl, hw⟩ := h.2 0 _ v rfl rfl
    exact ⟨n, r, rfl, hw, by simpa using h.1, fun j k v hk hv => h.2 (j + 1) k v (by simpa using hk) (by simpa using hv)⟩
theorem Typed.bool {ks : List CK} {cs : List Value} (h : Typed (.b :: ks) cs) : ∃ n r, cs = .bool n :: r ∧ Typed ks r := by
  cases cs with
  | nil => have := h.1; simp at this
  | cons v r =>
    obtain ⟨n, rfl⟩ := h.2 0 _ v rfl rfl
    exact ⟨n, r, rfl, by simpa using h.1, fun j k v hk hv => h.2 (j + 1) k v (by simpa using hk) (by simpa using hv)⟩
/-- an argument that is a struct of flat fields -/
theorem open_struct {H : Type} {enc : TypeId × Value → H} {P : Program} {w : World} {base base' : Nat} {spare : Nat → Bool} {held : Bool} {rc : Reach} {t : TypeId} {fs : Array Field} {m : Nat} {ks : List CK}
    (ht : P.underlying t = some (.struct fs)) (hk : flatKinds P m t = some ks) {v : Value} {x : DataW H} {ps : List MemPlace}
    (hv : Value.okWide P w rc base' t v) (h : DataW.Trod enc P w base spare held t v x ps) : ∃ vs : List Value, v = .agg vs.toArray ∧ Typed ks vs := by
  obtain ⟨vs, rfl, _⟩ := okWide_struct ht hv
  exact ⟨vs.toList, by simp, open_flat hk rfl h⟩
def intAt (cs : List Value) (j : Nat) : Int := match cs[j]? with
  | some (.int _ n) => n
  | _ => 0

/-! a law's contract, and the frame that a row asks for -/
theorem Mem.here (W : World) : Mem (SX.here W) noKeys [] W :=
  ⟨Fr.refl _, fun _ _ h => h, fun k lb h => by simp [Bl.get] at h, fun k1 k2 b1 b2 l1 l2 h => by simp [Bl.get] at h⟩
theorem law_below {P : Program} {N : Nat} {γ : Type} {args : γ → List SV} (hs : SpecOk P N (pureCon γ Unit args (fun _ => True) (fun _ _ => True) (fun _ _ => .val (.bool true))).spec)
    (hv : ∀ g, viewL [] [] (args g) (args g)) (g : γ) (W : World) (vs : Array Value) (h : Like (here W) noKeys (args g) vs) :
    Calls P N vs W fun e W' => e = .returned (.bool true) ∧ Below W.heap.size W W' := by
  refine (hs.2 (here W) noKeys [] W 8 (args g) vs (fun sv _ => sv = .val (.bool true)) (Mem.here W) (fun _ _ _ => ⟨rfl, rfl⟩) h ?_).mono fun e W' ⟨v, he, Y, σ, sv, B', hX, _, _, hm, hr, hK⟩ => ?_
  · exact ⟨g, hv g, trivial, trivial, fun _ _ => rfl⟩
  · subst hK
    cases hr
    refine ⟨he, ?_⟩
    have hf := hm.fr
    rw [hX.w0] at hf
    have hold : ∀ k, k < W.heap.size → W'.heap[k]? = W.heap[k]? := fun k hk => by
      have := hm.sub k W.heap[k] (hX.sub k W.heap[k] (by simp [hk]))
      rw [this]; simp [hk]
    refine ⟨hf.os, hf.tape, hf.output, ?_, hold⟩
    by_cases hz : W.heap.size = 0
    · omega
    · have h1 := hold (W.heap.size - 1) (by omega)
      rw [Array.getElem?_eq_getElem (xs := W.heap) (by omega)] at h1
      have h2 := (Array.getElem?_eq_some_iff.1 h1).1
      omega
theorem law_belowP {P : Program} {N : Nat} {γ : Type} {args : γ → List SV} {pre : γ → Prop} (hs : SpecOk P N (pureCon γ Unit args pre (fun _ _ => True) (fun _ _ => .val (.bool true))).spec)
    (hv : ∀ g, viewL [] [] (args g) (args g)) (g : γ) (hp : pre g) (W : World) (vs : Array Value) (h : Like (here W) noKeys (args g) vs) :
    Calls P N vs W fun e W' => e = .returned (.bool true) ∧ Below W.heap.size W W' := by
  refine (hs.2 (here W) noKeys [] W 8 (args g) vs (fun sv _ => sv = .val (.bool true)) (Mem.here W) (fun _ _ _ => ⟨rfl, rfl⟩) h ?_).mono fun e W' ⟨v, he, Y, σ, sv, B', hX, _, _, hm, hr, hK⟩ => ?_
  · exact ⟨g, hv g, trivial, hp, fun _ _ => rfl⟩
  · subst hK
    cases hr
    refine ⟨he, ?_⟩
    have hf := hm.fr
    rw [hX.w0] at hf
    have hold : ∀ k, k < W.heap.size → W'.heap[k]? = W.heap[k]? := fun k hk => by
      have := hm.sub k W.heap[k] (hX.sub k W.heap[k] (by simp [hk]))
      rw [this]; simp [hk]
    refine ⟨hf.os, hf.tape, hf.output, ?_, hold⟩
    by_cases hz : W.heap.size = 0
    · omega
    · have h1 := hold (W.heap.size - 1) (by omega)
      rw [Array.getElem?_eq_getElem (xs := W.heap) (by omega)] at h1
      have h2 := (Array.getElem?_eq_some_iff.1 h1).1
      omega
end Go.SX
