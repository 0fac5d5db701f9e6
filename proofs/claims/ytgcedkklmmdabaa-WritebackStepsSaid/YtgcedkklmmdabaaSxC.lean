/- A PART OF THE PROOF. NO CONDITION. -/
import Derived.Test.YtgcedkklmmdabaaSxB
import Derived.Laws.Rows
set_option linter.unusedVariables false
set_option linter.unusedSimpArgs false
namespace Go.SX

/-! ### owned blocks as a list -/
theorem nbeq_false {a b : Nat} (h : a ≠ b) : Nat.beq a b = false := by
  cases e : Nat.beq a b with
  | false => rfl
  | true => exact absurd (Nat.eq_of_beq_eq_true e) h
theorem Bl.get_ins_same (B : Bl) (j : Nat) (c : LB) (h : Bl.get B j = none) : Bl.get (Bl.ins B j c) j = some c := by
  induction B with
  | nil => simp [Bl.ins, Bl.get]
  | cons p r ih =>
    obtain ⟨k, b⟩ := p
    simp only [Bl.get] at h
    cases hk : Nat.beq k j with
    | true => simp [hk] at h
    | false =>
      simp only [hk] at h
      simp only [Bl.ins]
      cases hb : Nat.blt j k with
      | true => simp [Bl.get]
      | false => simp only [Bl.get, hk]; exact ih h
theorem Bl.get_ins_other (B : Bl) (j i : Nat) (c : LB) (h : i ≠ j) : Bl.get (Bl.ins B j c) i = Bl.get B i := by
  have hji : Nat.beq j i = false := nbeq_false fun e => h (Eq.symm e)
  induction B with
  | nil => simp only [Bl.ins, Bl.get, hji]
  | cons p r ih =>
    obtain ⟨k, b⟩ := p
    simp only [Bl.ins]
    cases hb : Nat.blt j k with
    | true => simp only [Bl.get, hji]
    | false => simp only [Bl.get, ih]
theorem Bl.get_set_same (B : Bl) (j : Nat) (c : LB) {b : LB} (h : Bl.get B j = some b) : Bl.get (Bl.set B j c) j = some c := by
  induction B with
  | nil => simp [Bl.get] at h
  | cons p r ih =>
    obtain ⟨k, b⟩ := p
    simp only [Bl.get, Bl.set] at h ⊢
    cases hk : Nat.beq k j with
    | true => simp only [Bl.get, hk]
    | false => simp only [hk] at h; simp only [Bl.get, hk]; exact ih h
theorem Bl.get_set_other (B : Bl) (j i : Nat) (c : LB) (h : i ≠ j) : Bl.get (Bl.set B j c) i = Bl.get B i := by
  have hji : Nat.beq j i = false := nbeq_false fun e => h (Eq.symm e)
  induction B with
  | nil => rfl
  | cons p r ih =>
    obtain ⟨k, b⟩ := p
    simp only [Bl.set]
    cases hk : Nat.beq k j with
    | true =>
      have hki : k = j := by simpa using hk
      subst hki
      simp only [Bl.get, hji]
    | false => simp only [Bl.get, ih]
theorem Bl.get_del_same (B : Bl) (j : Nat) : Bl.get (Bl.del B j) j = none := by
  induction B with
  | nil => rfl
  | cons p r ih =>
    obtain ⟨k, b⟩ := p
    simp only [Bl.del]
    cases hk : Nat.beq k j with
    | true => exact ih
    | false => simp only [Bl.get, hk]; exact ih
theorem Bl.get_del_other (B : Bl) (j i : Nat) (h : i ≠ j) : Bl.get (Bl.del B j) i = Bl.get B i := by
  have hji : Nat.beq j i = false := nbeq_false fun e => h (Eq.symm e)
  induction B with
  | nil => rfl
  | cons p r ih =>
    obtain ⟨k, b⟩ := p
    simp only [Bl.del]
    cases hk : Nat.beq k j with
    | true =>
      have hki : k = j := by simpa using hk
      subst hki
      simp only [Bl.get, hji]; exact ih
    | false => simp only [Bl.get, ih]

/-! ### worlds -/
theorem cell_of_heap {w : World} {b : Nat} {c : Array Value} {ty : TypeId} {fz : Nat × Nat} (h : w.heap[b]? = some (.cells c ty fz)) (i : Nat) : w.cell? ⟨b, i, none⟩ = c[i]? := by
  simp [World.cell?, h]
theorem lt_of_heap {w : World} {b : Nat} {o : Obj} (h : w.heap[b]? = some o) : b < w.heap.size := by
  rcases Nat.lt_or_ge b w.heap.size with h' | h'
  · exact h'
  · simp [Array.getElem?_eq_none h'] at h
theorem heap_push_lt {w : World} {b : Nat} {o : Obj} (h : b < w.heap.size) : (w.alloc o).heap[b]? = w.heap[b]? := by
  exact heap_alloc_old w o b h
theorem heap_push_eq {w : World} {o : Obj} : (w.alloc o).heap[w.heap.size]? = some o := heap_alloc_new w o

/-- a new block -/
theorem Mem.alloc {X : PH} {ρ : Rho} {B : Bl} {w : World} (hm : Mem X ρ B w) {kd : Nat} (hr : ρ kd = none) (hb : Bl.get B kd = none) {lb : LB} {c : Array Value} {ty : TypeId}
    (hlb : BOk X ρ (fun b => if b = w.heap.size then some (.cells c ty (0, 0)) else none) (some ⟨w.heap.size, 0, c.size⟩) lb) :
    ∃ σ : Rho, ρ.le σ ∧ σ kd = some ⟨w.heap.size, 0, c.size⟩ ∧ (∀ key, key ≠ kd → σ key = ρ key) ∧ Mem X σ (Bl.ins B kd lb) (w.alloc (.cells c ty)) := by
  have hle : ρ.le (fun k => if k = kd then some ⟨w.heap.size, 0, c.size⟩ else ρ k) := fun k l h => by
    by_cases hk : k = kd
    · subst hk; rw [hr] at h; cases h
    · simp [hk, h]
  refine ⟨fun k => if k = kd then some ⟨w.heap.size, 0, c.size⟩ else ρ k, hle, by simp, fun key hk => by simp [hk], hm.fr.trans (Fr.alloc _ _), ?_, ?_, ?_⟩
  · intro b o h
    have h' := hm.sub b o h
    rw [heap_push_lt (lt_of_heap h')]; exact h'
  · intro key lb' h
    by_cases hk : key = kd
    · subst hk
      rw [Bl.get_ins_same _ _ _ hb] at h
      cases h
      simp only [if_true]
      exact (hlb.congr (H' := fun b => (w.alloc (.cells c ty)).heap[b]?) (fun q hq => by cases hq; rw [if_pos rfl]; exact heap_push_eq)).mono hle
    · rw [Bl.get_ins_other _ _ _ _ hk] at h
      simp only [hk, if_false]
      have := hm.own key lb' h
      refine (this.congr (fun q hq => ?_)).mono hle
      have hq2 : q.b < w.heap.size := by
        rw [hq] at this
        cases lb' with
        | cells cs => obtain ⟨_, c, ty, h1, _⟩ := this; exact lt_of_heap h1
        | arr α d enc xs => obtain ⟨_, _, c, ty, h1, _⟩ := this; exact lt_of_heap h1
        | mp isA n α d enc es => obtain ⟨_, _, _, _, c, ty, h1, _⟩ := this; exact lt_of_heap h1
        | objAt n svs mk => obtain ⟨_, _, vs, _, _, h1⟩ := this; exact lt_of_heap h1
      exact heap_push_lt hq2
  · intro k1 k2 b1 b2 l1 l2 h1 h2 e1 e2 hl
    have old : ∀ k b l, Bl.get B k = some b → ρ k = some l → l.b < w.heap.size := fun k b l hb' hl' => by
      have := hm.own k b hb'
      rw [hl'] at this
      cases b with
      | cells cs => obtain ⟨_, c, ty, h1, _⟩ := this; exact lt_of_heap h1
      | arr α d enc xs => obtain ⟨_, _, c, ty, h1, _⟩ := this; exact lt_of_heap h1
      | mp isA n α d enc es => obtain ⟨_, _, _, _, c, ty, h1, _⟩ := this; exact lt_of_heap h1
      | objAt n svs mk => obtain ⟨_, _, vs, _, _, h1⟩ := this; exact lt_of_heap h1
    by_cases hk1 : k1 = kd <;> by_cases hk2 : k2 = kd
    · rw [hk1, hk2]
    · simp only [hk1, if_true, Option.some.injEq] at e1
      simp only [hk2, if_false] at e2
      rw [Bl.get_ins_other _ _ _ _ hk2] at h2
      have := old k2 b2 l2 h2 e2
      subst e1; simp at hl; omega
    · simp only [hk2, if_true, Option.some.injEq] at e2
      simp only [hk1, if_false] at e1
      rw [Bl.get_ins_other _ _ _ _ hk1] at h1
      have := old k1 b1 l1 h1 e1
      subst e2; simp at hl; omega
    · simp only [hk1, if_false] at e1
      simp only [hk2, if_false] at e2
      rw [Bl.get_ins_other _ _ _ _ hk1] at h1
      rw [Bl.get_ins_other _ _ _ _ hk2] at h2
      exact hm.inj k1 k2 b1 b2 l1 l2 h1 h2 e1 e2 hl

/-- what lies in a place, as the list says -/
def CellsAt (X : PH) (ρ : Rho) (w : World) (b off : Nat) (cs : List SV) : Prop :=
  ∀ i sv, cs[i]? = some sv → ∃ v, w.cell? ⟨b, off + i, none⟩ = some v ∧ Rv X ρ sv v

theorem atAddr_sound {X : PH} {ρ : Rho} {B : Bl} {w : World} (hm : Mem X ρ B w) {p : SV} {v : Value} (hv : Rv X ρ p v) {K : List SV → Prop} (h : atAddr B p K) :
    ∃ b off cs, v = .pointer (some ⟨b, off, none⟩) ∧ K cs ∧ CellsAt X ρ w b off cs := by
  cases hv with
  | ptr _ key off l hl =>
    simp only [atAddr] at h
    cases hg : Bl.get B key with
    | none => simp [hg] at h
    | some lb =>
      cases lb with
      | mp isA n α d enc es => simp [hg] at h
      | objAt n svs mk => simp [hg] at h
      | arr α d enc xs =>
        simp only [hg] at h
        cases hk : Nat.beq (enc d).length 1 with
        | false => simp [hk] at h
        | true =>
          cases ho : Nat.beq off 0 with
          | false => simp [hk, ho] at h
          | true =>
            simp only [hk, ho] at h
            obtain ⟨hn, hK⟩ := h
            have hk' : (enc d).length = 1 := by simpa using hk
            have ho' : off = 0 := by simpa using ho
            subst ho'
            have := hm.own key _ hg
            rw [hl] at this
            obtain ⟨_, hu, c, ty, h1, h2, h3, h4⟩ := this
            refine ⟨_, _, _, rfl, hK, fun j sv hj => ?_⟩
            have hj64 : j < 64 := by
              have := (List.getElem?_eq_some_iff.1 hj).1
              simpa using this
            have hx : xs[j]? = some (xs.getD j d) := by simp [List.getD, show j < xs.length by omega]
            have hs : (enc (xs.getD j d))[0]? = some sv := by
              rw [List.getElem?_map, List.getElem?_range hj64] at hj
              have hj : (enc (xs.getD j d)).getD 0 .any = sv := by simpa using hj
              have hl1 : (enc (xs.getD j d)).length = 1 := by rw [(hu _).1, hk']
              cases he : enc (xs.getD j d) with
              | nil => rw [he] at hl1; cases hl1
              | cons a r => rw [he] at hj; rw [← hj]; rfl
            obtain ⟨v, hv1, hv2⟩ := h4 _ _ _ _ hx hs
            refine ⟨v, ?_, hv2.monoR (Rho.none_le _)⟩
            rw [cell_of_heap h1, ← hv1, hk']
            congr 1; omega
      | cells cs =>
        simp only [hg] at h
        have := hm.own key _ hg
        rw [hl] at this
        obtain ⟨_, c, ty, h1, h2, h3, h4⟩ := this
        refine ⟨_, _, _, rfl, h, fun i sv hi => ?_⟩
        rw [List.getElem?_drop] at hi
        obtain ⟨v, hv1, hv2⟩ := h4 _ _ hi
        exact ⟨v, by rw [cell_of_heap h1, Nat.add_assoc]; exact hv1, hv2⟩
  | ptrE _ key e l hl =>
    simp only [atAddr] at h
    cases hg : Bl.get B key with
    | none => simp [hg] at h
    | some lb =>
      cases lb with
      | arr α d enc xs => simp [hg] at h
      | mp isA n α d enc es => simp [hg] at h
      | objAt n svs mk => simp [hg] at h
      | cells cs =>
        simp only [hg] at h
        obtain ⟨c0, hc0, hK⟩ := h
        have := hm.own key _ hg
        rw [hl] at this
        obtain ⟨_, c, ty, h1, h2, h3, h4⟩ := this
        refine ⟨_, _, _, rfl, hK, fun i sv hi => ?_⟩
        cases i with
        | succ n => simp at hi
        | zero =>
          simp at hi; subst hi
          obtain ⟨v, hv1, hv2⟩ := h4 _ _ hc0
          exact ⟨v, by rw [cell_of_heap h1]; exact hv1, hv2⟩
  | row _ key k i off l hl =>
    simp only [atAddr] at h
    cases hg : Bl.get B key with
    | none => simp [hg] at h
    | some lb =>
      cases lb with
      | cells cs => simp [hg] at h
      | mp isA n α d enc es => simp [hg] at h
      | objAt n svs mk => simp [hg] at h
      | arr α d enc xs =>
        simp only [hg] at h
        cases hk : Nat.beq k (enc d).length with
        | false => simp [hk] at h
        | true =>
          simp only [hk] at h
          obtain ⟨hi, hK⟩ := h
          have hk' : k = (enc d).length := by simpa using hk
          have := hm.own key _ hg
          rw [hl] at this
          obtain ⟨_, hu, c, ty, h1, h2, h3, h4⟩ := this
          refine ⟨_, _, _, rfl, hK, fun j sv hj => ?_⟩
          rw [List.getElem?_drop] at hj
          have hx : xs[i]? = some (xs.getD i d) := by simp [List.getD, hi]
          obtain ⟨v, hv1, hv2⟩ := h4 _ _ _ _ hx hj
          refine ⟨v, ?_, hv2.monoR (Rho.none_le _)⟩
          rw [cell_of_heap h1, ← hv1, hk']
          congr 1; omega
  | rowE _ key k i e l hl =>
    simp only [atAddr] at h
    cases hg : Bl.get B key with
    | none => simp [hg] at h
    | some lb =>
      cases lb with
      | cells cs => simp [hg] at h
      | mp isA n α d enc es => simp [hg] at h
      | objAt n svs mk => simp [hg] at h
      | arr α d enc xs =>
        simp only [hg] at h
        cases hk : Nat.beq k (enc d).length with
        | false => simp [hk] at h
        | true =>
          simp only [hk] at h
          obtain ⟨hi, c0, hc0, hK⟩ := h
          have hk' : k = (enc d).length := by simpa using hk
          have := hm.own key _ hg
          rw [hl] at this
          obtain ⟨_, hu, c, ty, h1, h2, h3, h4⟩ := this
          refine ⟨_, _, _, rfl, hK, fun j sv hj => ?_⟩
          cases j with
          | succ n => simp at hj
          | zero =>
            simp at hj; subst hj
            have hx : xs[i]? = some (xs.getD i d) := by simp [List.getD, hi]
            obtain ⟨v, hv1, hv2⟩ := h4 _ _ _ _ hx hc0
            refine ⟨v, ?_, hv2.monoR (Rho.none_le _)⟩
            rw [cell_of_heap h1, ← hv1, hk']
            congr 1
  | rop _ α d enc xs i off b p cs ty fz cell hA hk hcs hr =>
    simp only [atAddr] at h
    obtain ⟨hi, hK⟩ := h
    refine ⟨_, _, _, rfl, hK, fun j sv hj => ?_⟩
    rw [List.getElem?_drop] at hj
    have hx : xs[i]? = some (xs.getD i d) := by simp [List.getD, hi]
    have hlt : off + j < (enc d).length := by rw [← (hk (xs.getD i d)).1]; exact (List.getElem?_eq_some_iff.1 hj).1
    refine ⟨cell i (off + j), ?_, (hr _ _ _ _ hx hj).monoR (Rho.none_le _)⟩
    rw [cell_of_heap (hm.sub _ _ hA), ← hcs i (off + j) hi hlt]
    congr 1; omega
  | ropE _ α d enc xs i e b p cs ty fz cell hA hk hcs hr =>
    simp only [atAddr] at h
    obtain ⟨hi, c0, hc0, hK⟩ := h
    refine ⟨_, _, _, rfl, hK, fun j sv hj => ?_⟩
    cases j with
    | succ n => simp at hj
    | zero =>
      simp at hj; subst hj
      have hx : xs[i]? = some (xs.getD i d) := by simp [List.getD, hi]
      have hlt : e < (enc d).length := by rw [← (hk (xs.getD i d)).1]; exact (List.getElem?_eq_some_iff.1 hc0).1
      refine ⟨cell i e, ?_, (hr _ _ _ _ hx hc0).monoR (Rho.none_le _)⟩
      rw [cell_of_heap (hm.sub _ _ hA), ← hcs i e hi hlt]
      rfl
  | any => simp [atAddr] at h
  | tt => simp [atAddr] at h
  | ff => simp [atAddr] at h
  | e0 => simp [atAddr] at h
  | one => simp [atAddr] at h
  | val => simp [atAddr] at h
  | sl => simp [atAddr] at h
  | ro => simp [atAddr] at h
  | agg => simp [atAddr] at h
  | tup => simp [atAddr] at h
  | clo => simp [atAddr] at h
  | mapv => simp [atAddr] at h
end Go.SX
