/- A PART OF THE PROOF. NO CONDITION. -/
import Derived.Test.YtgcedkklmmdabaaSxO
set_option linter.unusedSimpArgs false
set_option linter.unusedVariables false
set_option linter.unusedVariables false
set_option linter.unusedSimpArgs false
namespace Go.SX

theorem memN_false {n : Nat} {l : List Nat} (h : memN n l = false) : n ∉ l := fun hm => by rw [memN_self hm] at h; cases h

/-! ### values without young keys -/
theorem Rv.below1 {X : PH} {ρ σ : Rho} {n : Nat} (hs : ∀ key, key < n → σ key = ρ key) {sv : SV} {v : Value} (h : Rv X ρ sv v) (hb : SX.below1 n sv = true) : Rv X σ sv v := by
  have lt : ∀ k, Nat.blt k n = true → k < n := fun k hk => by have := Nat.le_of_ble_eq_true hk; omega
  cases h with
  | any => exact .any _ _
  | tt => exact .tt _
  | ff => exact .ff _
  | e0 => exact .e0 _ _
  | one _ v h => exact .one _ v h
  | val => exact .val _ _
  | ptr _ key off l hl => exact .ptr _ _ _ _ (by rw [hs key (lt key hb)]; exact hl)
  | ptrE _ key e l hl => exact .ptrE _ _ _ _ (by rw [hs key (lt key hb)]; exact hl)
  | row _ key k i off l hl => exact .row _ _ _ _ _ _ (by rw [hs key (lt key hb)]; exact hl)
  | rowE _ key k i e l hl => exact .rowE _ _ _ _ _ _ (by rw [hs key (lt key hb)]; exact hl)
  | sl _ key k o m c A hn hA => exact .sl _ _ _ _ _ _ _ hn (hA.imp id fun ⟨l, a, b⟩ => ⟨l, by rw [hs key (lt key hb)]; exact a, b⟩)
  | ro _ α d enc xs A c b p cs ty fz cell hc hA hk hcs hr => exact .ro _ α d enc xs A c b p cs ty fz cell hc hA hk hcs hr
  | rop _ α d enc xs i off b p cs ty fz cell hA hk hcs hr => exact .rop _ α d enc xs i off b p cs ty fz cell hA hk hcs hr
  | ropE _ α d enc xs i e b p cs ty fz cell hA hk hcs hr => exact .ropE _ α d enc xs i e b p cs ty fz cell hA hk hcs hr
  | agg => simp [SX.below1] at hb
  | tup => simp [SX.below1] at hb
  | clo => simp [SX.below1] at hb
  | mapv _ key l hl => exact .mapv _ _ _ (by rw [hs key (lt key hb)]; exact hl)
theorem belows1_spec {n : Nat} : ∀ {cs : List SV}, belows1 n cs = true → ∀ (i : Nat) (sv : SV), cs[i]? = some sv → below1 n sv = true
  | [], _, i, sv, hi => by simp at hi
  | x :: r, h, i, sv, hi => by
    simp only [belows1] at h
    cases hx : below1 n x with
    | false => simp [hx] at h
    | true =>
      simp only [hx] at h
      cases i with
      | zero => simp at hi; subst hi; exact hx
      | succ m => exact belows1_spec h m sv (by simpa using hi)
theorem Rv.below2 {X : PH} {ρ σ : Rho} {n : Nat} (hs : ∀ key, key < n → σ key = ρ key) {sv : SV} {v : Value} (h : Rv X ρ sv v) (hb : SX.below2 n sv = true) : Rv X σ sv v := by
  cases sv with
  | agg cs => cases h with | agg _ _ vs hsz hh => exact .agg _ _ _ hsz fun i sv v hi hv => (hh i sv v hi hv).below1 hs (belows1_spec hb i sv hi)
  | tup cs => cases h with | tup _ _ vs hsz hh => exact .tup _ _ _ hsz fun i sv v hi hv => (hh i sv v hi hv).below1 hs (belows1_spec hb i sv hi)
  | clo f cs => cases h with | clo _ _ _ vs hsz hh => exact .clo _ _ _ _ hsz fun i sv v hi hv => (hh i sv v hi hv).below1 hs (belows1_spec hb i sv hi)
  | _ => exact h.below1 hs hb

/-- the keys as the invariant names them -/
def rhoS (base : Nat) (ren : List (Option Nat)) (ρ : Rho) : Rho := fun key =>
  match renOf base ren key with
  | some q => ρ q
  | none => none

theorem rhoS_low {base : Nat} {ren : List (Option Nat)} {ρ : Rho} {key : Nat} (h : key < base) : rhoS base ren ρ key = ρ key := by
  have : Nat.blt key base = true := Nat.ble_eq_true_of_le h
  simp [rhoS, renOf, this]
theorem rhoS_some {base : Nat} {ren : List (Option Nat)} {ρ : Rho} {key q : Nat} (h : renOf base ren key = some q) : rhoS base ren ρ key = ρ q := by simp [rhoS, h]
theorem rhoS_none {base : Nat} {ren : List (Option Nat)} {ρ : Rho} {key : Nat} (h : renOf base ren key = none) : rhoS base ren ρ key = none := by simp [rhoS, h]

theorem kEq_eq {k k' : IntKind} (h : kEq k k' = true) : k = k' := by cases k <;> cases k' <;> first | rfl | (simp [kEq] at h)

theorem svLe_sound {X : PH} {ρ : Rho} {base : Nat} {ren : List (Option Nat)} {a b : SV} {v : Value} (ha : Rv X ρ a v) (h : svLe base ren a b) : Rv X (rhoS base ren ρ) b v := by
  have low : ∀ key, key < base → rhoS base ren ρ key = ρ key := fun key hk => rhoS_low hk
  unfold svLe at h
  split at h
  · exact .any _ _
  · rename_i k x k' y
    have := rv_val ha; subst this
    cases hk : kEq k k' with
    | false => simp only [hk] at h
    | true =>
      simp only [hk] at h
      have e := kEq_eq hk
      subst e; subst h; exact .val _ _
  · have := rv_val ha; subst this; subst h; exact .val _ _
  · have := rv_tt ha; subst this; subst h; exact .val _ _
  · have := rv_ff ha; subst this; subst h; exact .val _ _
  · rename_i key k o n key' k' o' n'
    cases hr : renOf base ren key' with
    | none => simp only [hr] at h
    | some q =>
      simp only [hr] at h
      cases hq : Nat.beq key q with
      | false => simp only [hq] at h
      | true =>
        simp only [hq] at h
        obtain ⟨rfl, rfl, rfl⟩ := h
        have e := Nat.eq_of_beq_eq_true hq
        subst e
        cases ha with
        | sl _ _ _ _ _ c A hn hA => exact .sl _ _ _ _ _ _ _ hn (hA.imp id fun ⟨l, a, b⟩ => ⟨l, by rw [rhoS_some hr]; exact a, b⟩)
  · have := rv_val ha; subst this
    obtain ⟨rfl, rfl⟩ := h
    exact .sl _ _ _ _ _ _ _ (Nat.le_refl _) (.inl rfl)
  · obtain ⟨rfl, rfl⟩ := h
    cases ha
    exact .sl _ _ _ _ _ _ _ (Nat.le_refl _) (.inl rfl)
  · rename_i key off key' off'
    cases hr : renOf base ren key' with
    | none => simp only [hr] at h
    | some q =>
      simp only [hr] at h
      cases hq : Nat.beq key q with
      | false => simp only [hq] at h
      | true =>
        cases ho : Nat.beq off off' with
        | false => simp only [hq, ho] at h
        | true =>
          have e := Nat.eq_of_beq_eq_true hq
          have e' := Nat.eq_of_beq_eq_true ho
          subst e; subst e'
          cases ha with
          | ptr _ _ _ l hl => exact .ptr _ _ _ _ (by rw [rhoS_some hr]; exact hl)
  · cases hb : below2 base b with
    | false => simp only [hb] at h
    | true =>
      simp only [hb] at h
      subst h
      exact ha.below2 low hb

theorem slotsLe_spec {base : Nat} {ren : List (Option Nat)} {ts : List SV} : ∀ {ov : List (Nat × SV)}, slotsLe base ren ts ov → ∀ (i : Nat) (v : SV), lookN i ov = some v → svLe base ren (getSlot ts i) v
  | [], _, i, v, hi => by simp [lookN] at hi
  | [(j, u)], h, i, v, hi => by
    simp only [lookN] at hi
    cases hb : Nat.beq i j with
    | true =>
      have e := Nat.eq_of_beq_eq_true hb
      simp only [hb, Option.some.injEq] at hi
      subst hi; subst e; exact h
    | false => simp [hb] at hi
  | (j, u) :: (j', u') :: r, h, i, v, hi => by
    simp only [lookN] at hi
    cases hb : Nat.beq i j with
    | true =>
      have e := Nat.eq_of_beq_eq_true hb
      simp only [hb, Option.some.injEq] at hi
      subst hi; subst e; exact h.1
    | false =>
      simp only [hb] at hi
      exact slotsLe_spec h.2 i v (by simpa [lookN] using hi)

theorem cellsLe_spec {base : Nat} {ren : List (Option Nat)} : ∀ {as bs : List SV}, cellsLe base ren as bs → as.length = bs.length ∧ ∀ (i : Nat) (b : SV), bs[i]? = some b → ∃ a, as[i]? = some a ∧ svLe base ren a b
  | [], [], _ => ⟨rfl, fun i b hi => by simp at hi⟩
  | [a], [b], h => ⟨rfl, fun i b' hi => by
      cases i with
      | zero => simp at hi; subst hi; exact ⟨a, rfl, h⟩
      | succ n => simp at hi⟩
  | a :: a2 :: r, b :: s, h => by
    obtain ⟨h1, h2⟩ : svLe base ren a b ∧ cellsLe base ren (a2 :: r) s := by
      cases s with
      | nil => simp [cellsLe] at h
      | cons b2 s => exact h
    obtain ⟨hl, hs⟩ := cellsLe_spec h2
    refine ⟨by simp only [List.length_cons] at hl ⊢; omega, fun i b' hi => ?_⟩
    cases i with
    | zero => simp at hi; subst hi; exact ⟨a, rfl, h1⟩
    | succ n => obtain ⟨x, hx, hle⟩ := hs n b' (by simpa using hi); exact ⟨x, by simpa using hx, hle⟩
  | [a], b :: b2 :: s, h => by simp [cellsLe] at h
  | [], b :: s, h => by cases s <;> simp [cellsLe] at h
  | [a], [], h => by simp [cellsLe] at h
  | a :: a2 :: r, [], h => by simp [cellsLe] at h

theorem flatten_get {α : Type} {d : α} {enc : α → List SV} (he : EncOk d enc) : ∀ (xs : List α) (i : Nat) (x : α) (j : Nat) (sv : SV), xs[i]? = some x → (enc x)[j]? = some sv →
    ((xs.map enc).flatten)[i * (enc d).length + j]? = some sv
  | [], i, x, j, sv, hi, _ => by simp at hi
  | y :: ys, 0, x, j, sv, hi, hj => by
    simp at hi; subst hi
    simp only [List.map_cons, List.flatten_cons, Nat.zero_mul, Nat.zero_add]
    rw [List.getElem?_append_left (List.getElem?_eq_some_iff.1 hj).1]; exact hj
  | y :: ys, i + 1, x, j, sv, hi, hj => by
    simp only [List.map_cons, List.flatten_cons]
    rw [List.getElem?_append_right (by rw [(he y).1, Nat.add_mul]; omega), (he y).1]
    have := flatten_get he ys i x j sv (by simpa using hi) hj
    rw [← this]; congr 1; rw [Nat.add_mul]; omega
theorem flatten_len {α : Type} {d : α} {enc : α → List SV} (he : EncOk d enc) : ∀ (xs : List α), ((xs.map enc).flatten).length = xs.length * (enc d).length
  | [] => by simp
  | y :: ys => by simp [flatten_len he ys, (he y).1, Nat.add_mul, Nat.add_comm]

theorem lbLe_sound {X : PH} {ρ : Rho} {H : Nat → Option Obj} {base : Nat} {ren : List (Option Nat)} {l : Option Loc} {a b : LB} (ha : BOk X ρ H l a) (h : lbLe base ren a b) : BOk X (rhoS base ren ρ) H l b := by
  cases a with
  | cells cs =>
    cases l with
    | none => exact ha.elim
    | some l =>
      obtain ⟨h0, c, ty, h1, h2, h3, h4⟩ := ha
      cases b with
      | cells cs' =>
        obtain ⟨hl, hs⟩ := cellsLe_spec (show cellsLe base ren cs cs' from h)
        refine ⟨h0, c, ty, h1, h2, by omega, fun i sv hi => ?_⟩
        obtain ⟨x, hx, hle⟩ := hs i sv hi
        obtain ⟨v, hv, hr⟩ := h4 i x hx
        exact ⟨v, hv, svLe_sound hr hle⟩
      | arr α d enc xs =>
        simp only [lbLe] at h
        cases hk : allNoKey cs with
        | false => simp only [hk] at h
        | true =>
          simp only [hk] at h
          obtain ⟨hcs, he⟩ := h
          refine ⟨h0, he, c, ty, h1, h2, by rw [← flatten_len he, ← hcs]; exact h3, fun i x j sv hi hj => ?_⟩
          have hg := flatten_get he xs i x j sv hi hj
          rw [← hcs] at hg
          obtain ⟨v, hv, hr⟩ := h4 _ _ hg
          exact ⟨v, hv, hr.unkey (allNoKey_spec hk _ _ hg)⟩
      | mp isA n α d enc es => exact (show False from h).elim
      | objAt n svs mk => exact (show False from h).elim
  | arr α d enc xs =>
    have h' : LB.arr α d enc xs = b := h
    subst h'
    cases l with
    | none => exact ha
    | some l => exact ha
  | objAt n svs mk =>
    exact (show False from by cases b <;> exact h).elim
  | mp isA n α d enc es =>
    have h' : LB.mp isA n α d enc es = b := h
    subst h'
    cases l with
    | none => exact ha
    | some l => exact ha

theorem lbBelow_sound {X : PH} {ρ σ : Rho} {H : Nat → Option Obj} {n : Nat} (hs : ∀ key, key < n → σ key = ρ key) {l : Option Loc} {b : LB} (h : BOk X ρ H l b) (hb : lbBelow n b = true) : BOk X σ H l b := by
  cases b with
  | arr α d enc xs => cases l <;> exact h
  | mp isA n α d enc es => cases l <;> exact h
  | objAt n svs mk =>
    cases l with
    | none => exact h
    | some l =>
      obtain ⟨h0, h1, vs, h2, h3, h4⟩ := h
      exact ⟨h0, h1, vs, h2, fun i sv hi => let ⟨v, a, b⟩ := h3 i sv hi; ⟨v, a, b.below1 hs (belows1_spec hb i sv hi)⟩, h4⟩
  | cells cs =>
    cases l with
    | none => exact h.elim
    | some l =>
      obtain ⟨h0, c, ty, h1, h2, h3, h4⟩ := h
      exact ⟨h0, c, ty, h1, h2, h3, fun i sv hi => let ⟨v, hv, hr⟩ := h4 i sv hi; ⟨v, hv, hr.below1 hs (belows1_spec hb i sv hi)⟩⟩

/-! ### the loop's own state -/
theorem overSlots_length (mods : List Nat) (ov : List (Nat × SV)) : ∀ (i : Nat) (ts : List SV), (overSlots mods ov i ts).length = ts.length
  | _, [] => rfl
  | i, x :: r => by simp [overSlots, overSlots_length mods ov (i + 1) r]
theorem overSlots_get (mods : List Nat) (ov : List (Nat × SV)) : ∀ (ts : List SV) (i j : Nat), getSlot (overSlots mods ov i ts) j =
    if j < ts.length then (match lookN (i + j) ov with | some v => v | none => match memN (i + j) mods with | true => .any | false => getSlot ts j) else .any
  | [], i, j => by simp [overSlots, getSlot]
  | x :: r, i, 0 => by
    rw [if_pos (by simp)]
    rfl
  | x :: r, i, j + 1 => by
    simp only [overSlots, getSlot]
    rw [overSlots_get mods ov r (i + 1) j, show i + 1 + j = i + (j + 1) by omega]
    simp

theorem keptBelow_spec {n : Nat} {mods : List Nat} {ov : List (Nat × SV)} : ∀ (ts : List SV) (i j : Nat), keptBelow n mods ov i ts = true → j < ts.length → lookN (i + j) ov = none → memN (i + j) mods = false → below2 n (getSlot ts j) = true
  | [], i, j, _, hj, _, _ => by simp at hj
  | x :: r, i, 0, h, _, hl, hm => by
    simp only [keptBelow] at h
    simp only [Nat.add_zero] at hl hm
    simp only [hl, hm] at h
    cases hx : below2 n x with
    | true => simpa [getSlot] using hx
    | false => simp [hx] at h
  | x :: r, i, j + 1, h, hj, hl, hm => by
    simp only [keptBelow] at h
    have h' : keptBelow n mods ov (i + 1) r = true := by
      split at h
      · cases hx : below2 n x with
        | true => simpa [hx] using h
        | false => simp [hx] at h
      · exact h
    rw [show i + (j + 1) = i + 1 + j by omega] at hl hm
    exact keptBelow_spec r (i + 1) j h' (by simpa using hj) hl hm

theorem blksBelow_spec {n : Nat} : ∀ {B : Bl}, blksBelow n B = true → ∀ (k : Nat) (b : LB), Bl.get B k = some b → k < n ∧ lbBelow n b = true
  | [], _, k, b, h => by simp [Bl.get] at h
  | (k0, b0) :: r, h, k, b, hg => by
    simp only [blksBelow] at h
    cases h1 : Nat.blt k0 n with
    | false => simp [h1] at h
    | true =>
      cases h2 : lbBelow n b0 with
      | false => simp [h1, h2] at h
      | true =>
        simp only [h1, h2] at h
        simp only [Bl.get] at hg
        cases hk : Nat.beq k0 k with
        | true =>
          simp only [hk, Option.some.injEq] at hg
          have e := Nat.eq_of_beq_eq_true hk
          subst e; subst hg
          have := Nat.le_of_ble_eq_true h1
          exact ⟨by omega, h2⟩
        | false => simp only [hk] at hg; exact blksBelow_spec h k b hg

theorem get_mem {B : Bl} {k : Nat} {b : LB} (h : Bl.get B k = some b) : memN k (B.map (·.1)) = true := by
  induction B with
  | nil => simp [Bl.get] at h
  | cons p r ih =>
    obtain ⟨j, c⟩ := p
    simp only [Bl.get] at h
    simp only [List.map_cons, memN]
    cases hk : Nat.beq j k with
    | true =>
      have e := Nat.eq_of_beq_eq_true hk
      subst e
      simp
    | false =>
      simp only [hk] at h
      cases Nat.beq k j with
      | true => rfl
      | false => exact ih h

/-- what 'annOk' gives -/
theorem annOk_spec {base len : Nat} {kept : Bl} : ∀ {ov : List (Nat × LB)} {l : List Nat}, annOk base len kept ov l = true →
    (∀ k ∈ ov.map (·.1), memN k l = false ∧ (k < base → Bl.has kept k = true) ∧ k < base + len + 1 ∧ (base ≤ k → k < base + len)) ∧ (ov.map (·.1)).Nodup
  | [], l, _ => ⟨fun k hk => by simp at hk, by simp⟩
  | (k0, b0) :: r, l, h => by
    simp only [annOk] at h
    have step : memN k0 l = false → annOk base len kept r (k0 :: l) = true → ((k0 < base → Bl.has kept k0 = true) ∧ k0 < base + len + 1 ∧ (base ≤ k0 → k0 < base + len)) →
        (∀ k ∈ ((k0, b0) :: r).map (·.1), memN k l = false ∧ (k < base → Bl.has kept k = true) ∧ k < base + len + 1 ∧ (base ≤ k → k < base + len)) ∧ (((k0, b0) :: r).map (·.1)).Nodup := fun h1 h2 h3 => by
      obtain ⟨g1, g2⟩ := annOk_spec h2
      refine ⟨fun k hk => ?_, ?_⟩
      · simp only [List.map_cons, List.mem_cons] at hk
        rcases hk with rfl | hk
        · exact ⟨h1, h3⟩
        · obtain ⟨q1, q2⟩ := g1 k hk
          refine ⟨?_, q2⟩
          simp only [memN] at q1
          cases hb : Nat.beq k k0 with
          | true => simp [hb] at q1
          | false => simpa [hb] using q1
      · simp only [List.map_cons, List.nodup_cons]
        refine ⟨fun hm => ?_, g2⟩
        have := (g1 k0 hm).1
        simp [memN] at this
    split at h
    · rename_i h1 h2 h3
      have hlt := Nat.le_of_ble_eq_true h2
      exact step h1 h ⟨fun _ => h3, by omega, fun h => by omega⟩
    · rename_i h1 h2 h3
      have hlt := Nat.le_of_ble_eq_true h3
      have hge : ¬ k0 < base := fun hl => by rw [show Nat.blt k0 base = true from Nat.ble_eq_true_of_le hl] at h2; cases h2
      exact step h1 h ⟨fun h => absurd h hge, by omega, fun _ => by omega⟩
    · cases h

theorem overBlks_get : ∀ (ov : List (Nat × LB)) (B : Bl) (k : Nat), (ov.map (·.1)).Nodup → Bl.get (overBlks ov B) k = match lookN k ov with | some b => some b | none => Bl.get B k
  | [], B, k, _ => rfl
  | (k0, b0) :: r, B, k, hn => by
    simp only [List.map_cons, List.nodup_cons] at hn
    simp only [overBlks]
    rw [overBlks_get r _ k hn.2]
    simp only [lookN]
    cases hb : Nat.beq k k0 with
    | true =>
      have e := Nat.eq_of_beq_eq_true hb
      subst e
      have hl : lookN k r = none := by
        have := hn.1
        clear hn
        induction r with
        | nil => rfl
        | cons p r ih =>
          obtain ⟨j, c⟩ := p
          simp only [List.map_cons, List.mem_cons, not_or] at this
          simp only [lookN]
          rw [nbeq_false this.1]
          exact ih this.2
      simp only [hl]
      unfold Bl.has
      cases hg : Bl.get B k with
      | none => simp only []; exact Bl.get_ins_same _ _ _ hg
      | some b => simp only []; exact Bl.get_set_same _ _ _ hg
    | false =>
      have hne : k ≠ k0 := fun e => by subst e; simp at hb
      cases lookN k r with
      | some b => rfl
      | none =>
        simp only []
        cases Bl.has B k0 with
        | true => exact Bl.get_set_other _ _ _ _ hne
        | false => exact Bl.get_ins_other _ _ _ _ hne

theorem lookN_mem {β : Type 1} {k : Nat} {b : β} : ∀ {ov : List (Nat × β)}, lookN k ov = some b → k ∈ ov.map (·.1)
  | [], h => by simp [lookN] at h
  | (j, c) :: r, h => by
    simp only [lookN] at h
    cases hb : Nat.beq k j with
    | true => have e := Nat.eq_of_beq_eq_true hb; subst e; simp
    | false => simp only [hb] at h; simp only [List.map_cons, List.mem_cons]; exact .inr (lookN_mem h)

theorem blksLe_spec {base : Nat} {ren : List (Option Nat)} {B : Bl} : ∀ {ov : List (Nat × LB)}, blksLe base ren B ov → ∀ (k : Nat) (lb : LB), lookN k ov = some lb →
    (match renOf base ren k with
      | some q => ∃ b, Bl.get B q = some b ∧ lbLe base ren b lb
      | none => match lb with | .arr _ d enc xs => xs = [] ∧ EncOk d enc | _ => False)
  | [], _, k, lb, hl => by simp [lookN] at hl
  | (k0, b0) :: r, h, k, lb, hl => by
    obtain ⟨h1, h2⟩ := h
    simp only [lookN] at hl
    cases hb : Nat.beq k k0 with
    | true =>
      have e := Nat.eq_of_beq_eq_true hb
      subst e
      simp only [hb, Option.some.injEq] at hl
      subst hl
      cases hr : renOf base ren k with
      | none => simp only [hr] at h1; exact h1
      | some q =>
        simp only [hr] at h1
        simp only []
        cases hg : Bl.get B q with
        | none => simp [hg] at h1
        | some b => simp only [hg] at h1; exact ⟨b, rfl, h1⟩
    | false => simp only [hb] at hl; exact blksLe_spec h2 k lb hl

theorem keptLe_spec {ov : List (Nat × LB)} {B : Bl} : ∀ {kept : Bl}, keptLe ov B kept → ∀ (k : Nat) (lb : LB), Bl.get kept k = some lb → lookN k ov = none → Bl.get B k = some lb
  | [], _, k, lb, hg, _ => by simp [Bl.get] at hg
  | (k0, b0) :: r, h, k, lb, hg, hl => by
    simp only [keptLe] at h
    simp only [Bl.get] at hg
    cases hb : Nat.beq k0 k with
    | true =>
      have e := Nat.eq_of_beq_eq_true hb
      subst e
      simp only [hb, Option.some.injEq] at hg
      subst hg
      simp only [hl] at h
      cases hg2 : Bl.get B k0 with
      | none => simp [hg2] at h
      | some b => simp only [hg2] at h; rw [h.1]
    | false =>
      simp only [hb] at hg
      cases hl0 : lookN k0 ov with
      | some q => simp only [hl0] at h; exact keptLe_spec h k lb hg hl
      | none => simp only [hl0] at h; exact keptLe_spec h.2 k lb hg hl

theorem distinct_spec : ∀ {ren : List (Option Nat)} {l : List Nat}, distinct ren l = true →
    (∀ (i q : Nat), ren[i]? = some (some q) → memN q l = false) ∧ ∀ (i j q : Nat), ren[i]? = some (some q) → ren[j]? = some (some q) → i = j
  | [], l, _ => ⟨fun i q h => by simp at h, fun i j q h => by simp at h⟩
  | none :: r, l, h => by
    obtain ⟨h1, h2⟩ := distinct_spec (ren := r) (l := l) h
    refine ⟨fun i q hi => ?_, fun i j q hi hj => ?_⟩
    · cases i with
      | zero => simp at hi
      | succ n => exact h1 n q (by simpa using hi)
    · cases i with
      | zero => simp at hi
      | succ n => cases j with
        | zero => simp at hj
        | succ m => rw [h2 n m q (by simpa using hi) (by simpa using hj)]
  | some k :: r, l, h => by
    simp only [distinct] at h
    cases hk : memN k l with
    | true => simp [hk] at h
    | false =>
      simp only [hk] at h
      obtain ⟨h1, h2⟩ := distinct_spec h
      have hne : ∀ (i q : Nat), r[i]? = some (some q) → q ≠ k ∧ memN q l = false := fun i q hi => by
        have := h1 i q hi
        simp only [memN] at this
        cases hb : Nat.beq q k with
        | true => simp [hb] at this
        | false => simp only [hb] at this; exact ⟨fun e => by subst e; simp at hb, this⟩
      refine ⟨fun i q hi => ?_, fun i j q hi hj => ?_⟩
      · cases i with
        | zero => simp at hi; subst hi; exact hk
        | succ n => exact (hne n q (by simpa using hi)).2
      · cases i with
        | zero =>
          simp at hi; subst hi
          cases j with
          | zero => rfl
          | succ m => exact absurd rfl (hne m k (by simpa using hj)).1
        | succ n => cases j with
          | zero => simp at hj; subst hj; exact absurd rfl (hne n k (by simpa using hi)).1
          | succ m => rw [h2 n m q (by simpa using hi) (by simpa using hj)]

theorem keysAt_length (ts : List SV) : ∀ (l : List Nat), (keysAt ts l).length = l.length
  | [] => rfl
  | _ :: r => by simp [keysAt, keysAt_length ts r]

theorem keysB_length (B : Bl) : ∀ (l : List (Nat × Nat)), (keysB B l).length = l.length
  | [] => rfl
  | _ :: r => by simp [keysB, keysB_length B r]
theorem keysAll_length (st : St) (an : LoopAnn) : (keysAll st an).length = rkLen an := by simp [keysAll, rkLen, keysAt_length, keysB_length]

/-- A STATE THAT IS HELD AGAINST THE INVARIANT IS ONE OF THE INVARIANT'S. -/
theorem stLe_sound {X : PH} {ρ : Rho} {st : St} {a : Act} {w : World} (hc : Conc0 X ρ st.tmps st.blks a w) {base : Nat} {an : LoopAnn} {kept : Bl} {ts0 : List SV} {mods : List Nat} {g : an.γ}
    (h : stLe base an kept st g) (hag : st.tmps.length = ts0.length ∧ ∀ i, memN i mods = false → lookN i (zipSV an.slots (an.vals base g)) = none → getSlot st.tmps i = getSlot ts0 i)
    (hk : keptBelow base mods (zipSV an.slots (an.vals base g)) 0 ts0 = true) (hbl : blksBelow base kept = true) (hok : annOk base (rkLen an) kept (an.blks base g) [] = true) :
    ∃ σ : Rho, (∀ key, key < base → σ key = ρ key) ∧ Conc X σ ⟨overSlots mods (zipSV an.slots (an.vals base g)) 0 ts0, overBlks (an.blks base g) kept, base + rkLen an⟩ a w := by
  unfold stLe at h
  generalize hren : keysAll st an = ren at h
  have hrl : ren.length = rkLen an := by rw [← hren]; exact keysAll_length _ _
  simp only [] at h
  cases hd : distinct ren (kept.map (·.1)) with
  | false => simp only [hd] at h
  | true =>
    simp only [hd] at h
    obtain ⟨hs, hb, hkp⟩ := h
    obtain ⟨hd1, hd2⟩ := distinct_spec hd
    obtain ⟨ha1, ha2⟩ := annOk_spec hok
    have low : ∀ key, key < base → rhoS base ren ρ key = ρ key := fun key h => rhoS_low h
    have keptlt := blksBelow_spec hbl
    have getS : ∀ k lb, Bl.get (overBlks (an.blks base g) kept) k = some lb → BOk X (rhoS base ren ρ) (fun b => w.heap[b]?) (rhoS base ren ρ k) lb ∧
        (∀ l, rhoS base ren ρ k = some l → ∃ q b, renOf base ren k = some q ∧ Bl.get st.blks q = some b ∧ ρ q = some l) ∧ (k < base → ∃ b, Bl.get kept k = some b) ∧ (base ≤ k → k < base + rkLen an) := fun k lb hg => by
      rw [overBlks_get _ _ _ ha2] at hg
      cases hl : lookN k (an.blks base g) with
      | some b =>
        simp only [hl, Option.some.injEq] at hg
        subst hg
        have hsp := blksLe_spec hb k b hl
        obtain ⟨_, q2, q3, q4⟩ := ha1 k (lookN_mem hl)
        have hkept : k < base → ∃ b, Bl.get kept k = some b := fun hlt => by
          have := q2 hlt
          unfold Bl.has at this
          cases hgk : Bl.get kept k with
          | none => simp [hgk] at this
          | some b => exact ⟨b, rfl⟩
        cases hr : renOf base ren k with
        | none =>
          simp only [hr] at hsp
          rw [rhoS_none hr]
          cases b with
          | cells cs => exact hsp.elim
          | mp isA n α d enc es => exact hsp.elim
          | objAt n svs mk => exact hsp.elim
          | arr α d enc xs => exact ⟨hsp, (fun l hl' => by cases hl'), hkept, q4⟩
        | some q =>
          simp only [hr] at hsp
          obtain ⟨b', hb', hle⟩ := hsp
          rw [rhoS_some hr]
          exact ⟨lbLe_sound (hc.mem.own q b' hb') hle, fun l hl' => ⟨q, b', rfl, hb', hl'⟩, hkept, q4⟩
      | none =>
        simp only [hl] at hg
        obtain ⟨hlt, hlb⟩ := keptlt k lb hg
        have hst := keptLe_spec hkp k lb hg hl
        have hr : renOf base ren k = some k := by unfold renOf; rw [show Nat.blt k base = true from Nat.ble_eq_true_of_le hlt]
        refine ⟨?_, fun l hl' => ⟨k, lb, hr, hst, by rw [rhoS_low hlt] at hl'; exact hl'⟩, fun _ => ⟨lb, hg⟩, fun h => by omega⟩
        rw [rhoS_low hlt]
        exact lbBelow_sound low (hc.mem.own k lb hst) hlb
    refine ⟨rhoS base ren ρ, low, ⟨⟨hc.mem.fr, hc.mem.sub, fun k lb hg => (getS k lb hg).1, fun k1 k2 b1 b2 l1 l2 h1 h2 e1 e2 hl => ?_⟩, ?_, fun i => ?_, hc.dfr, fun key hkey => ?_⟩⟩
    · obtain ⟨_, r1, n1, m1⟩ := getS k1 b1 h1
      obtain ⟨_, r2, n2, m2⟩ := getS k2 b2 h2
      obtain ⟨q1, c1, hr1, hg1, hρ1⟩ := r1 l1 e1
      obtain ⟨q2, c2, hr2, hg2, hρ2⟩ := r2 l2 e2
      have hq := hc.mem.inj q1 q2 c1 c2 l1 l2 hg1 hg2 hρ1 hρ2 hl
      subst hq
      have case1 : ∀ k, k < base → renOf base ren k = some q1 → k = q1 := fun k hk hr => by
        unfold renOf at hr
        rw [show Nat.blt k base = true from Nat.ble_eq_true_of_le hk] at hr
        simpa using hr
      have case2 : ∀ k, ¬ k < base → renOf base ren k = some q1 → ren[k - base]? = some (some q1) := fun k hk hr => by
        unfold renOf at hr
        have : Nat.blt k base = false := by
          cases hbb : Nat.blt k base with
          | false => rfl
          | true => exact absurd (Nat.le_of_ble_eq_true hbb) hk
        rw [this] at hr
        simp only [] at hr
        split at hr
        · rename_i q hq; simp only [Option.some.injEq] at hr; subst hr; exact hq
        · cases hr
      by_cases hk1 : k1 < base <;> by_cases hk2 : k2 < base
      · rw [case1 k1 hk1 hr1, case1 k2 hk2 hr2]
      · have e := case1 k1 hk1 hr1
        obtain ⟨b, hkk⟩ := n1 hk1
        have := hd1 _ _ (case2 k2 hk2 hr2)
        rw [← e, get_mem hkk] at this; cases this
      · have e := case1 k2 hk2 hr2
        obtain ⟨b, hkk⟩ := n2 hk2
        have := hd1 _ _ (case2 k1 hk1 hr1)
        rw [← e, get_mem hkk] at this; cases this
      · have := hd2 _ _ _ (case2 k1 hk1 hr1) (case2 k2 hk2 hr2)
        omega
    · show a.tmps.size = (overSlots mods (zipSV an.slots (an.vals base g)) 0 ts0).length
      rw [overSlots_length, hc.size, hag.1]
    · show Rv X (rhoS base ren ρ) (getSlot (overSlots mods (zipSV an.slots (an.vals base g)) 0 ts0) i) (a.tmps.getD i undef)
      rw [overSlots_get]
      by_cases hi : i < ts0.length
      · rw [if_pos hi, Nat.zero_add]
        cases hl : lookN i (zipSV an.slots (an.vals base g)) with
        | some v => exact svLe_sound (hc.slots i) (slotsLe_spec hs i v hl)
        | none =>
          cases hmm : memN i mods with
          | true => exact .any _ _
          | false =>
            have hb2 := keptBelow_spec ts0 0 i hk hi (by rw [Nat.zero_add]; exact hl) (by rw [Nat.zero_add]; exact hmm)
            have := hc.slots i
            rw [hag.2 i hmm hl] at this
            exact this.below2 low hb2
      · rw [if_neg hi]; exact .any _ _
    · simp only at hkey
      constructor
      · unfold rhoS renOf
        have : Nat.blt key base = false := by
          cases hbb : Nat.blt key base with
          | false => rfl
          | true => have := Nat.le_of_ble_eq_true hbb; omega
        rw [this]
        have : ren[key - base]? = none := List.getElem?_eq_none (by omega)
        simp [this]
      · cases hg : Bl.get (overBlks (an.blks base g) kept) key with
        | none => rfl
        | some lb => have := (getS key lb hg).2.2.2 (by omega); omega
end Go.SX
