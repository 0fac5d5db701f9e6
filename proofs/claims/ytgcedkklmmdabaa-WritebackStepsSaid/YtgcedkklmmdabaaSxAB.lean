/- A PART OF THE PROOF. NO CONDITION. -/
import Derived.Test.YtgcedkklmmdabaaSxAA
set_option linter.unusedSimpArgs false
set_option linter.unusedVariables false
set_option linter.unusedVariables false
set_option linter.unusedSimpArgs false
namespace Go.SX

def newLoc (ρ' : Rho) : SV → Option Loc
  | .sl key k o _ => (ρ' key).map fun l => ⟨l.b, l.p + o * k, l.sz⟩
  | _ => none

section back
variable {X' Y : PH} {ρ' σ : Rho} {ks : List Nat} {m kd : Nat}

theorem ren1_lt {i : Nat} (h : i < ks.length) : ks[i]? = some (ren1 ks kd i) := by
  unfold ren1
  have : ks[i]? = some ks[i] := by simp [h]
  rw [this]
theorem ren1_m (h : ks.length = m) : ren1 ks kd m = kd := by
  unfold ren1
  rw [List.getElem?_eq_none (by omega)]

theorem retA_sound (hl : ks.length = m) (hp : ∀ (i q : Nat), ks[i]? = some q → σ q = ρ' i) {src : SV} (hs : σ kd = newLoc ρ' src) {a r : SV} {v : Value} (hv : Rv X' ρ' a v) (h : retA m src a r) : Rv Y σ (renA ks kd r) v := by
  have boolC : ∀ b, (match a with | .tt => b = true | .ff => b = false | sv => sv = .val (.bool b)) → Rv Y σ (.val (.bool b)) v := fun b h => by
    split at h
    · subst h; rw [rv_tt hv]; exact .val _ _
    · subst h; rw [rv_ff hv]; exact .val _ _
    · subst h; exact hv.flatten rfl
  cases r with
  | sl i k o n =>
    simp only [retA] at h
    cases hb : Nat.beq i m with
    | true =>
      simp only [hb] at h
      have := Nat.eq_of_beq_eq_true hb
      subst this
      obtain ⟨e1, e2, h3⟩ := h
      subst e1; subst e2
      simp only [renA, ren1_m hl]
      split at h3
      · rename_i key k' o' n'
        obtain ⟨e1, e2⟩ := h3
        subst e1; subst e2
        cases hv with
        | sl _ _ _ _ _ c A hn hA =>
          refine .sl _ _ _ _ _ c A hn (hA.imp id fun ⟨l, h1, h2, h4⟩ => ⟨⟨l.b, l.p + o' * k', l.sz⟩, ?_, ?_, ?_⟩)
          · rw [hs]; simp [newLoc, h1]
          · rw [h2]; simp
          · simp only [Nat.zero_add]; rw [Nat.add_mul] at h4; omega
      · subst h3
        cases hv with
        | e0 _ A => exact .sl _ _ _ _ _ 0 A (Nat.le_refl _) (.inl rfl)
      · subst h3
        cases hv with
        | val => exact .sl _ _ _ _ _ 0 none (Nat.le_refl _) (.inl rfl)
      · exact h3.elim
    | false =>
      simp only [hb] at h
      split at h
      · rename_i i' k' o' n' hlt
        cases hb2 : Nat.beq i' i with
        | false => simp [hb2] at h
        | true =>
          simp only [hb2] at h
          have := Nat.eq_of_beq_eq_true hb2
          obtain ⟨e1, e2, e3⟩ := h
          subst this; subst e1; subst e2; subst e3
          have hlt' : i' < m := by simpa [Nat.blt_eq] using hlt
          have hq := ren1_lt (kd := kd) (ks := ks) (i := i') (by omega)
          simp only [renA]
          cases hv with
          | sl _ _ _ _ _ c A hn hA => exact .sl _ _ _ _ _ c A hn (hA.imp id fun ⟨l, h1, h2, h4⟩ => ⟨l, by rw [hp _ _ hq, h1], h2, h4⟩)
      · exact h.elim
  | any => exact .any _ _
  | tt => simp only [retA, flat] at h; subst h; exact hv.flatten rfl
  | ff => simp only [retA, flat] at h; subst h; exact hv.flatten rfl
  | e0 => simp only [retA, flat] at h; subst h; exact hv.flatten rfl
  | one => simp only [retA, flat] at h; subst h; exact hv.flatten rfl
  | val u =>
    cases u with
    | bool b => exact boolC b h
    | _ => simp only [retA, flat] at h; subst h; exact hv.flatten rfl
  | _ => simp [retA, flat] at h

theorem retAs_sound (hl : ks.length = m) (hp : ∀ (i q : Nat), ks[i]? = some q → σ q = ρ' i) {src : SV} (hs : σ kd = newLoc ρ' src) : ∀ {as rs : List SV}, retAs m src as rs → as.length = rs.length ∧
    ∀ (i : Nat) r v, (renAs ks kd rs)[i]? = some r → (∀ a, as[i]? = some a → Rv X' ρ' a v) → Rv Y σ r v
  | [], [], _ => ⟨rfl, fun i r v hi => by simp [renAs] at hi⟩
  | [a], [r], h => ⟨rfl, fun i b v hi hv => by
      cases i with
      | zero => simp [renAs] at hi; subst hi; exact retA_sound hl hp hs (hv a rfl) h
      | succ i => simp [renAs] at hi⟩
  | a :: a2 :: as, r :: rs, h => by
    have h' : retA m src a r ∧ retAs m src (a2 :: as) rs := h
    obtain ⟨h1, h2⟩ := retAs_sound hl hp hs h'.2
    refine ⟨by simpa using h1, fun i b v hi hv => ?_⟩
    cases i with
    | zero => simp [renAs] at hi; subst hi; exact retA_sound hl hp hs (hv a rfl) h'.1
    | succ i => exact h2 i b v (by simpa [renAs] using hi) fun a' ha => hv a' (by simpa using ha)
  | [a], r :: r2 :: rs, h => by exact h.2.elim
  | [], _ :: _, h => h.elim
  | _ :: _, [], h => by simp [retAs] at h
theorem renAs_length (ks : List Nat) (kd : Nat) : ∀ rs, (renAs ks kd rs).length = rs.length
  | [] => rfl
  | _ :: r => by simp [renAs, renAs_length ks kd r]

theorem retT_sound (hl : ks.length = m) (hp : ∀ (i q : Nat), ks[i]? = some q → σ q = ρ' i) {src : SV} (hs : σ kd = newLoc ρ' src) {a r : SV} {v : Value} (hv : Rv X' ρ' a v) (h : retT m src a r) : Rv Y σ (renT ks kd r) v := by
  have lst : ∀ {cs' cs : List SV} {vs : Array Value}, retAs m src cs' cs → vs.size = cs'.length → (∀ (i : Nat) (sv : SV) (v : Value), cs'[i]? = some sv → vs[i]? = some v → Rv X' ρ' sv v) →
      vs.size = (renAs ks kd cs).length ∧ ∀ (i : Nat) (sv : SV) (v : Value), (renAs ks kd cs)[i]? = some sv → vs[i]? = some v → Rv Y σ sv v := fun hh hsz hr => by
    obtain ⟨h1, h2⟩ := retAs_sound (X' := X') (Y := Y) hl hp hs hh
    exact ⟨by rw [hsz, renAs_length, h1], fun i sv v hi hv => h2 i sv v hi fun s' hs' => hr i s' v hs' hv⟩
  cases r with
  | agg cs =>
    simp only [retT] at h
    split at h
    · cases hv with
      | agg _ _ vs hsz hr => obtain ⟨h1, h2⟩ := lst h hsz hr; exact .agg _ _ _ h1 h2
    · exact h.elim
  | tup cs =>
    simp only [retT] at h
    split at h
    · cases hv with
      | tup _ _ vs hsz hr => obtain ⟨h1, h2⟩ := lst h hsz hr; exact .tup _ _ _ h1 h2
    · exact h.elim
  | any => exact retA_sound (r := .any) hl hp hs hv h
  | tt => exact retA_sound (r := .tt) hl hp hs hv h
  | ff => exact retA_sound (r := .ff) hl hp hs hv h
  | e0 => exact retA_sound (r := .e0) hl hp hs hv h
  | one => exact retA_sound (r := .one) hl hp hs hv h
  | val u => exact retA_sound (r := .val u) hl hp hs hv h
  | sl i k o n => exact retA_sound (r := .sl i k o n) hl hp hs hv h
  | _ => simp [retT, retA, flat] at h

theorem new_block {w' : World} {B' : Bl} (hm : Mem X' ρ' B' w') (hY : ∀ b, X' b = none → Y b = none) {src : SV} {lb : LB} (h : srcOk m B' src lb) :
    BOk Y σ (fun b => w'.heap[b]?) (newLoc ρ' src) lb ∧ ∀ l, newLoc ρ' src = some l → ∃ key l' lb', m ≤ key ∧ Bl.get B' key = some lb' ∧ ρ' key = some l' ∧ l.b = l'.b := by
  cases lb with
  | cells cs => exact h.elim
  | mp isA n α d enc es => exact h.elim
  | objAt n svs mk => exact h.elim
  | arr α d enc ys =>
    obtain ⟨hfl, h⟩ := h
    split at h
    · rename_i key k o n
      split at h
      · rename_i α' d' enc' xs hmk hg
        have hmk : m ≤ key := Nat.le_of_ble_eq_true hmk
        cases hb : Nat.beq k (enc' d').length with
        | false => simp [hb] at h
        | true =>
          simp only [hb] at h
          have hk := Nat.eq_of_beq_eq_true hb
          obtain ⟨hle, he⟩ := h
          have hown := hm.own key _ hg
          have hlen : ((xs.drop o).take n).length = n := by rw [List.length_take, List.length_drop]; omega
          rw [LB.arr.injEq] at he
          obtain ⟨e1, e2, e3, e4⟩ := he
          subst e1
          have e2 := eq_of_heq e2; have e3 := eq_of_heq e3; have e4 := eq_of_heq e4
          subst e2; subst e3; subst e4
          cases hl : ρ' key with
          | none =>
            rw [hl] at hown
            obtain ⟨h0, hek⟩ := hown
            simp only [newLoc, hl, Option.map_none]
            exact ⟨⟨by rw [h0]; simp, hek⟩, fun l hh => by cases hh⟩
          | some l =>
            rw [hl] at hown
            obtain ⟨h0, hek, c, ty, h1, h2, h3, h4⟩ := hown
            simp only [newLoc, hl, Option.map_some]
            refine ⟨⟨hY _ h0, hek, c, ty, h1, h2, ?_, fun i x j sv hi hj => ?_⟩, fun l' hh => by cases hh; exact ⟨key, l, _, hmk, hg, hl, rfl⟩⟩
            · simp only
              rw [hlen]
              have : (o + n) * (enc' d').length ≤ xs.length * (enc' d').length := Nat.mul_le_mul_right _ hle
              rw [Nat.add_mul] at this
              rw [hk]; omega
            · have hin : i < n := by
                have := (List.getElem?_eq_some_iff.1 hi).1
                rw [hlen] at this; exact this
              rw [List.getElem?_take_of_lt hin, List.getElem?_drop] at hi
              obtain ⟨v, hv, hr⟩ := h4 (o + i) x j sv hi hj
              refine ⟨v, ?_, hr.flatten (allFlat_spec (hfl x) _ _ hj)⟩
              rw [← hv]
              simp only
              congr 1
              rw [hk, Nat.add_mul]; omega
      · rename_i cs hmk hg
        have hmk : m ≤ key := Nat.le_of_ble_eq_true hmk
        split at h
        · rename_i hb1 hb2 hb3
          obtain ⟨hch, hek⟩ := h
          have hk := Nat.eq_of_beq_eq_true hb1
          have hle : (o + n) * k ≤ cs.length := Nat.le_of_ble_eq_true hb2
          have hlen : ys.length = n := by
            have := congrArg List.length hch
            rw [chunk_length, List.length_map] at this; exact this.symm
          have hown := hm.own key _ hg
          cases hl : ρ' key with
          | none => rw [hl] at hown; exact hown.elim
          | some l =>
            rw [hl] at hown
            obtain ⟨h0, c, ty, h1, h2, h3, h4⟩ := hown
            simp only [newLoc, hl, Option.map_some]
            refine ⟨⟨hY _ h0, hek, c, ty, h1, h2, ?_, fun i x j sv hi hj => ?_⟩, fun l' hh => by cases hh; exact ⟨key, l, _, hmk, hg, hl, rfl⟩⟩
            · simp only
              rw [hlen]
              rw [Nat.add_mul] at hle
              rw [← hk]; omega
            · have hin : i < n := by
                have := (List.getElem?_eq_some_iff.1 hi).1
                rw [hlen] at this; exact this
              have hrow : (ys.map enc)[i]? = some (enc x) := by rw [List.getElem?_map, hi]; rfl
              rw [← hch, chunk_get _ _ _ _ hin] at hrow
              have hrow : enc x = ((cs.drop (o * k)).drop (i * k)).take k := (Option.some.inj hrow).symm
              have hjk : j < k := by
                have := (List.getElem?_eq_some_iff.1 hj).1
                rw [(hek x).1] at this; omega
              have hfs := allFlat_spec (hfl x) _ _ hj
              rw [hrow, List.getElem?_take_of_lt hjk, List.getElem?_drop, List.getElem?_drop] at hj
              obtain ⟨v, hv, hr⟩ := h4 _ sv hj
              refine ⟨v, ?_, hr.flatten hfs⟩
              rw [← hv]
              simp only
              congr 1
              rw [← hk]; omega
        · exact h.elim
      · exact h.elim
    · obtain ⟨e, hek⟩ := h
      exact ⟨⟨e, hek⟩, fun l hh => by simp [newLoc] at hh⟩
    · obtain ⟨e, hek⟩ := h
      exact ⟨⟨e, hek⟩, fun l hh => by simp [newLoc] at hh⟩
    · exact h.elim
end back
end Go.SX
