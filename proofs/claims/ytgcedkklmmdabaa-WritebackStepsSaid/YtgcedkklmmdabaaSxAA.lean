/- A PART OF THE PROOF. NO CONDITION. -/
import Derived.Test.YtgcedkklmmdabaaSxZ
set_option linter.unusedSimpArgs false
set_option linter.unusedVariables false
set_option linter.unusedVariables false
set_option linter.unusedSimpArgs false
namespace Go.SX

section frame
variable {X X1 : PH} {ρ : Rho} {B : Bl} {w : World} {ks : List Nat}

def rhoOf (ks : List Nat) (ρ : Rho) : Rho := fun k => (ks[k]?).bind ρ

theorem viewA_sound (hm : Mem X ρ B w) (hX : X.le X1) (hfz : ∀ key lb l, Bl.get B key = some lb → memN key ks = false → ρ key = some l → X1 l.b = w.heap[l.b]?)
    {sv a : SV} {v : Value} (hv : Rv X ρ sv v) (h : viewA B ks sv a) : Rv X1 (rhoOf ks ρ) a v := by
  have other : ∀ a, noKey a = true → sv = a → Rv X1 (rhoOf ks ρ) a v := fun a hk he => (he ▸ hv).monoX hX |>.swap hk
  have boolC : ∀ b, (match sv with | .tt => b = true | .ff => b = false | sv => sv = .val (.bool b)) → Rv X1 (rhoOf ks ρ) (.val (.bool b)) v := fun b h => by
    split at h
    · subst h; rw [rv_tt hv]; exact .val _ _
    · subst h; rw [rv_ff hv]; exact .val _ _
    · exact other _ rfl h
  cases a with
  | any => exact .any _ _
  | tt => exact other _ rfl (by simpa [viewA, noKey] using h)
  | ff => exact other _ rfl (by simpa [viewA, noKey] using h)
  | e0 => exact other _ rfl (by simpa [viewA, noKey] using h)
  | one => exact other _ rfl (by simpa [viewA, noKey] using h)
  | val u =>
    cases u with
    | bool b => exact boolC b h
    | _ => exact other _ rfl (by simpa [viewA, noKey] using h)
  | ptr i off =>
    simp only [viewA] at h
    split at h
    · rename_i key off'
      cases hk : ks[i]? with
      | none => simp [hk] at h
      | some q =>
        simp only [hk] at h
        cases hb : Nat.beq key q with
        | false => simp [hb] at h
        | true =>
          simp only [hb] at h
          have := Nat.eq_of_beq_eq_true hb
          subst this; subst h
          cases hv with
          | ptr _ _ _ l hl => exact .ptr _ _ _ l (by simp [rhoOf, hk, hl])
    · exact h.elim
  | sl i k o n =>
    simp only [viewA] at h
    split at h
    · rename_i key k' o' n'
      cases hk : ks[i]? with
      | none => simp [hk] at h
      | some q =>
        simp only [hk] at h
        cases hb : Nat.beq key q with
        | false => simp [hb] at h
        | true =>
          simp only [hb] at h
          have := Nat.eq_of_beq_eq_true hb
          obtain ⟨e1, e2, e3⟩ := h
          subst this; subst e1; subst e2; subst e3
          cases hv with
          | sl _ _ _ _ _ c A hn hA => exact .sl _ _ _ _ _ c A hn (hA.imp id fun ⟨l, h1, h2, h3⟩ => ⟨l, by simp [rhoOf, hk, h1], h2, h3⟩)
    · exact h.elim
  | ro α d enc xs =>
    simp only [viewA] at h
    split at h
    · rw [h] at hv; exact (hv.monoX hX).swap rfl
    · rename_i key k o n
      cases hmem : memN key ks with
      | true => simp [hmem] at h
      | false =>
        simp only [hmem] at h
        cases hg : Bl.get B key with
        | none => simp [hg] at h
        | some lb =>
          simp only [hg] at h
          have hown := hm.own key lb hg
          cases hv with
          | sl _ _ _ _ _ cap A hn hA =>
          cases lb with
          | mp isA2 n2 α2 d2 enc2 es2 => exact (show False from h).elim
          | objAt n svs mk => exact (show False from h).elim
          | arr α' d' enc' xs' =>
            simp only at h
            cases hb : Nat.beq k (enc' d').length with
            | false => simp [hb] at h
            | true =>
              simp only [hb] at h
              have hk := Nat.eq_of_beq_eq_true hb
              obtain ⟨hle, he⟩ := h
              rw [← he]
              have hlen : ((xs'.drop o).take n).length = n := by rw [List.length_take, List.length_drop]; omega
              rw [show Value.slice A n cap = .slice A ((xs'.drop o).take n).length cap by rw [hlen]]
              cases hl : ρ key with
              | none =>
                rw [hl] at hown
                obtain ⟨h0, hek⟩ := hown
                subst h0
                simp
                exact empty_ro _ hek _ _
              | some l =>
                rw [hl] at hown
                obtain ⟨h0, hek, c, ty, h1, h2, h3, h4⟩ := hown
                rcases hA with hc | ⟨l', hl', hA', hcap⟩
                · have : n = 0 := by omega
                  subst this
                  simp
                  exact empty_ro _ hek _ _
                · rw [hl] at hl'; cases hl'
                  subst hA'
                  have hfx := hfz key _ l hg hmem hl
                  rw [show w.heap[l.b]? = _ from h1] at hfx
                  refine frozen_ro _ hfx hek (by rw [hlen]; exact hn) fun i j x sv hi hj => ?_
                  have hin : i < n := by
                    have := (List.getElem?_eq_some_iff.1 hi).1
                    rw [hlen] at this; exact this
                  rw [List.getElem?_take_of_lt hin, List.getElem?_drop] at hi
                  obtain ⟨v, hv, hr⟩ := h4 (o + i) x j sv hi hj
                  refine ⟨v, ?_, hr.monoX hX⟩
                  rw [← hv]
                  congr 1
                  rw [hk, Nat.add_mul]; omega
          | cells cs =>
            simp only at h
            split at h
            · rename_i hb1 hb2 hb3
              obtain ⟨hch, hek⟩ := h
              have hk := Nat.eq_of_beq_eq_true hb1
              have hle : (o + n) * k ≤ cs.length := Nat.le_of_ble_eq_true hb2
              obtain ⟨r1, r2⟩ := relaxL_spec (enc d) (chunk n k (cs.drop (o * k)))
              have hlen : xs.length = n := by
                have := congrArg List.length hch
                rw [r1, chunk_length, List.length_map] at this; exact this.symm
              cases hl : ρ key with
              | none => rw [hl] at hown; exact hown.elim
              | some l =>
                rw [hl] at hown
                obtain ⟨h0, c, ty, h1, h2, h3, h4⟩ := hown
                rcases hA with hc | ⟨l', hl', hA', hcap⟩
                · have : n = 0 := by omega
                  subst this
                  have hxs : xs = [] := List.length_eq_zero_iff.1 hlen
                  subst hxs
                  exact empty_ro _ hek _ _
                · rw [hl] at hl'; cases hl'
                  subst hA'
                  have hfx := hfz key _ l hg hmem hl
                  rw [show w.heap[l.b]? = _ from h1] at hfx
                  rw [← hlen]
                  refine frozen_ro _ hfx hek (by rw [hlen]; exact hn) fun i j x sv hi hj => ?_
                  have hin : i < n := by
                    have := (List.getElem?_eq_some_iff.1 hi).1
                    rw [hlen] at this; exact this
                  have hrow : (xs.map enc)[i]? = some (enc x) := by rw [List.getElem?_map, hi]; rfl
                  rw [← hch] at hrow
                  obtain ⟨row, g1, _, g3⟩ := r2 i _ hrow
                  rw [chunk_get _ _ _ _ hin] at g1
                  have g1 : row = ((cs.drop (o * k)).drop (i * k)).take k := (Option.some.inj g1).symm
                  have hjk : j < k := by
                    have := (List.getElem?_eq_some_iff.1 hj).1
                    rw [(hek x).1] at this; omega
                  obtain ⟨sv0, hj0, hs⟩ := g3 j sv hj
                  rw [g1, List.getElem?_take_of_lt hjk, List.getElem?_drop, List.getElem?_drop] at hj0
                  obtain ⟨v, hv, hr⟩ := h4 _ sv0 hj0
                  refine ⟨v, ?_, (((hr.unkey (allNoKey_spec hb3 _ _ hj0)).monoX hX).relaxed hs)⟩
                  rw [← hv]
                  congr 1
                  rw [← hk]; omega
            · exact h.elim
    · obtain ⟨h1, h2⟩ := h
      subst h1
      cases hv with
      | e0 _ A => exact empty_ro _ h2 _ _
    · obtain ⟨h1, h2⟩ := h
      subst h1
      cases hv with
      | val => exact empty_ro _ h2 _ _
    · exact h.elim
  | rop α d enc xs i off => exact other _ rfl (by simpa [viewA, noKey] using h)
  | ropE α d enc xs i off => exact other _ rfl (by simpa [viewA, noKey] using h)
  | _ => simp [viewA, noKey] at h

theorem listR_spec {R : SV → SV → Prop} : ∀ {ss as : List SV}, listR R ss as → ss.length = as.length ∧ ∀ (i : Nat) a, as[i]? = some a → ∃ s, ss[i]? = some s ∧ R s a
  | [], [], _ => ⟨rfl, fun i a hi => by simp at hi⟩
  | [s], [a], h => ⟨rfl, fun i b hi => by
      cases i with
      | zero => simp at hi; subst hi; exact ⟨s, rfl, h⟩
      | succ i => simp at hi⟩
  | s :: s2 :: r, a :: q, h => by
    have h' : R s a ∧ listR R (s2 :: r) q := h
    obtain ⟨h1, h2⟩ := listR_spec h'.2
    refine ⟨by simpa using h1, fun i b hi => ?_⟩
    cases i with
    | zero => simp at hi; subst hi; exact ⟨s, rfl, h'.1⟩
    | succ i => obtain ⟨s', hs, hr⟩ := h2 i b (by simpa using hi); exact ⟨s', by simpa using hs, hr⟩
  | [s], a :: a2 :: q, h => by exact h.2.elim
  | [], _ :: _, h => h.elim
  | _ :: _, [], h => by simp [listR] at h

theorem viewR_sound (hm : Mem X ρ B w) (hX : X.le X1) (hfz : ∀ key lb l, Bl.get B key = some lb → memN key ks = false → ρ key = some l → X1 l.b = w.heap[l.b]?) :
    ∀ (n : Nat) {sv a : SV} {v : Value}, Rv X ρ sv v → viewR n B ks sv a → Rv X1 noKeys a v
  | 0, sv, a, v, hv, h => h.elim
  | n + 1, sv, a, v, hv, h => by
    have ih := fun {sv a : SV} {v : Value} => viewR_sound hm hX hfz n (sv := sv) (a := a) (v := v)
    have other : ∀ a, noKey a = true → sv = a → Rv X1 noKeys a v := fun a hk he => ((he ▸ hv).monoX hX).unkey hk
    cases a with
    | rop α d enc xs i off =>
      simp only [viewR] at h
      split at h
      · rename_i key o
        split at h
        · rename_i cs hmem hg
          split at h
          · rename_i x hb
            obtain ⟨rfl, hen, hl⟩ := h
            have hlen : cs.length = (enc d).length := Nat.eq_of_beq_eq_true hb
            obtain ⟨hl1, hl2⟩ := listR_spec hl
            cases hv with
            | ptr _ _ _ l hρ =>
              have hok := hm.own key _ hg
              rw [hρ] at hok
              obtain ⟨h0, c, ty, h1, h2, h3, h4⟩ := hok
              simp only at h1
              have hz := hfz key _ l hg hmem hρ
              rw [h1] at hz
              have := Rv.rop (X := X1) noKeys α d enc [x] 0 o l.b l.p c ty (0, 0) (fun _ j => (c[l.p + j]?).getD undef) hz hen (fun i j hi hj => ?_) (fun i j x' sv' hx' hj => ?_)
              · simpa using this
              · have hi0 : i = 0 := by simpa using hi
                subst hi0
                have hj' : j < cs.length := by omega
                obtain ⟨u, hu, _⟩ := h4 j cs[j] (by simp [hj'])
                simp [hu]
              · cases i with
                | succ i => simp at hx'
                | zero =>
                  simp at hx'
                  subst hx'
                  obtain ⟨s, hs, hr⟩ := hl2 j sv' hj
                  obtain ⟨u, hu, hru⟩ := h4 j s hs
                  simp only [hu, Option.getD_some]
                  exact ih hru hr
          · exact h.elim
        · exact h.elim
      · exact other _ rfl h
    | clo f cs =>
      simp only [viewR] at h
      split at h
      · rename_i f' cs'
        split at h
        · rename_i hb
          have := Nat.eq_of_beq_eq_true hb
          subst this
          obtain ⟨hl1, hl2⟩ := listR_spec h
          cases hv with
          | clo _ _ _ vs hs hr =>
            refine .clo _ _ _ _ (by rw [hs, hl1]) fun i sv v hi hv' => ?_
            obtain ⟨s, hs', hrr⟩ := hl2 i sv hi
            exact ih (hr i s v hs' hv') hrr
        · exact h.elim
      · exact h.elim
    | ro α d enc xs =>
      simp only [viewR] at h
      exact (viewA_sound hm hX hfz hv h).unkey rfl
    | any => exact .any _ _
    | tt => exact other _ rfl h
    | ff => exact other _ rfl h
    | e0 => exact other _ rfl h
    | one => exact other _ rfl h
    | val u => exact other _ rfl h
    | ropE α d enc xs i off => exact other _ rfl h
    | _ => simp [viewR, noKey] at h

theorem viewB_sound (hm : Mem X ρ B w) (hX : X.le X1) (hfz : ∀ key lb l, Bl.get B key = some lb → memN key ks = false → ρ key = some l → X1 l.b = w.heap[l.b]?)
    {sv a : SV} {v : Value} (hv : Rv X ρ sv v) (h : viewB B ks sv a) : Rv X1 (rhoOf ks ρ) a v := by
  cases a with
  | rop α d enc xs i off =>
    simp only [viewB] at h
    exact (viewR_sound hm hX hfz 6 hv h).monoR (Rho.none_le _)
  | _ => exact viewA_sound hm hX hfz hv h

theorem viewAs_sound (hm : Mem X ρ B w) (hX : X.le X1) (hfz : ∀ key lb l, Bl.get B key = some lb → memN key ks = false → ρ key = some l → X1 l.b = w.heap[l.b]?) :
    ∀ {svs as : List SV}, viewAs B ks svs as → svs.length = as.length ∧ ∀ (i : Nat) a v, as[i]? = some a → (∀ sv, svs[i]? = some sv → Rv X ρ sv v) → Rv X1 (rhoOf ks ρ) a v
  | [], [], _ => ⟨rfl, fun i a v hi => by simp at hi⟩
  | s :: r, a :: q, h => by
    obtain ⟨h1, h2⟩ := viewAs_sound hm hX hfz h.2
    refine ⟨by simp [h1], fun i b v hi hv => ?_⟩
    cases i with
    | zero => simp at hi; subst hi; exact viewB_sound hm hX hfz (hv s rfl) h.1
    | succ i => exact h2 i b v (by simpa using hi) fun sv hs => hv sv (by simpa using hs)
  | [], _ :: _, h => h.elim
  | _ :: _, [], h => h.elim

theorem viewT_sound (hm : Mem X ρ B w) (hX : X.le X1) (hfz : ∀ key lb l, Bl.get B key = some lb → memN key ks = false → ρ key = some l → X1 l.b = w.heap[l.b]?)
    {sv a : SV} {v : Value} (hv : Rv X ρ sv v) (h : viewT B ks sv a) : Rv X1 (rhoOf ks ρ) a v := by
  have lst : ∀ {cs' cs : List SV} {vs : Array Value}, viewAs B ks cs' cs → vs.size = cs'.length → (∀ (i : Nat) (sv : SV) (v : Value), cs'[i]? = some sv → vs[i]? = some v → Rv X ρ sv v) →
      vs.size = cs.length ∧ ∀ (i : Nat) (sv : SV) (v : Value), cs[i]? = some sv → vs[i]? = some v → Rv X1 (rhoOf ks ρ) sv v := fun hh hs hr => by
    obtain ⟨h1, h2⟩ := viewAs_sound hm hX hfz hh
    exact ⟨by rw [hs, h1], fun i sv v hi hv => h2 i sv v hi fun s' hs' => hr i s' v hs' hv⟩
  cases a with
  | agg cs =>
    simp only [viewT] at h
    split at h
    · cases hv with
      | agg _ _ vs hs hr => obtain ⟨h1, h2⟩ := lst h hs hr; exact .agg _ _ _ h1 h2
    · exact h.elim
  | tup cs =>
    simp only [viewT] at h
    split at h
    · cases hv with
      | tup _ _ vs hs hr => obtain ⟨h1, h2⟩ := lst h hs hr; exact .tup _ _ _ h1 h2
    · exact h.elim
  | clo f cs =>
    simp only [viewT] at h
    split at h
    · obtain ⟨e, h⟩ := h
      subst e
      cases hv with
      | clo _ _ _ vs hs hr => obtain ⟨h1, h2⟩ := lst h hs hr; exact .clo _ _ _ _ h1 h2
    · exact h.elim
  | _ => exact viewB_sound hm hX hfz hv h

theorem viewL_sound (hm : Mem X ρ B w) (hX : X.le X1) (hfz : ∀ key lb l, Bl.get B key = some lb → memN key ks = false → ρ key = some l → X1 l.b = w.heap[l.b]?) :
    ∀ {svs as : List SV}, viewL B ks svs as → svs.length = as.length ∧ ∀ (i : Nat) a, as[i]? = some a → ∃ sv, svs[i]? = some sv ∧ ∀ v, Rv X ρ sv v → Rv X1 (rhoOf ks ρ) a v
  | [], [], _ => ⟨rfl, fun i a hi => by simp at hi⟩
  | [s], [a], h => ⟨rfl, fun i b hi => by
      cases i with
      | zero => simp at hi; subst hi; exact ⟨s, rfl, fun v hv => viewT_sound hm hX hfz hv h⟩
      | succ i => simp at hi⟩
  | s :: s2 :: r, a :: q, h => by
    have h' : viewT B ks s a ∧ viewL B ks (s2 :: r) q := h
    obtain ⟨h1, h2⟩ := viewL_sound hm hX hfz h'.2
    refine ⟨by simpa using h1, fun i b hi => ?_⟩
    cases i with
    | zero => simp at hi; subst hi; exact ⟨s, rfl, fun v hv => viewT_sound hm hX hfz hv h'.1⟩
    | succ i => obtain ⟨sv, hs, hr⟩ := h2 i b (by simpa using hi); exact ⟨sv, by simpa using hs, hr⟩
  | [s], a :: a2 :: q, h => by exact h.2.elim
  | [], _ :: _, h => h.elim
  | _ :: _, [], h => by simp [viewL] at h
end frame
end Go.SX
