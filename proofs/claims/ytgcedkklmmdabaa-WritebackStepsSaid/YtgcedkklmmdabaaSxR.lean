/- A PART OF THE PROOF. NO CONDITION. -/
import Derived.Test.YtgcedkklmmdabaaSxQ
import Derived.Deep.LoopGhost
set_option linter.unusedSimpArgs false
set_option linter.unusedVariables false
set_option linter.unusedVariables false
set_option linter.unusedSimpArgs false
namespace Go.SX

def XQ (Q : XExit → St → Prop) : Exit → St → Prop
  | .normal, st => Q .normal st
  | .exit i, st => Q (.brk i) st
  | .ret, st => Q .ret st
  | _, _ => False

/-- what stands behind a piece of code -/
def Res (X : PH) (ρ : Rho) (st : St) (ds : List Nat) (Q : XExit → St → Prop) (e : Exit) (a' : Act) (w' : World) : Prop :=
  ∃ X' ρ' st', X.le X' ∧ RLe st.next ρ ρ' ∧ Conc X' ρ' st' a' w' ∧ Agree ds st.tmps st'.tmps ∧ st.next ≤ st'.next ∧ XQ Q e st'

theorem Res.trans {X X1 : PH} {ρ ρ1 : Rho} {st st1 : St} {ds ds1 : List Nat} {Q : XExit → St → Prop} {e : Exit} {a' : Act} {w' : World} (hX : X.le X1) (hρ : RLe st.next ρ ρ1) (hag : Agree ds st.tmps st1.tmps) (hn : st.next ≤ st1.next)
    (h : Res X1 ρ1 st1 ds1 Q e a' w') : Res X ρ st (ds ++ ds1) Q e a' w' := by
  obtain ⟨X', ρ', st', h1, h2, h3, h4, h5, h6⟩ := h
  exact ⟨X', ρ', st', PH.le_trans hX h1, RLe.trans hρ (h2.mono hn), h3, hag.trans h4, by omega, h6⟩
theorem Res.weak {X : PH} {ρ : Rho} {st : St} {ds ds' : List Nat} {Q : XExit → St → Prop} {e : Exit} {a' : Act} {w' : World} (h : Res X ρ st ds Q e a' w') (hd : ∀ i, memN i ds' = false → memN i ds = false) : Res X ρ st ds' Q e a' w' := by
  obtain ⟨X', ρ', st', h1, h2, h3, h4, h5, h6⟩ := h
  exact ⟨X', ρ', st', h1, h2, h3, h4.mono hd, h5, h6⟩

/-- what is to be shown of a piece of code -/
def Snd (P : Program) (E : Env) (c : Code) : Prop :=
  ∀ (st : St) (Q : XExit → St → Prop) (X : PH) (ρ : Rho) (a : Act) (w : World), Conc X ρ st a w → exec E c st Q → c.wp P (Res X ρ st (dstsC c) Q) a w

/-- what is to be shown of a region that draws its order -/
def DrawSnd (P : Program) (E : Env) : Prop := ∀ (id : Nat) (ops : Array Oper) (st : St) (K : St → Prop) (X : PH) (ρ : Rho) (a : Act) (w : World), Conc X ρ st a w →
    symRun E ops K ops.size (Array.replicate ops.size false) st → (Code.region id ops true).wp P (fun e a' w' => e = .normal ∧
      ∃ X' ρ' ts' B', X.le X' ∧ RLe st.next ρ ρ' ∧ Conc0 X' ρ' ts' B' a' w' ∧ FreshBut ρ' B' st.next (fun j => j < ops.size) ∧ Agree (ops.toList.filterMap (·.dst)) st.tmps ts' ∧ K ⟨ts', B', st.next⟩) a w

theorem block_snd {P : Program} {E : Env} {id : Nat} {c : Code} (ih : Snd P E c) (hne : ∀ q, c ≠ .loop q) : Snd P E (.block id c) := by
  intro st Q X ρ a w hc h
  have he : exec E (.block id c) st Q = exec E c st fun e st' => match e with
      | .normal => Q .normal st'
      | .brk i => match Nat.beq i id with | true => Q .normal st' | false => Q (.brk i) st'
      | .ret => Q .ret st' := by
    cases c <;> first | rfl | exact absurd rfl (hne _)
  rw [he] at h
  refine wp_block (wp_mono (ih st _ X ρ a w hc h) fun e a' w' hr => ?_)
  obtain ⟨X', ρ', st', h1, h2, h3, h4, h5, h6⟩ := hr
  cases e with
  | normal => exact ⟨X', ρ', st', h1, h2, h3, h4, h5, h6⟩
  | exit i =>
    simp only [XQ] at h6
    simp only [Exit.inBlock]
    by_cases hi : i = id
    · rw [if_pos hi]
      subst hi
      rw [show Nat.beq i i = true by simp] at h6
      exact ⟨X', ρ', st', h1, h2, h3, h4, h5, h6⟩
    · rw [if_neg hi]
      rw [nbeq_false hi] at h6
      exact ⟨X', ρ', st', h1, h2, h3, h4, h5, h6⟩
  | ret => exact ⟨X', ρ', st', h1, h2, h3, h4, h5, h6⟩
  | goto l => exact h6.elim
  | panic ch => exact h6.elim
  | outgrown => exact h6.elim

theorem overSlots_agree {mods : List Nat} {ov : List (Nat × SV)} {ts : List SV} {i : Nat} (h1 : memN i mods = false) (h2 : lookN i ov = none) : getSlot (overSlots mods ov 0 ts) i = getSlot ts i := by
  rw [overSlots_get, Nat.zero_add, h2, h1]
  split
  · rfl
  · rw [getSlot_out _ _ (by omega)]

theorem lookN_zip : ∀ (is : List Nat) (vs us : List SV) (i : Nat), lookN i (zipSV is vs) = none → lookN i (zipSV is us) = none
  | [], _, _, _, _ => rfl
  | j :: r, vs, us, i, h => by
    cases hb : Nat.beq i j with
    | true => cases vs <;> simp [zipSV, lookN, hb] at h
    | false =>
      have h' : ∃ vs', lookN i (zipSV r vs') = none := by cases vs <;> exact ⟨_, by simpa [zipSV, lookN, hb] using h⟩
      obtain ⟨vs', h'⟩ := h'
      cases us with
      | nil => simpa [zipSV, lookN, hb] using lookN_zip r vs' [] i h'
      | cons u us => simpa [zipSV, lookN, hb] using lookN_zip r vs' us i h'

theorem subN_mem : ∀ {is l : List Nat} {i : Nat}, subN is l = true → memN i is = true → memN i l = true
  | [], _, _, _, h => by simp [memN] at h
  | j :: r, l, i, hs, h => by
    simp only [subN] at hs
    cases hj : memN j l with
    | false => simp [hj] at hs
    | true =>
      simp only [hj] at hs
      simp only [memN] at h
      cases hb : Nat.beq i j with
      | true => rw [Nat.eq_of_beq_eq_true hb]; exact hj
      | false => simp only [hb] at h; exact subN_mem hs h
theorem subN_out {is l : List Nat} {i : Nat} (hs : subN is l = true) (h : memN i l = false) : memN i is = false := by
  cases hm : memN i is with
  | false => rfl
  | true => rw [subN_mem hs hm] at h; cases h
theorem lookN_zip_none : ∀ (is : List Nat) (vs : List SV) {i : Nat}, memN i is = false → lookN i (zipSV is vs) = none
  | [], _, _, _ => rfl
  | j :: r, vs, i, h => by
    simp only [memN] at h
    cases hb : Nat.beq i j with
    | true => simp [hb] at h
    | false =>
      simp only [hb] at h
      cases vs <;> simpa [zipSV, lookN, hb] using lookN_zip_none r _ h

theorem loop_snd {P : Program} {E : Env} {id : Nat} {c : Code} (ih : Snd P E c) : Snd P E (.block id (.loop c)) := by
  intro st Q X ρ a w hc h
  simp only [exec] at h
  cases hl : E.loop id st with
  | none => simp [hl] at h
  | some an =>
    simp only [hl] at h
    obtain ⟨⟨g0, hinv0, hle0⟩, hround⟩ := h
    generalize hkept : dropKeys (keysAll st an) st.blks = kept at hle0 hround
    -- the slots that the invariant names are the same whatever g
    let ov := fun g => zipSV an.slots (an.vals st.next g)
    let S := fun g => (⟨overSlots (dstsC c) (ov g) 0 st.tmps, overBlks (an.blks st.next g) kept, st.next + rkLen an⟩ : St)
    have chk : ∀ g, an.inv g → (keptBelow st.next (dstsC c) (ov g) 0 st.tmps = true ∧ blksBelow st.next kept = true ∧ annOk st.next (rkLen an) kept (an.blks st.next g) [] = true ∧ subN an.slots (dstsC c) = true) ∧
        exec E c (S g) (fun e st' => match e with
          | .normal => ∃ g', an.inv g' ∧ an.μ g' < an.μ g ∧ stLe st.next an kept st' g'
          | .brk i => match Nat.beq i id with | true => Q .normal st' | false => Q (.brk i) st'
          | .ret => Q .ret st') := fun g hg => by
      have hr := hround g hg
      cases h1 : keptBelow st.next (dstsC c) (zipSV an.slots (an.vals st.next g)) 0 st.tmps && (blksBelow st.next kept && subN an.slots (dstsC c)) with
      | false => simp only [h1] at hr
      | true =>
        cases h2 : annOk st.next (rkLen an) kept (an.blks st.next g) [] with
        | false => simp only [h1, h2] at hr
        | true =>
          simp only [h1, h2] at hr
          rw [Bool.and_eq_true, Bool.and_eq_true] at h1
          exact ⟨⟨h1.1, h1.2.1, rfl, h1.2.2⟩, hr⟩
    have hρfresh : ∀ key, st.next ≤ key → ρ key = none := fun key hk => (hc.fresh key hk).1
    have enter : ∀ g, an.inv g → ∀ (st1 : St) (X1 : PH) (ρ1 : Rho) (a1 : Act) (w1 : World), X.le X1 → RLe st.next ρ ρ1 → Conc0 X1 ρ1 st1.tmps st1.blks a1 w1 → stLe st.next an kept st1 g →
        (st1.tmps.length = st.tmps.length ∧ ∀ i, memN i (dstsC c) = false → lookN i (ov g) = none → getSlot st1.tmps i = getSlot st.tmps i) →
        ∃ X2 ρ2, X.le X2 ∧ RLe st.next ρ ρ2 ∧ Conc X2 ρ2 (S g) a1 w1 := fun g hg st1 X1 ρ1 a1 w1 hX1 hρ1 hc1 hle hag => by
      obtain ⟨⟨k1, k2, k3, _⟩, _⟩ := chk g hg
      obtain ⟨σ, hσ, hcS⟩ := stLe_sound hc1 hle hag k1 k2 k3
      refine ⟨X1, σ, hX1, ⟨fun key l hk => ?_, fun key hk => by rw [hσ key hk, hρ1.eq key hk]⟩, hcS⟩
      by_cases hlt : key < st.next
      · rw [hσ key hlt]; exact hρ1.le key l hk
      · rw [hρfresh key (by omega)] at hk; cases hk
    refine wp_block (wp_loop_ghost (fun n a' w' => ∃ g X2 ρ2, an.inv g ∧ an.μ g = n ∧ X.le X2 ∧ RLe st.next ρ ρ2 ∧ Conc X2 ρ2 (S g) a' w') (an.μ g0) ?_ ?_)
    · obtain ⟨X2, ρ2, h1, h2, h3⟩ := enter g0 hinv0 st X ρ a w X.le_refl (RLe.refl _ _) hc.c0 hle0 ⟨rfl, fun i _ _ => rfl⟩
      exact ⟨g0, X2, ρ2, hinv0, rfl, h1, h2, h3⟩
    · rintro n a1 w1 ⟨g, X2, ρ2, hinv, rfl, hX2, hρ2, hcS⟩
      obtain ⟨⟨_, _, _, hsub⟩, hex⟩ := chk g hinv
      refine wp_mono (ih (S g) _ X2 ρ2 a1 w1 hcS hex) fun e a' w' hr => ?_
      obtain ⟨X', ρ', st', h1, h2, h3, h4, h5, h6⟩ := hr
      have hag0 : ∀ i, memN i (dstsC c) = false → lookN i (ov g) = none → getSlot st'.tmps i = getSlot st.tmps i := fun i hi hov => by
        rw [h4.2 i hi]; exact overSlots_agree hi hov
      have hlen : st'.tmps.length = st.tmps.length := by rw [h4.1]; exact overSlots_length _ _ _ _
      have hagree : Agree (dstsC c) st.tmps st'.tmps := by
        refine ⟨hlen, fun i hi => hag0 i hi (lookN_zip_none _ _ (subN_out hsub hi))⟩
      have hbn : st.next ≤ (S g).next := Nat.le_add_right _ _
      have hn' : st.next ≤ st'.next := by
        have : (S g).next = st.next + rkLen an := rfl
        omega
      have out : ∀ {Q' : XExit → St → Prop} {e'}, XQ Q' e' st' → Res X ρ st (dstsC (.block id (.loop c))) Q' e' a' w' := fun hq =>
        ⟨X', ρ', st', PH.le_trans hX2 h1, RLe.trans hρ2 (h2.mono hbn), h3, hagree, hn', hq⟩
      cases e with
      | normal =>
        obtain ⟨g', hi', hμ, hle⟩ := h6
        obtain ⟨X3, ρ3, b1, b2, b3⟩ := enter g' hi' st' X' ρ' a' w' (PH.le_trans hX2 h1) (RLe.trans hρ2 (h2.mono hbn)) h3.c0 hle
          ⟨hlen, fun i hi hov => hag0 i hi (lookN_zip _ _ _ i hov)⟩
        exact ⟨an.μ g', hμ, g', X3, ρ3, hi', rfl, b1, b2, b3⟩
      | exit i =>
        simp only [XQ] at h6
        simp only [Exit.then, Exit.inBlock]
        by_cases hi : i = id
        · rw [if_pos hi]
          subst hi
          rw [show Nat.beq i i = true by simp] at h6
          exact out (e' := .normal) h6
        · rw [if_neg hi]
          rw [nbeq_false hi] at h6
          exact out (e' := .exit i) h6
      | ret => exact out (e' := .ret) h6
      | goto l => exact h6.elim
      | panic ch => exact h6.elim
      | outgrown => exact h6.elim
end Go.SX
