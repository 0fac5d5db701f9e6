/- A PART OF THE PROOF. NO CONDITION. -/
import Derived.Test.YtgcedkklmmdabaaSxAB
set_option linter.unusedSimpArgs false
set_option linter.unusedVariables false
set_option linter.unusedVariables false
set_option linter.unusedSimpArgs false
namespace Go.SX
open Classical in
/-- the blocks that the callee is not passed -/
noncomputable def frozen (X : PH) (ρ : Rho) (B : Bl) (ks : List Nat) (w : World) : PH := ⟨fun b => match X b with
  | some o => some o
  | none => if ∃ key lb l, Bl.get B key = some lb ∧ memN key ks = false ∧ ρ key = some l ∧ l.b = b then w.heap[b]? else none, X.w0⟩
open Classical in
noncomputable def thaw (X X' : PH) (ρ : Rho) (B : Bl) (ks : List Nat) : PH := ⟨fun b =>
  if (∃ key lb l, Bl.get B key = some lb ∧ memN key ks = false ∧ ρ key = some l ∧ l.b = b) ∧ X b = none then none else X' b, X'.w0⟩

theorem BOk.loc {X : PH} {ρ : Rho} {H : Nat → Option Obj} {l : Loc} {lb : LB} (h : BOk X ρ H (some l) lb) : X l.b = none := by cases lb <;> exact h.1
theorem BOk.located {X : PH} {ρ : Rho} {H : Nat → Option Obj} {l : Loc} {lb : LB} (h : BOk X ρ H (some l) lb) : ∃ o, H l.b = some o := by
  cases lb with
  | cells cs => obtain ⟨_, c, ty, h1, _⟩ := h; exact ⟨_, h1⟩
  | arr α d enc xs => obtain ⟨_, _, c, ty, h1, _⟩ := h; exact ⟨_, h1⟩
  | mp isA n α d enc es => obtain ⟨_, _, _, _, c, ty, h1, _⟩ := h; exact ⟨_, h1⟩
  | objAt n svs mk => obtain ⟨_, _, vs, _, _, h1⟩ := h; exact ⟨_, h1⟩
def LBin : LB → Prop
  | .cells cs => allNoKey cs = true
  | .arr .. => True
  | .mp .. => False
  | .objAt .. => False

theorem BOk.pass {X Y : PH} {ρ σ : Rho} {H : Nat → Option Obj} {q q' : Option Loc} {lb : LB} (h : BOk X ρ H q lb) (hq : q' = q) (hY : ∀ b, X b = none → (∃ l, q = some l ∧ l.b = b) → Y b = none)
    (hc : ∀ cs, lb = .cells cs → ∀ sv ∈ cs, ∀ v, Rv X ρ sv v → Rv Y σ sv v) (ha : ∀ α d (enc : α → List SV) xs, lb = .arr α d enc xs → ∀ x, ∀ sv ∈ enc x, ∀ v, Rv X noKeys sv v → Rv Y noKeys sv v)
    (hmp : ∀ isA n α d (enc : α → List SV) es, lb = .mp isA n α d enc es → ∀ x, ∀ sv ∈ enc x, ∀ v, Rv X noKeys sv v → Rv Y noKeys sv v)
    (hob : ∀ n svs mk, lb = .objAt n svs mk → ∀ sv ∈ svs, ∀ v, Rv X ρ sv v → Rv Y σ sv v) : BOk Y σ H q' lb := by
  subst hq
  cases q' with
  | none => cases lb <;> exact h
  | some l =>
    cases lb with
    | cells cs =>
      obtain ⟨h0, c, ty, h1, h2, h3, h4⟩ := h
      exact ⟨hY _ h0 ⟨l, rfl, rfl⟩, c, ty, h1, h2, h3, fun i sv hi => let ⟨v, a, b⟩ := h4 i sv hi; ⟨v, a, hc cs rfl sv (List.mem_of_getElem? hi) v b⟩⟩
    | mp isA n α d enc es =>
      obtain ⟨h0, hu, hu1, hnd, c, ck, h1, h2, h4⟩ := h
      exact ⟨hY _ h0 ⟨l, rfl, rfl⟩, hu, hu1, hnd, c, ck, h1, h2, fun i e hi => let ⟨a, b, en, g1, g2, g3⟩ := h4 i e hi; ⟨a, b, en, g1, g2, fun sv hs => hmp isA n α d enc es rfl e.2 sv (by rw [hs]; simp) en.val (g3 sv hs)⟩⟩
    | objAt n svs mk =>
      obtain ⟨h0, h1, vs, h2, h3, h4⟩ := h
      exact ⟨hY _ h0 ⟨l, rfl, rfl⟩, h1, vs, h2, fun i sv hi => let ⟨v, a, b⟩ := h3 i sv hi; ⟨v, a, hob n svs mk rfl sv (List.mem_of_getElem? hi) v b⟩, h4⟩
    | arr α d enc xs =>
      obtain ⟨h0, hek, c, ty, h1, h2, h3, h4⟩ := h
      exact ⟨hY _ h0 ⟨l, rfl, rfl⟩, hek, c, ty, h1, h2, h3, fun i x j sv hi hj => let ⟨v, a, b⟩ := h4 i x j sv hi hj; ⟨v, a, ha α d enc xs rfl x sv (List.mem_of_getElem? hj) v b⟩⟩


/-- what a callee with a contract does, in a world of its own -/
def ConRuns (P : Program) (c : Con) (f : Nat) : Prop :=
  ∀ (g : c.γ) (X : PH) (ρ : Rho) (w : World) (vs : Array Value), c.pre g → Mem X ρ (blksOf 0 (c.ins g)) w → Fresh ρ (blksOf 0 (c.ins g)) 8 → Like X ρ (c.args g) vs →
    Calls P f vs w fun e w' => ∃ v, e = .returned v ∧ ∃ X' ρ' sv B', X.le X' ∧ RLe 8 ρ ρ' ∧ Mem X' ρ' B' w' ∧ Rv X' ρ' sv v ∧ ∃ b, c.post g b ∧ retOk c.m B' sv (c.res g b) (c.new g b) ∧ ((c.outs g b).length = c.m ∧ outsOk B' 0 (c.outs g b))
theorem con_core {P : Program} (c : Con) {f : Nat} (hfn : FnOk P f) (hm7 : c.m ≤ 8) (hin : ∀ g lb, c.pre g → lb ∈ c.ins g → LBin lb) (hcore : ConRuns P c f) : SpecOk P f c.spec := by
  refine ⟨hfn, fun X ρ B w kd svs vs K hm hfree hlike hs => ?_⟩
  unfold Con.spec at hs
  generalize c.keys svs = ks at hs
  simp only at hs
  split at hs
  case h_2 => exact hs.elim
  rename_i hkm hnd
  have hkm : ks.length = c.m := Nat.eq_of_beq_eq_true hkm
  obtain ⟨g, hview, hhas, hpre, hK⟩ := hs
  obtain ⟨hinl, hhas⟩ := hasAll_spec hhas
  let X1 := frozen X ρ B ks w
  let ρ1 := rhoOf ks ρ
  have hX1 : X.le X1 := ⟨fun b o h => by simp only [X1, frozen, h], rfl⟩
  have hrest : ∀ key lb l, Bl.get B key = some lb → memN key ks = false → ρ key = some l → X1 l.b = w.heap[l.b]? ∧ X l.b = none := fun key lb l hg hk hl => by
    have hown := hm.own key lb hg
    rw [hl] at hown
    have h0 := hown.loc
    refine ⟨?_, h0⟩
    simp only [X1, frozen, h0]
    rw [if_pos ⟨key, lb, l, hg, hk, hl, rfl⟩]
  have hfz : ∀ key lb l, Bl.get B key = some lb → memN key ks = false → ρ key = some l → X1 l.b = w.heap[l.b]? := fun key lb l a b c => (hrest key lb l a b c).1
  have hget1 : ∀ i b, Bl.get (blksOf 0 (c.ins g)) i = some b → (c.ins g)[i]? = some b := fun i b h => by rw [get_blksOf] at h; simpa using h
  have hkeyOf : ∀ i b, (c.ins g)[i]? = some b → ∃ q, ks[i]? = some q ∧ Bl.get B q = some b := fun i b h => by
    have hi : i < ks.length := by rw [← hinl]; exact (List.getElem?_eq_some_iff.1 h).1
    exact ⟨ks[i]'hi, List.getElem?_eq_getElem hi, hhas i _ b (List.getElem?_eq_getElem hi) h⟩
  have hnotrest : ∀ i q l b, ks[i]? = some q → Bl.get B q = some b → ρ q = some l → X l.b = none → X1 l.b = none := fun i q l b hq hg hl h0 => by
    simp only [X1, frozen, h0]
    rw [if_neg]
    rintro ⟨key, lb, l2, h1, h2, h3, h4⟩
    have := hm.inj key q _ _ l2 l h1 hg h3 hl h4
    subst this
    rw [memN_self (List.mem_of_getElem? hq)] at h2; cases h2
  have hm1 : Mem X1 ρ1 (blksOf 0 (c.ins g)) w := by
    refine ⟨hm.fr, fun b o h => ?_, fun i lb h => ?_, fun i j b1 b2 l1 l2 h1 h2 h3 h4 h5 => ?_⟩
    · have h : frozen X ρ B ks w b = some o := h
      simp only [frozen] at h
      split at h
      · rename_i hx; cases h; exact hm.sub _ _ hx
      · split at h
        · exact h
        · cases h
    · have hi := hget1 i lb h
      obtain ⟨q, hq, hg⟩ := hkeyOf i lb hi
      refine (hm.own q lb hg).pass (show ρ1 i = ρ q by simp [ρ1, rhoOf, hq]) (fun b h0 ⟨l, hl, hlb⟩ => ?_) (fun cs hc sv hsv v hr => ?_) (fun α d enc xs _ x sv _ v hr => hr.monoX hX1) (fun _ _ α d enc es _ x sv _ v hr => hr.monoX hX1) (fun n svs mk hc => by have := hin g lb hpre (List.mem_of_getElem? hi); rw [hc] at this; exact this.elim)
      · subst hlb; exact hnotrest i q l lb hq hg hl h0
      · have := hin g lb hpre (List.mem_of_getElem? hi)
        rw [hc] at this
        obtain ⟨j, hj⟩ := List.getElem?_of_mem hsv
        exact (hr.monoX hX1).swap (allNoKey_spec this j sv hj)
    · obtain ⟨q1, hq1, hg1⟩ := hkeyOf i b1 (hget1 i b1 h1)
      obtain ⟨q2, hq2, hg2⟩ := hkeyOf j b2 (hget1 j b2 h2)
      have e1 : ρ q1 = some l1 := by simpa [ρ1, rhoOf, hq1] using h3
      have e2 : ρ q2 = some l2 := by simpa [ρ1, rhoOf, hq2] using h4
      have := hm.inj q1 q2 _ _ _ _ hg1 hg2 e1 e2 h5
      subst this
      exact nodupN_spec hnd i j q1 hq1 hq2
  have hfresh1 : Fresh ρ1 (blksOf 0 (c.ins g)) 8 := fun key hk => by
    refine ⟨by simp only [ρ1, rhoOf]; rw [List.getElem?_eq_none (by omega)]; rfl, ?_⟩
    rw [get_blksOf, if_pos (Nat.zero_le _), List.getElem?_eq_none (by omega)]
  obtain ⟨hvl, hvs⟩ := viewL_sound hm hX1 hfz hview
  have hlike1 : Like X1 ρ1 (c.args g) vs := ⟨by rw [hlike.1, hvl], fun i a hi => by
    obtain ⟨sv, hsv, hr⟩ := hvs i a hi
    obtain ⟨v, hv, hrv⟩ := hlike.2 i sv hsv
    exact ⟨v, hv, hr v hrv⟩⟩
  refine (hcore g X1 ρ1 w vs hpre hm1 hfresh1 hlike1).mono fun e w' hret => ?_
  obtain ⟨v, he, X', ρ', sv, B', hX', hρ', hm', hrv, b, hpost, hret, houtl, houts⟩ := hret
  refine ⟨v, he, ?_⟩
  have houts := outsOk_spec houts
  -- the way back
  let Y := thaw X X' ρ B ks
  have hXY : X.le Y := ⟨fun b o h => by
    simp only [Y, thaw]
    rw [if_neg (fun hh => by rw [h] at hh; cases hh.2)]
    exact hX' _ _ (hX1 _ _ h), hX'.w0.trans hX1.w0⟩
  have hYn : ∀ b, X' b = none → Y b = none := fun b h => by
    simp only [Y, thaw]
    split
    · rfl
    · exact h
  have hYs : ∀ b o, Y b = some o → X' b = some o := fun b o h => by
    simp only [Y, thaw] at h
    split at h
    · cases h
    · exact h
  have hYrest : ∀ key lb l, Bl.get B key = some lb → memN key ks = false → ρ key = some l → Y l.b = none := fun key lb l hg hk hl => by
    simp only [Y, thaw]
    rw [if_pos ⟨⟨key, lb, l, hg, hk, hl, rfl⟩, (hrest key lb l hg hk hl).2⟩]
  have hfrozen : ∀ key lb l, Bl.get B key = some lb → memN key ks = false → ρ key = some l → ∃ o, X' l.b = some o ∧ w.heap[l.b]? = some o ∧ w'.heap[l.b]? = some o := fun key lb l hg hk hl => by
    have hown := hm.own key lb hg
    rw [hl] at hown
    obtain ⟨o, ho⟩ := hown.located
    have h1 : X1 l.b = some o := by rw [(hrest key lb l hg hk hl).1]; exact ho
    exact ⟨o, hX' _ _ h1, ho, hm'.sub _ _ (hX' _ _ h1)⟩
  have hpassρ : ∀ (i q : Nat), ks[i]? = some q → ρ' i = ρ q := fun i q hq => by
    have hi : i < ks.length := (List.getElem?_eq_some_iff.1 hq).1
    rw [hρ'.eq i (by omega)]
    simp [ρ1, rhoOf, hq]
  have hkd := hfree kd (Nat.le_refl _) (by omega)
  have hne : ∀ (i q : Nat), ks[i]? = some q → q ≠ kd := fun i q hq e => by
    have hi : i < (c.ins g).length := by rw [hinl]; exact (List.getElem?_eq_some_iff.1 hq).1
    have := hhas i q _ hq (by simp [hi] : (c.ins g)[i]? = some ((c.ins g)[i]))
    rw [e, hkd.2] at this; cases this
  -- the source of the new block
  obtain ⟨src, hret, hsrc⟩ : ∃ src, retT c.m src sv (c.res g b) ∧ ∀ lb, c.new g b = some lb → srcOk c.m B' src lb := by
    unfold retOk at hret
    split at hret
    · rename_i hn; exact ⟨.any, hret, fun lb h => by rw [hn] at h; cases h⟩
    · rename_i lb hn
      exact ⟨_, hret.1, fun lb' h => by rw [hn] at h; cases h; exact hret.2⟩
  let σ : Rho := fun key => if key = kd then newLoc ρ' src else ρ key
  have hσkd : σ kd = newLoc ρ' src := by simp [σ]
  have hσ : ∀ key, key ≠ kd → σ key = ρ key := fun key h => by simp [σ, h]
  have hρσ : ρ.le σ := fun key l h => by
    by_cases hk : key = kd
    · subst hk; rw [hkd.1] at h; cases h
    · rw [hσ key hk]; exact h
  obtain ⟨hset1, hset2⟩ := get_setAll ks (c.outs g b) B hnd (by rw [houtl, hkm]) (fun i q hq => by
    have hi : i < (c.ins g).length := by rw [hinl]; exact (List.getElem?_eq_some_iff.1 hq).1
    exact ⟨_, hhas i q _ hq (by simp [hi] : (c.ins g)[i]? = some ((c.ins g)[i]))⟩)
  have hnk : memN kd ks = false := by
    cases hmm : memN kd ks with
    | false => rfl
    | true => obtain ⟨i, hi⟩ := memN_get hmm; exact absurd rfl (hne i kd hi)
  have hsetkd : Bl.get (setAll ks (c.outs g b) B) kd = none := by rw [hset1 kd hnk]; exact hkd.2
  -- what a key holds
  have hcase : ∀ key lb, Bl.get (insNew (setAll ks (c.outs g b) B) kd (c.new g b)) key = some lb →
      (key = kd ∧ c.new g b = some lb) ∨ (key ≠ kd ∧ ∃ i : Nat, ks[i]? = some key ∧ (c.outs g b)[i]? = some lb) ∨ (key ≠ kd ∧ memN key ks = false ∧ Bl.get B key = some lb) := fun key lb h => by
    have old : key ≠ kd → Bl.get (setAll ks (c.outs g b) B) key = some lb → (∃ i : Nat, ks[i]? = some key ∧ (c.outs g b)[i]? = some lb) ∨ (memN key ks = false ∧ Bl.get B key = some lb) := fun hk h => by
      cases hmm : memN key ks with
      | false => rw [hset1 key hmm] at h; exact .inr ⟨rfl, h⟩
      | true =>
        obtain ⟨i, hi⟩ := memN_get hmm
        have hil : i < (c.outs g b).length := by rw [houtl, ← hkm]; exact (List.getElem?_eq_some_iff.1 hi).1
        have := hset2 i key _ hi (by simp [hil] : (c.outs g b)[i]? = some ((c.outs g b)[i]))
        rw [this] at h; cases h
        exact .inl ⟨i, hi, by simp [hil]⟩
    unfold insNew at h
    by_cases hk : key = kd
    · subst hk
      split at h
      · rw [hsetkd] at h; cases h
      · rename_i lb' hn
        rw [Bl.get_ins_same _ _ _ hsetkd] at h; cases h
        exact .inl ⟨rfl, hn⟩
    · refine .inr ?_
      split at h
      · exact (old hk h).imp (fun h => ⟨hk, h⟩) (fun h => ⟨hk, h⟩)
      · rw [Bl.get_ins_other _ _ _ _ hk] at h
        exact (old hk h).imp (fun h => ⟨hk, h⟩) (fun h => ⟨hk, h⟩)
  have hnew := fun lb h => new_block (Y := Y) (σ := σ) hm' hYn (hsrc lb h)
  refine ⟨Y, σ, _, _, hXY, hρσ, fun key hk => ?_, ⟨hm'.fr, fun b o h => hm'.sub _ _ (hYs _ _ h), fun key lb h => ?_, fun k1 k2 b1 b2 l1 l2 h1 h2 h3 h4 h5 => ?_⟩, retT_sound hkm (fun i q hq => by rw [hσ q (hne i q hq), hpassρ i q hq]) hσkd hrv hret, hK b hpost⟩
  · have hkk : key ≠ kd := fun e => hk ⟨by omega, by omega⟩
    refine ⟨hσ key hkk, fun hg => ?_⟩
    have hnone : Bl.get (setAll ks (c.outs g b) B) key = none := by
      cases hmm : memN key ks with
      | false => rw [hset1 key hmm]; exact hg
      | true =>
        obtain ⟨i, hi⟩ := memN_get hmm
        have hil : i < (c.ins g).length := by rw [hinl]; exact (List.getElem?_eq_some_iff.1 hi).1
        have := hhas i key _ hi (by simp [hil] : (c.ins g)[i]? = some ((c.ins g)[i]))
        rw [hg] at this; cases this
    unfold insNew
    split
    · exact hnone
    · rw [Bl.get_ins_other _ _ _ _ hkk]; exact hnone
  · rcases hcase key lb h with ⟨rfl, hn⟩ | ⟨hk, i, hi, ho⟩ | ⟨hk, hmm, hg⟩
    · rw [hσkd]; exact (hnew lb hn).1
    · obtain ⟨hg', hfl⟩ := houts i lb ho
      rw [Nat.zero_add] at hg'
      refine (hm'.own i lb hg').pass (by rw [hσ key hk, hpassρ i key hi]) (fun b h0 _ => hYn b h0) (fun cs hc sv hsv v hr => ?_) (fun α d enc xs hc x sv hsv v hr => ?_) (fun isA n α d enc es hc => ?_) (fun n svs mk hc => ?_)
      · rw [hc] at hfl
        obtain ⟨j, hj⟩ := List.getElem?_of_mem hsv
        exact hr.flatten (allFlat_spec hfl j sv hj)
      · rw [hc] at hfl
        obtain ⟨j, hj⟩ := List.getElem?_of_mem hsv
        exact hr.flatten (allFlat_spec (hfl x) j sv hj)
      · rw [hc] at hfl
        exact (show False from hfl).elim
      · rw [hc] at hfl
        exact (show False from hfl).elim
    · have hown := hm.own key lb hg
      have hown' : BOk X ρ (fun b => w'.heap[b]?) (ρ key) lb := hown.congr fun q hq => by
        obtain ⟨o, _, h1, h2⟩ := hfrozen key lb q hg hmm hq
        simp only [h1, h2]
      refine hown'.pass (hσ key hk) (fun b h0 ⟨l, hl, hlb⟩ => by subst hlb; exact hYrest key lb l hg hmm hl) (fun cs hc sv hsv v hr => (hr.monoX hXY).monoR hρσ) (fun α d enc xs hc x sv hsv v hr => hr.monoX hXY) (fun _ _ α d enc es _ x sv _ v hr => hr.monoX hXY) (fun _ _ _ _ sv _ v hr => (hr.monoX hXY).monoR hρσ)
  · -- no two keys lie in one block
    have newOf : ∀ lb l, c.new g b = some lb → newLoc ρ' src = some l → ∃ key l' lb', c.m ≤ key ∧ Bl.get B' key = some lb' ∧ ρ' key = some l' ∧ l.b = l'.b := fun lb l hn hl => (hnew lb hn).2 l hl
    have newPass : ∀ lb l i q lb2 l2, c.new g b = some lb → newLoc ρ' src = some l → ks[i]? = some q → (c.outs g b)[i]? = some lb2 → ρ q = some l2 → l.b ≠ l2.b := fun lb l i q lb2 l2 hn hl hi ho hl2 e => by
      obtain ⟨key, l', lb', a1, a2, a3, a4⟩ := newOf lb l hn hl
      obtain ⟨hg', _⟩ := houts i lb2 ho
      rw [Nat.zero_add] at hg'
      have := hm'.inj key i _ _ l' l2 a2 hg' a3 (by rw [hpassρ i q hi]; exact hl2) (by rw [← a4, e])
      have hil : i < ks.length := (List.getElem?_eq_some_iff.1 hi).1
      omega
    have newRest : ∀ lb l key lb2 l2, c.new g b = some lb → newLoc ρ' src = some l → Bl.get B key = some lb2 → memN key ks = false → ρ key = some l2 → l.b ≠ l2.b := fun lb l key lb2 l2 hn hl hg hmm hl2 e => by
      obtain ⟨key', l', lb', a1, a2, a3, a4⟩ := newOf lb l hn hl
      have hown := hm'.own key' lb' a2
      rw [a3] at hown
      have h0 := hown.loc
      obtain ⟨o, h1, _, _⟩ := hfrozen key lb2 l2 hg hmm hl2
      rw [← e, a4, h0] at h1; cases h1
    have passRest : ∀ i q lb l key lb2 l2, ks[i]? = some q → (c.outs g b)[i]? = some lb → ρ q = some l → Bl.get B key = some lb2 → memN key ks = false → ρ key = some l2 → l.b ≠ l2.b := fun i q lb l key lb2 l2 hi ho hl hg hmm hl2 e => by
      obtain ⟨hg', _⟩ := houts i lb ho
      rw [Nat.zero_add] at hg'
      have hown := hm'.own i lb hg'
      rw [hpassρ i q hi, hl] at hown
      have h0 := hown.loc
      obtain ⟨o, h1, _, _⟩ := hfrozen key lb2 l2 hg hmm hl2
      rw [← e, h0] at h1; cases h1
    rcases hcase k1 b1 h1 with ⟨rfl, hn1⟩ | ⟨hk1, i1, hi1, ho1⟩ | ⟨hk1, hm1', hg1⟩ <;> rcases hcase k2 b2 h2 with ⟨e2, hn2⟩ | ⟨hk2, i2, hi2, ho2⟩ | ⟨hk2, hm2', hg2⟩
    · exact e2.symm
    · rw [hσkd] at h3; rw [hσ k2 hk2] at h4; exact absurd h5 (newPass b1 l1 i2 k2 b2 l2 hn1 h3 hi2 ho2 h4)
    · rw [hσkd] at h3; rw [hσ k2 hk2] at h4; exact absurd h5 (newRest b1 l1 k2 b2 l2 hn1 h3 hg2 hm2' h4)
    · subst e2; rw [hσkd] at h4; rw [hσ k1 hk1] at h3; exact absurd h5.symm (newPass b2 l2 i1 k1 b1 l1 hn2 h4 hi1 ho1 h3)
    · rw [hσ k1 hk1] at h3; rw [hσ k2 hk2] at h4
      obtain ⟨hg1', _⟩ := houts i1 b1 ho1
      obtain ⟨hg2', _⟩ := houts i2 b2 ho2
      rw [Nat.zero_add] at hg1' hg2'
      have := hm'.inj i1 i2 _ _ l1 l2 hg1' hg2' (by rw [hpassρ i1 k1 hi1]; exact h3) (by rw [hpassρ i2 k2 hi2]; exact h4) h5
      subst this
      rw [hi1] at hi2; cases hi2; rfl
    · rw [hσ k1 hk1] at h3; rw [hσ k2 hk2] at h4; exact absurd h5 (passRest i1 k1 b1 l1 k2 b2 l2 hi1 ho1 h3 hg2 hm2' h4)
    · subst e2; rw [hσkd] at h4; rw [hσ k1 hk1] at h3; exact absurd h5.symm (newRest b2 l2 k1 b1 l1 hn2 h4 hg1 hm1' h3)
    · rw [hσ k1 hk1] at h3; rw [hσ k2 hk2] at h4; exact absurd h5.symm (passRest i2 k2 b2 l2 k1 b1 l1 hi2 ho2 h4 hg1 hm1' h3)
    · rw [hσ k1 hk1] at h3; rw [hσ k2 hk2] at h4; exact hm.inj k1 k2 _ _ l1 l2 hg1 hg2 h3 h4 h5
theorem con_sound {P : Program} (c : Con) {E : c.γ → Env} (hE : ∀ g, EnvOk P (E g)) (hL : ∀ g, EnvLaw (E g)) (hmx : P.follows .mixedOrders = true) {f : Nat} {fn : Func} (hf : P.funcs[f]? = some fn) (hfn : FnOk P f) (hm7 : c.m ≤ 8)
    (hin : ∀ g lb, c.pre g → lb ∈ c.ins g → LBin lb) (hb : c.body E fn) : SpecOk P f c.spec :=
  con_core c hfn hm7 hin fun g X ρ w vs hpre hm hfresh hlike => fn_sound (hE g) (hL g) hmx hf hm hfresh hlike (hb g hpre)
end Go.SX
