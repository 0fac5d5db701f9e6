/- A PART OF THE PROOF. NO CONDITION. -/
import Derived.Test.YtgcedkklmmdabaaSxV
set_option linter.unusedSimpArgs false
set_option linter.unusedVariables false
set_option linter.unusedVariables false
set_option linter.unusedSimpArgs false
namespace Go.SX

theorem stepOp_upon {E : Env} (hL : EnvLaw E) {all : List Oper} {i : Nat} {o : Oper} {st : St} {K K' : St → Prop}
    (hK : ∀ st', (keepsK E o = true → Sub st.blks st'.blks) → st'.next = st.next → Agree o.dst.toList st.tmps st'.tmps → K st' → K' st') (h : stepOp E all i o st K) : stepOp E all i o st K' := by
  unfold stepOp at *
  split at h
  · exact h.elim
  · exact hK _ (fun _ => Sub.refl _) rfl (agree_set _ _ _) h
  · refine act_upon hL (fun f => rfl) (fun v B' hs h => ?_) h
    unfold after at *
    split at h
    · exact ⟨fun hb => hK _ hs rfl (agree_set _ _ _) (h.1 hb), fun hb => hK _ hs rfl (agree_set _ _ _) (h.2 hb)⟩
    · exact hK _ hs rfl (agree_set _ _ _) h

theorem dstOf_eq {ops : Array Oper} {j : Nat} : dstOf ops.toList j = (ops[j]?).bind (·.dst) := by
  unfold dstOf
  rw [Array.getElem?_toList]
  cases ops[j]? <;> rfl

theorem wantedSV_congr {ops : Array Oper} {o : Oper} {ts ts' : List SV} (h : ∀ t ∈ o.looksAt ops, getSlot ts' t = getSlot ts t) : wantedSV ops.toList o ts' = wantedSV ops.toList o ts := by
  unfold wantedSV
  cases hg : o.guard with
  | none => rfl
  | some q =>
    obtain ⟨j, want⟩ := q
    simp only
    cases hd : dstOf ops.toList j with
    | none => rfl
    | some t =>
      have : t ∈ o.looksAt ops := by
        rw [dstOf_eq] at hd
        simp [Oper.looksAt, hg, hd]
      simp only
      rw [h t this]

theorem evalO_congr {ops : Array Oper} {o : Oper} {ts ts' : List SV} (h : ∀ t ∈ o.looksAt ops, getSlot ts' t = getSlot ts t) : ∀ x ∈ o.op.operands, evalO ts' x = evalO ts x := fun x hx => by
  cases x with
  | tmp t => exact h t (List.mem_append_left _ (List.mem_filterMap.2 ⟨.tmp t, by simpa using hx, rfl⟩))
  | const v => cases v <;> first | rfl | (rename_i b; cases b <;> rfl)
  | global g => rfl
  | func f => rfl

theorem act_congr {E : Env} {o : Oper} {kd : Nat} {ρ ρ' : Operand → SV} {B : Bl} {K : SV → Bl → Prop} (h : ∀ x ∈ o.op.operands, ρ x = ρ' x) : act E o kd ρ B K = act E o kd ρ' B K := by
  unfold act; rw [act0_congr h]

theorem setSlot_comm : ∀ (ts : List SV) (i j : Nat) (u v : SV), i ≠ j → setSlot (setSlot ts i u) j v = setSlot (setSlot ts j v) i u
  | [], _, _, _, _, _ => rfl
  | _ :: _, 0, 0, _, _, h => absurd rfl h
  | _ :: _, 0, _ + 1, _, _, _ => rfl
  | _ :: _, _ + 1, 0, _, _, _ => rfl
  | x :: r, i + 1, j + 1, u, v, h => by simp only [setSlot]; rw [setSlot_comm r i j u v (by omega)]
theorem setDst_comm (ts : List SV) (d e : Option Nat) (u v : SV) (h : ∀ x, d = some x → e ≠ some x) : setDst (setDst ts d u) e v = setDst (setDst ts e v) d u := by
  cases d with
  | none => rfl
  | some d =>
    cases e with
    | none => rfl
    | some e => exact setSlot_comm _ _ _ _ _ fun he => h d rfl (by rw [he])
theorem getSlot_setDst {ts : List SV} {d : Option Nat} {v : SV} {t : Nat} (h : d ≠ some t) : getSlot (setDst ts d v) t = getSlot ts t := by
  cases d with
  | none => rfl
  | some d => simp only [setDst, getSlot_set]; rw [if_neg]; rintro ⟨rfl, _⟩; exact h rfl

/-- an operation steps alike whether or not an apart one's value lies there -/
theorem stepOp_put {E : Env} {ops : Array Oper} {j : Nat} {o : Oper} {ts : List SV} {B : Bl} {n : Nat} {d : Option Nat} {v : SV} {K : St → Prop} (h1 : ∀ x, d = some x → x ∉ o.looksAt ops) (h2 : ∀ x, d = some x → o.dst ≠ some x)
    (h : stepOp E ops.toList j o ⟨setDst ts d v, B, n⟩ K) : stepOp E ops.toList j o ⟨ts, B, n⟩ fun st' => K ⟨setDst st'.tmps d v, st'.blks, st'.next⟩ := by
  have hl : ∀ t ∈ o.looksAt ops, getSlot (setDst ts d v) t = getSlot ts t := fun t ht => getSlot_setDst fun he => h1 t he ht
  unfold stepOp at *
  simp only at *
  rw [wantedSV_congr hl] at h
  split at h
  · exact h.elim
  · rw [setDst_comm _ _ _ _ _ h2] at h; exact h
  · rw [act_congr (evalO_congr hl)] at h
    simp only [after] at *
    simp only [setDst_comm _ _ _ _ _ h2] at h
    exact h

/-- the older blocks stay -/
def SubB (n : Nat) (B B' : Bl) : Prop := ∀ key b, key < n → Bl.get B key = some b → Bl.get B' key = some b
theorem SubB.refl (n : Nat) (B : Bl) : SubB n B B := fun _ _ _ h => h
theorem SubB.trans {n : Nat} {A B C : Bl} (h : SubB n A B) (h' : SubB n B C) : SubB n A C := fun k b hk hb => h' k b hk (h k b hk hb)
theorem Sub.toB {n : Nat} {A B : Bl} (h : Sub A B) : SubB n A B := fun k b _ hb => h k b hb
/-- what an operation's reading wants of the blocks -/
def Keep (low : Bool) (n : Nat) (B B' : Bl) : Prop := match low with | true => SubB n B B' | false => Sub B B'
theorem Keep.refl (low : Bool) (n : Nat) (B : Bl) : Keep low n B B := by cases low; exact Sub.refl B; exact SubB.refl n B
theorem Keep.trans {low : Bool} {n : Nat} {A B C : Bl} (h : Keep low n A B) (h' : Keep low n B C) : Keep low n A C := by cases low; exact Sub.trans h h'; exact SubB.trans h h'
theorem Sub.keep {low : Bool} {n : Nat} {A B : Bl} (h : Sub A B) : Keep low n A B := by cases low; exact h; exact h.toB

/-- an operation that may come up at any time, and yields this -/
def Pend (rd low : Bool) (E : Env) (ops : Array Oper) (i : Nat) (o : Oper) (ts : List SV) (B : Bl) (n : Nat) (sv : SV) : Prop :=
  ∀ (ts' : List SV) (B' : Bl) (K' : St → Prop), (∀ t ∈ o.looksAt ops, getSlot ts' t = getSlot ts t) → (rd = true → Keep low n B B') → K' ⟨setDst ts' o.dst sv, B', n⟩ → stepOp E ops.toList i o ⟨ts', B', n⟩ K'

theorem after_elim {all : List Oper} {i : Nat} {o : Oper} {ts : List SV} {n : Nat} {v : SV} {B : Bl} {K : St → Prop} (h : after all i o ts n v B K) :
    ∃ sv, K ⟨setDst ts o.dst sv, B, n⟩ ∧ ∀ ts' B' n' (K' : St → Prop), K' ⟨setDst ts' o.dst sv, B', n'⟩ → after all i o ts' n' v B' K' := by
  unfold after at *
  split at h
  · rename_i b _
    cases b with
    | true => exact ⟨.tt, h.1 rfl, fun _ _ _ _ hK => ⟨fun _ => hK, fun hb => by cases hb⟩⟩
    | false => exact ⟨.ff, h.2 rfl, fun _ _ _ _ hK => ⟨fun hb => by (cases hb), fun _ => hK⟩⟩
  · exact ⟨_, h, fun _ _ _ _ hK => hK⟩

theorem quiet_plain {o : Oper} {ρ : Operand → SV} (h : quietK o ρ = true) : plainOp o = true := by
  unfold quietK at h
  unfold plainOp
  split at h <;> first | (simp_all; done) | (rename_i c hc; simp only [hc]; cases hcl : c.callee with
    | builtin b => cases b <;> simp_all
    | _ => simp_all)

theorem blt_lt {a b : Nat} : Nat.blt a b = true ↔ a < b := by rw [Nat.blt_eq]
/-- the older blocks alone -/
def lowB (n : Nat) (B : Bl) : Bl := B.filter fun p => Nat.blt p.1 n
theorem lowB_get {n : Nat} : ∀ (B : Bl) (k : Nat), k < n → Bl.get (lowB n B) k = Bl.get B k
  | [], _, _ => rfl
  | (j, b) :: r, k, hk => by
    have ih := lowB_get (n := n) r k hk
    unfold lowB at ih ⊢
    by_cases hj : Nat.blt j n = true
    · rw [List.filter_cons_of_pos (by simpa using hj)]
      simp only [Bl.get]
      rw [ih]
    · rw [List.filter_cons_of_neg (by simpa using hj), ih]
      have hne : Nat.beq j k = false := nbeq_false (fun e => hj (by subst e; exact blt_lt.2 hk))
      have hne' : Nat.beq k j = false := nbeq_false (fun e => hj (by subst e; exact blt_lt.2 hk))
      simp only [Bl.get, hne, hne']
theorem lowB_high {n : Nat} : ∀ (B : Bl) (k : Nat), ¬ k < n → Bl.get (lowB n B) k = none
  | [], _, _ => rfl
  | (j, b) :: r, k, hk => by
    have ih := lowB_high (n := n) r k hk
    unfold lowB at ih ⊢
    by_cases hj : Nat.blt j n = true
    · rw [List.filter_cons_of_pos (by simpa using hj)]
      have hne : Nat.beq j k = false := nbeq_false (fun e => hk (by subst e; exact blt_lt.1 hj))
      have hne' : Nat.beq k j = false := nbeq_false (fun e => hk (by subst e; exact blt_lt.1 hj))
      simp only [Bl.get, hne, hne']
      exact ih
    · rw [List.filter_cons_of_neg (by simpa using hj)]; exact ih
theorem lowB_sub {n : Nat} {B B' : Bl} (h : SubB n B B') : Sub (lowB n B) B' := fun k b hb => by
  by_cases hk : k < n
  · rw [lowB_get _ _ hk] at hb; exact h k b hk hb
  · rw [lowB_high _ _ hk] at hb; cases hb
theorem atAddr_low {n : Nat} {B : Bl} {p : SV} {K : List SV → Prop} (hp : lowV n p = true) (h : atAddr B p K) : atAddr (lowB n B) p K := by
  unfold atAddr at *
  cases p <;> simp only [lowV] at hp <;> first
    | (cases hp; done)
    | exact h
    | (simp only [lowB_get _ _ (blt_lt.1 hp)]; exact h)
theorem quiet_step2 {E : Env} {o : Oper} {kd n : Nat} {ρ : Operand → SV} {B : Bl} {K : SV → Bl → Prop} {low : Bool} (hq : quietK o ρ = true) (hlow : low = true → readsK o = true → lowK n o ρ = true) (h : act0 E o kd ρ B K) :
    ∃ v, K v B ∧ ∀ kd' B' (K' : SV → Bl → Prop), (readsK o = true → Keep low n B B') → K' v B' → act0 E o kd' ρ B' K' := by
  cases low with
  | false => exact quiet_step hq h
  | true =>
    by_cases hr : readsK o = true
    · have hl := hlow rfl hr
      have h' : act0 E o kd ρ (lowB n B) (fun v _ => K v B) := by
        cases ho : o.op with
        | load t x =>
          simp only [lowK, ho] at hl
          simp only [act0, ho] at h ⊢
          split at h
          · exact atAddr_low hl (by revert h; unfold atAddr; intro h; exact h)
          · exact h.elim
        | indexAddr t x i =>
          simp only [lowK, ho] at hl
          simp only [act0, ho] at h ⊢
          cases hi : ρ i <;> simp only [hi] at h <;> try exact h.elim
          rename_i vi
          cases vi <;> simp only [] at h <;> try exact h.elim
          cases hsl : elemSl E t with
          | some e =>
            simp only [hsl] at h ⊢
            cases hte : E.ty e with
            | none => simp only [hte] at h
            | some te =>
              simp only [hte] at h ⊢
              cases hx : ρ x <;> simp only [hx] at h <;> try exact h.elim
              · simp only [hx, lowI] at hl
                simp only [lowB_get _ _ (blt_lt.1 hl)]
                exact h
              · exact h
          | none =>
            simp only [hsl] at h ⊢
            cases har : elemArr E t with
            | none => simp only [har] at h
            | some el =>
              simp only [har] at h ⊢
              cases hte : E.ty el.1 with
              | none => simp only [hte] at h
              | some te =>
                simp only [hte] at h ⊢
                cases hx : ρ x <;> simp only [hx] at h hl <;> simp only [lowI] at hl <;> first
                  | (cases hl; done)
                  | (cases i <;> simp only [lowB_get _ _ (blt_lt.1 hl)] at h ⊢ <;> exact h)
                  | (cases i <;> simp only [lowB_get _ _ (blt_lt.1 hl)] <;> exact h)
                  | exact h
        | _ => simp only [lowK, ho] at hl <;> cases hl
      obtain ⟨v, hv, hf⟩ := quiet_step hq h'
      exact ⟨v, hv, fun kd' B' K' hB hK => hf kd' B' K' (fun hr => lowB_sub (hB hr)) hK⟩
    · obtain ⟨v, hv, hf⟩ := quiet_step hq h
      exact ⟨v, hv, fun kd' B' K' _ hK => hf kd' B' K' (fun h => absurd h hr) hK⟩

theorem quiet_pend {E : Env} {ops : Array Oper} {i : Nat} {o : Oper} {ts : List SV} {B : Bl} {n : Nat} {K : St → Prop} (hq : quietK o (evalO ts) = true) {low : Bool} (hlow : low = true → readsK o = true → lowK n o (evalO ts) = true) (h : stepOp E ops.toList i o ⟨ts, B, n⟩ K) :
    ∃ sv, K ⟨setDst ts o.dst sv, B, n⟩ ∧ Pend (readsK o) low E ops i o ts B n sv := by
  unfold stepOp at h
  simp only at h
  split at h
  · exact h.elim
  · rename_i hw
    refine ⟨_, h, fun ts' B' K' hts hB hK => ?_⟩
    unfold stepOp
    simp only
    rw [wantedSV_congr hts, hw]
    exact hK
  · rename_i hw
    unfold act at h
    rw [quiet_plain hq] at h
    simp only [Bool.true_or] at h
    obtain ⟨v, hv, hf⟩ := quiet_step2 hq hlow h
    obtain ⟨sv, h1, h2⟩ := after_elim hv
    refine ⟨sv, h1, fun ts' B' K' hts hB hK => ?_⟩
    unfold stepOp
    simp only
    rw [wantedSV_congr hts, hw]
    simp only
    rw [act_congr (evalO_congr hts)]
    unfold act
    rw [quiet_plain hq]
    simp only [Bool.true_or]
    exact hf _ _ _ hB (h2 _ _ _ _ hK)

/-- .. and one that reads what nobody turns -/
theorem quiet_pend0 {E : Env} {ops : Array Oper} {i : Nat} {o : Oper} {ts : List SV} {B : Bl} {n : Nat} {K : St → Prop} (hq : quietK o (evalO ts) = true) (hlow : lowK 0 o (evalO ts) = true) (h : stepOp E ops.toList i o ⟨ts, B, n⟩ K) :
    ∃ sv, K ⟨setDst ts o.dst sv, B, n⟩ ∧ Pend false false E ops i o ts B n sv := by
  unfold stepOp at h
  simp only at h
  split at h
  · exact h.elim
  · rename_i hw
    refine ⟨_, h, fun ts' B' K' hts hB hK => ?_⟩
    unfold stepOp
    simp only
    rw [wantedSV_congr hts, hw]
    exact hK
  · rename_i hw
    unfold act at h
    rw [quiet_plain hq] at h
    simp only [Bool.true_or] at h
    obtain ⟨v, hv, hf⟩ := quiet_step2 (n := 0) (low := true) hq (fun _ _ => hlow) h
    obtain ⟨sv, h1, h2⟩ := after_elim hv
    refine ⟨sv, h1, fun ts' B' K' hts hB hK => ?_⟩
    unfold stepOp
    simp only
    rw [wantedSV_congr hts, hw]
    simp only
    rw [act_congr (evalO_congr hts)]
    unfold act
    rw [quiet_plain hq]
    simp only [Bool.true_or]
    exact hf _ _ _ (fun _ k b hk _ => by omega) (h2 _ _ _ _ hK)

/-- all the orders -/
def symFull (E : Env) (ops : Array Oper) (K : St → Prop) : Nat → Array Bool → St → Prop
  | 0, listed, st => Region.ready .any ops listed = [] ∧ K st
  | fuel + 1, listed, st => (Region.ready .any ops listed = [] → K st) ∧
    ∀ i ∈ Region.ready .any ops listed, ∃ o, ops[i]? = some o ∧ stepOp E ops.toList i o st fun st' => symFull E ops K fuel (listed.setIfInBounds i true) st'

/-- what a slot of a block of the region's own holds -/
def ownP (n : Nat) : SV → Prop
  | .ptr k _ => n ≤ k
  | .tup _ => True
  | .any => True
  | _ => False
theorem storeAt_own {n : Nat} {B : Bl} {p : SV} {vs : List SV} {K : Bl → Prop} (hp : ownP n p) (h : storeAt B p vs K) : storeAt B p vs fun B' => SubB n B B' ∧ K B' := by
  cases p <;> simp only [ownP] at hp <;> simp only [storeAt] at h ⊢
  rename_i key off
  split at h
  · split at h
    · exact ⟨fun k b hk hb => by rw [Bl.get_set_other _ _ _ _ (by omega)]; exact hb, h⟩
    · exact h.elim
  · exact h.elim

/-- .. and: an alloc's slot, a store into an own block -/
theorem stepOp_upon2 {E : Env} (hL : EnvLaw E) {all : List Oper} {i : Nat} {o : Oper} {st : St} {K K' : St → Prop}
    (hK : ∀ st', (keepsK E o = true → Sub st.blks st'.blks) → st'.next = st.next → Agree o.dst.toList st.tmps st'.tmps → (isAllocO o = true → ∀ t, o.dst = some t → ownP st.next (getSlot st'.tmps t)) →
      (∀ ty t y, o.op = .store ty (.tmp t) y → ownP st.next (getSlot st.tmps t) → SubB st.next st.blks st'.blks) → K st' → K' st') (h : stepOp E all i o st K) : stepOp E all i o st K' := by
  have h1 : stepOp E all i o st fun st' => ((keepsK E o = true → Sub st.blks st'.blks) ∧ st'.next = st.next ∧ Agree o.dst.toList st.tmps st'.tmps) ∧ K st' :=
    stepOp_upon hL (fun st' a b c d => ⟨⟨a, b, c⟩, d⟩) h
  have slot : ∀ t v, o.dst = some t → ownP st.next v → ownP st.next (getSlot (setDst st.tmps o.dst v) t) := fun t v ht hv => by
    rw [ht]
    simp only [setDst, getSlot_set]
    split
    · exact hv
    · rename_i hn
      have : st.tmps.length ≤ t := Nat.le_of_not_lt fun hlt => hn ⟨trivial, hlt⟩
      rw [getSlot_out _ _ this]; trivial
  cases ho : o.op with
  | alloc ty =>
    unfold stepOp at h1 ⊢
    split at h1
    · exact h1.elim
    · exact hK _ h1.1.1 h1.1.2.1 h1.1.2.2 (fun _ t ht => slot t _ ht trivial) (fun ty t y hs => by rw [ho] at hs; cases hs) h1.2
    · unfold act at h1 ⊢
      split at h1
      · simp only [act0, ho] at h1 ⊢
        split at h1
        · unfold after at h1 ⊢
          cases hug : usedAsGuard all i <;> rw [hug] at h1 <;>
          exact hK _ h1.1.1 h1.1.2.1 h1.1.2.2 (fun _ t ht => slot t _ ht (show st.next ≤ st.next + 8 * i by omega)) (fun ty t y hs => by rw [ho] at hs; cases hs) h1.2
        · exact h1.elim
      · exact h1.elim
  | store ty x y =>
    unfold stepOp at h1 ⊢
    split at h1
    · exact h1.elim
    · exact hK _ h1.1.1 h1.1.2.1 h1.1.2.2 (fun ha => by simp [isAllocO, ho] at ha) (fun ty t y hs hp => SubB.refl _ _) h1.2
    · unfold act at h1 ⊢
      split at h1
      · simp only [act0, ho] at h1 ⊢
        split at h1
        · split at h1
          · unfold after at h1 ⊢
            have h1 : storeAt st.blks (evalO st.tmps x) (by assumption) fun B' => (((keepsK E o = true → Sub st.blks B') ∧ st.next = st.next ∧ Agree o.dst.toList st.tmps (setDst st.tmps o.dst (.tup []))) ∧ K ⟨setDst st.tmps o.dst (.tup []), B', st.next⟩) := by
              refine storeAt_mono (fun B' hB => ?_) h1
              revert hB
              cases usedAsGuard all i <;> exact id
            have red : ∀ B', K' ⟨setDst st.tmps o.dst (.tup []), B', st.next⟩ → (match usedAsGuard all i, SV.tup [] with
                | true, .val (.bool b) => (b = true → K' ⟨setDst st.tmps o.dst .tt, B', st.next⟩) ∧ (b = false → K' ⟨setDst st.tmps o.dst .ff, B', st.next⟩)
                | _, _ => K' ⟨setDst st.tmps o.dst (.tup []), B', st.next⟩) := fun B' h => by cases usedAsGuard all i <;> exact h
            by_cases hx : ∃ t, x = .tmp t ∧ ownP st.next (getSlot st.tmps t)
            · obtain ⟨t, rfl, hp⟩ := hx
              have h2 := storeAt_own (n := st.next) (by exact hp) h1
              exact storeAt_mono (fun B' ⟨hsub, h3⟩ => red B' (hK _ h3.1.1 h3.1.2.1 h3.1.2.2 (fun ha => by simp [isAllocO, ho] at ha) (fun _ _ _ _ _ => hsub) h3.2)) h2
            · exact storeAt_mono (fun B' h3 => red B' (hK _ h3.1.1 h3.1.2.1 h3.1.2.2 (fun ha => by simp [isAllocO, ho] at ha) (fun ty' t y' hs hp => by rw [ho] at hs; cases hs; exact (hx ⟨t, rfl, hp⟩).elim) h3.2)) h1
          · exact h1.elim
        · exact h1.elim
      · exact h1.elim
  | _ => exact stepOp_upon hL (fun st' a b c d => hK st' a b c (fun ha => by simp [isAllocO, ho] at ha) (fun ty t y hs => by rw [ho] at hs; cases hs) d) h

/-- the slots of the region's own blocks -/
def AInv (ops : Array Oper) (n : Nat) (listed : Array Bool) (ts : List SV) : Prop :=
  ∀ (a : Nat) oa t, ops[a]? = some oa → isAllocO oa = true → oa.dst = some t → soleFrom t a ops.toList 0 = true → listed.getD a true = true → ownP n (getSlot ts t)
theorem dstIs_iff {o : Oper} {t : Nat} : dstIs o t = true ↔ o.dst = some t := by
  unfold dstIs
  cases o.dst with
  | none => simp
  | some d => simp
theorem soleFrom_spec {t a : Nat} : ∀ {l : List Oper} {j0 : Nat}, soleFrom t a l j0 = true → ∀ k o, l[k]? = some o → o.dst = some t → k + j0 = a
  | [], _, _, k, o, hk, _ => by simp at hk
  | x :: r, j0, h, k, o, hk, hd => by
    simp only [soleFrom] at h
    split at h
    · rename_i hc
      cases k with
      | zero =>
        simp at hk; subst hk
        rw [dstIs_iff.2 hd] at hc
        simpa using hc
      | succ k =>
        have := soleFrom_spec h k o (by simpa using hk) hd
        omega
    · cases h
theorem findAlloc_spec {t : Nat} : ∀ {l : List Oper} {j0 a : Nat}, findAlloc t l j0 = some a → ∃ k o, l[k]? = some o ∧ k + j0 = a ∧ o.dst = some t ∧ isAllocO o = true
  | [], _, _, h => by simp [findAlloc] at h
  | x :: r, j0, a, h => by
    simp only [findAlloc] at h
    split at h
    · rename_i hc
      cases h
      rw [Bool.and_eq_true] at hc
      exact ⟨0, x, rfl, by omega, dstIs_iff.1 hc.1, hc.2⟩
    · obtain ⟨k, o, h1, h2, h3, h4⟩ := findAlloc_spec h
      exact ⟨k + 1, o, by simpa using h1, by omega, h3, h4⟩
theorem ownStore_spec {ops : Array Oper} {o : Oper} (h : ownStore ops.toList o = true) : ∃ ty t y a oa, o.op = .store ty (.tmp t) y ∧ ops[a]? = some oa ∧ isAllocO oa = true ∧ oa.dst = some t ∧ soleFrom t a ops.toList 0 = true ∧ waitsOn o a = true := by
  unfold ownStore at h
  split at h
  · rename_i ty t y ho
    split at h
    · rename_i a hf
      obtain ⟨k, oa, h1, h2, h3, h4⟩ := findAlloc_spec hf
      rw [Bool.and_eq_true] at h
      have : k = a := by omega
      subst this
      exact ⟨ty, t, y, k, oa, ho, by simpa using h1, h4, h3, h.1, h.2⟩
    · cases h
  · cases h
theorem waitsOn_spec {o : Oper} {a : Nat} (h : waitsOn o a = true) : ∃ e ∈ o.after, Region.binds .any e = true ∧ e.on = a := by
  unfold waitsOn at h
  rw [Array.any_eq_true'] at h
  obtain ⟨e, he, hb⟩ := h
  rw [Bool.and_eq_true] at hb
  exact ⟨e, he, hb.1, by simpa using hb.2⟩

theorem AInv.put {ops : Array Oper} {n : Nat} {listed : Array Bool} {ts : List SV} {i : Nat} {o : Oper} {v : SV} (h : AInv ops n listed ts) (hi : ops[i]? = some o) (hna : isAllocO o = false) (hlt : i < listed.size) :
    AInv ops n (listed.setIfInBounds i true) (setDst ts o.dst v) := fun a oa t ha hal hd hso hls => by
  have hne : i ≠ a := fun e => by subst e; rw [hi] at ha; cases ha; rw [hna] at hal; cases hal
  rw [getD_set_ne true hne] at hls
  rw [getSlot_setDst fun he => hne (by have := soleFrom_spec hso i o (by simpa using hi) he; omega)]
  exact h a oa t ha hal hd hso hls
theorem AInv.step {ops : Array Oper} {n : Nat} {listed : Array Bool} {ts ts' : List SV} {j : Nat} {o : Oper} (h : AInv ops n listed ts) (hj : ops[j]? = some o) (hag : Agree o.dst.toList ts ts')
    (hal : isAllocO o = true → ∀ t, o.dst = some t → ownP n (getSlot ts' t)) : AInv ops n (listed.setIfInBounds j true) ts' := fun a oa t ha hao hd hso hls => by
  by_cases hne : j = a
  · subst hne
    rw [hj] at ha; cases ha
    exact hal hao t hd
  · rw [getD_set_ne true hne] at hls
    have hnd : o.dst ≠ some t := fun he => hne (by have := soleFrom_spec hso j o (by simpa using hj) he; omega)
    rw [hag.2 t (by
      cases hdo : o.dst with
      | none => rfl
      | some d =>
        have : t ≠ d := fun e => hnd (by rw [hdo, e])
        simp [memN, nbeq_false this])]
    exact h a oa t ha hao hd hso hls

theorem symFull_first {E : Env} (hL : EnvLaw E) {ops : Array Oper} {K : St → Prop} {i : Nat} {oi : Oper} {n : Nat} {sv : SV} {rd low : Bool} (hi : ops[i]? = some oi) :
    ∀ (fuel : Nat) (listed : Array Bool) (ts : List SV) (B : Bl), AInv ops n listed ts →
      (∀ j oj, ops[j]? = some oj → j ≠ i → listed.getD j true = false → (∀ e ∈ oj.after, Region.binds .any e = true → e.on ≠ i) → oi.apart ops oj = true ∧ (rd = true → keepsK E oj = true ∨ (low = true ∧ ownStore ops.toList oj = true))) →
      i ∈ Region.ready .any ops listed → Pend rd low E ops i oi ts B n sv →
      symFull E ops K fuel (listed.setIfInBounds i true) ⟨setDst ts oi.dst sv, B, n⟩ → symFull E ops K (fuel + 1) listed ⟨ts, B, n⟩ := by
  intro fuel
  induction fuel with
  | zero =>
    intro listed ts B _ _ hr hp H
    refine ⟨fun h => (by rw [h] at hr; cases hr), fun j hj => ?_⟩
    by_cases hji : j = i
    · subst hji; exact ⟨oi, hi, hp _ _ _ (fun _ _ => rfl) (fun _ => Keep.refl _ _ _) H⟩
    · have := ready_mono hj hji
      rw [H.1] at this
      cases this
  | succ fuel ih =>
    intro listed ts B hA hfree hr hp H
    refine ⟨fun h => (by rw [h] at hr; cases hr), fun j hj => ?_⟩
    by_cases hji : j = i
    · subst hji; exact ⟨oi, hi, hp _ _ _ (fun _ _ => rfl) (fun _ => Keep.refl _ _ _) H⟩
    · obtain ⟨oj, hoj, h1⟩ := H.2 j (ready_mono hj hji)
      refine ⟨oj, hoj, ?_⟩
      obtain ⟨hjun, oj', hoj', hall⟩ := mem_ready.1 hj
      rw [hoj] at hoj'; cases hoj'
      have hnot : ∀ e ∈ oj.after, Region.binds .any e = true → e.on ≠ i := fun e he hb heq => by
        have h1 := hall e he hb
        have h0 := (mem_ready.1 hr).1
        rw [heq] at h1
        rcases Nat.lt_or_ge i listed.size with h' | h'
        · simp [h'] at h0 h1; rw [h0] at h1; cases h1
        · simp [Array.getElem?_eq_none h'] at h1
      obtain ⟨hap, hkeep⟩ := hfree j oj hoj hji hjun hnot
      obtain ⟨a1, a2, a3⟩ := Oper.apart_spec hap
      refine stepOp_upon2 hL (fun st' hsub hnx hag hal hst h3 => ?_) (stepOp_put a1 a2 h1)
      have hfree' : ∀ k ok, ops[k]? = some ok → k ≠ i → (listed.setIfInBounds j true).getD k true = false →
          (∀ e ∈ ok.after, Region.binds .any e = true → e.on ≠ i) → oi.apart ops ok = true ∧ (rd = true → keepsK E ok = true ∨ (low = true ∧ ownStore ops.toList ok = true)) := fun k ok hk hki hun hno => by
        refine hfree k ok hk hki ?_ hno
        by_cases hjk : j = k
        · subst hjk; exact hjun
        · rw [getD_set_ne true hjk] at hun; exact hun
      have hkp : rd = true → Keep low n B st'.blks := fun hrd => by
        rcases hkeep hrd with hk | ⟨hlow, hos⟩
        · exact (hsub hk).keep
        · subst hlow
          obtain ⟨ty, t, y, a, oa, hop, hoa, hao, hda, hso, hw⟩ := ownStore_spec hos
          obtain ⟨e, he, hb, hon⟩ := waitsOn_spec hw
          have hla : listed.getD a true = true := by
            have := hall e he hb
            rw [hon] at this
            rcases Nat.lt_or_ge a listed.size with h' | h'
            · simp [h'] at this ⊢; exact this
            · simp [Array.getElem?_eq_none h']
          exact hst ty t y hop (hA a oa t hoa hao hda hso hla)
      obtain ⟨ts', B', n'⟩ := st'
      simp only at hnx hag hkp hal
      subst hnx
      refine ih (listed.setIfInBounds j true) ts' B' (hA.step hoj hag hal) hfree' (ready_mono hr (Ne.symm hji)) (fun ts2 B2 K2 hts2 hB2 hK2 => ?_) ?_
      · refine hp ts2 B2 K2 (fun t ht => ?_) (fun hrd => (hkp hrd).trans (hB2 hrd)) hK2
        rw [hts2 t ht]
        refine hag.2 t ?_
        cases hd : oj.dst with
        | none => rfl
        | some d =>
          have : t ≠ d := fun e => a3 d hd (e ▸ ht)
          simp [memN, nbeq_false this]
      · rw [Array.setIfInBounds_comm _ _ hji]
        exact h3

theorem pickQ_spec {E : Env} {ops : Array Oper} {listed : Array Bool} {ts : List SV} {n : Nat} : ∀ {l : List Nat} {i : Nat}, pickQ E ops listed ts n l = some i →
    i ∈ l ∧ ∃ o, ops[i]? = some o ∧ quietK o (evalO ts) = true ∧ Region.free .any ops listed i = true ∧ mayRead E ops listed ts n i o = true
  | [], _, h => by simp [pickQ] at h
  | k :: r, i, h => by
    have rest : pickQ E ops listed ts n r = some i → _ := fun h => let ⟨hm, hh⟩ := pickQ_spec h; (⟨List.mem_cons_of_mem _ hm, hh⟩ : i ∈ k :: r ∧ ∃ o, ops[i]? = some o ∧ quietK o (evalO ts) = true ∧ Region.free .any ops listed i = true ∧ mayRead E ops listed ts n i o = true)
    simp only [pickQ] at h
    cases ho : ops[k]? with
    | none => simp only [ho] at h; exact rest h
    | some o =>
      simp only [ho] at h
      split at h
      · rename_i hc _
        cases h
        rw [Bool.and_eq_true, Bool.and_eq_true] at hc
        exact ⟨by simp, o, ho, hc.1.1, hc.1.2, hc.2⟩
      · exact rest h

theorem allKeep_spec {E : Env} {listed : Array Bool} {i : Nat} : ∀ {l : List Oper} {j0 : Nat}, allKeep E listed i l j0 = true → ∀ k o, l[k]? = some o → k + j0 ≠ i → listed.getD (k + j0) true = false →
    (∀ e ∈ o.after, Region.binds .any e = true → e.on ≠ i) → keepsK E o = true
  | [], _, _, k, o, hk, _, _, _ => by simp at hk
  | x :: r, j0, h, k, o, hk, hne, hun, hno => by
    simp only [allKeep] at h
    split at h
    · rename_i hc
      cases k with
      | zero =>
        simp at hk; subst hk
        rw [Nat.zero_add] at hne hun
        have hw : waitsOn x i = false := by
          unfold waitsOn
          rw [Array.any_eq_false']
          intro e he hb
          rw [Bool.and_eq_true] at hb
          exact hno e he hb.1 (by simpa using hb.2)
        rw [nbeq_false hne, hun, hw] at hc
        simpa using hc
      | succ k =>
        exact allKeep_spec h k o (by simpa using hk) (by rw [Nat.add_right_comm] at hne; exact hne) (by rw [Nat.add_right_comm] at hun; exact hun) hno
    · cases h
theorem allKeepO_spec {E : Env} {listed : Array Bool} {i : Nat} {all : List Oper} : ∀ {l : List Oper} {j0 : Nat}, allKeepO E listed i all l j0 = true → ∀ k o, l[k]? = some o → k + j0 ≠ i → listed.getD (k + j0) true = false →
    (∀ e ∈ o.after, Region.binds .any e = true → e.on ≠ i) → keepsK E o = true ∨ ownStore all o = true
  | [], _, _, k, o, hk, _, _, _ => by simp at hk
  | x :: r, j0, h, k, o, hk, hne, hun, hno => by
    simp only [allKeepO] at h
    split at h
    · rename_i hc
      cases k with
      | zero =>
        simp at hk; subst hk
        rw [Nat.zero_add] at hne hun
        have hw : waitsOn x i = false := by
          unfold waitsOn
          rw [Array.any_eq_false']
          intro e he hb
          rw [Bool.and_eq_true] at hb
          exact hno e he hb.1 (by simpa using hb.2)
        rw [nbeq_false hne, hun, hw] at hc
        simpa using hc
      | succ k =>
        exact allKeepO_spec h k o (by simpa using hk) (by rw [Nat.add_right_comm] at hne; exact hne) (by rw [Nat.add_right_comm] at hun; exact hun) hno
    · cases h

theorem allOf_spec {f : Nat → Prop} : ∀ {l : List Nat}, allOf f l → ∀ i ∈ l, f i
  | [], _, _, h => by cases h
  | [i], h, j, hj => by simp at hj; subst hj; exact h
  | i :: k :: r, h, j, hj => by
    rcases List.mem_cons.1 hj with rfl | hj
    · exact h.1
    · exact allOf_spec (l := k :: r) h.2 j hj

theorem quiet_noAlloc {o : Oper} {ρ : Operand → SV} (h : quietK o ρ = true) : isAllocO o = false := by
  unfold isAllocO
  split
  · rename_i ho; simp [quietK, ho] at h
  · rfl
theorem symRun_full {E : Env} (hL : EnvLaw E) {ops : Array Oper} {K : St → Prop} {n : Nat} : ∀ (fuel : Nat) (listed : Array Bool) (st : St), st.next = n → AInv ops n listed st.tmps → symRun E ops K fuel listed st → symFull E ops K fuel listed st
  | 0, listed, st, _, _, h => by
    simp only [symRun] at h
    split at h
    · rename_i hr; exact ⟨hr, h⟩
    · exact h.elim
  | fuel + 1, listed, st, hn, hA, h => by
    simp only [symRun] at h
    split at h
    · rename_i hr; exact ⟨fun _ => h, fun i hi => by rw [hr] at hi; cases hi⟩
    · rename_i i0 rs hr
      split at h
      · rename_i i hp
        obtain ⟨hm, o, ho, hq, hfree, hread⟩ := pickQ_spec hp
        rw [ho] at h
        simp only at h
        obtain ⟨ts, B, n'⟩ := st
        simp only at hn hA hread
        subst hn
        have hlt : i < listed.size ∨ listed.size ≤ i := Nat.lt_or_ge i listed.size
        have hput : ∀ sv, AInv ops n' (listed.setIfInBounds i true) (setDst ts o.dst sv) := fun sv a oa t ha hal hd hso hls => by
          have hne : i ≠ a := fun e => by subst e; rw [ho] at ha; cases ha; rw [quiet_noAlloc hq] at hal; cases hal
          rw [getD_set_ne true hne] at hls
          rw [getSlot_setDst fun he => hne (by have := soleFrom_spec hso i o (by simpa using ho) he; omega)]
          exact hA a oa t ha hal hd hso hls
        unfold mayRead at hread
        by_cases h0 : lowK 0 o (evalO ts) = true
        · obtain ⟨sv, hK, hpend⟩ := quiet_pend0 hq h0 h
          exact symFull_first hL ho fuel listed ts B hA (fun j oj hj hne hun hno => ⟨Region.free_spec ho hfree j oj hj hne hun hno, fun hrd => by cases hrd⟩) (hr ▸ hm) hpend (symRun_full hL fuel _ _ rfl (hput sv) hK)
        have h0 : lowK 0 o (evalO ts) = false := by simpa using h0
        rw [h0, Bool.or_false] at hread
        by_cases h1 : (!readsK o || allKeep E listed i ops.toList 0) = true
        · obtain ⟨sv, hK, hpend⟩ := quiet_pend (low := false) hq (fun h => by cases h) h
          refine symFull_first hL ho fuel listed ts B hA (fun j oj hj hne hun hno => ⟨Region.free_spec ho hfree j oj hj hne hun hno, fun hrd => .inl ?_⟩) (hr ▸ hm) hpend (symRun_full hL fuel _ _ rfl (hput sv) hK)
          rw [hrd] at h1
          exact allKeep_spec (by simpa using h1) j oj (by simpa using hj) (by simpa using hne) (by simpa using hun) hno
        · have h1 : (!readsK o || allKeep E listed i ops.toList 0) = false := by simpa using h1
          rw [h1, Bool.false_or] at hread
          split at hread
          · rename_i hlow
            rw [Bool.and_eq_true] at hlow
            obtain ⟨sv, hK, hpend⟩ := quiet_pend (low := true) hq (fun _ _ => hlow.2) h
            refine symFull_first hL ho fuel listed ts B hA (fun j oj hj hne hun hno => ⟨Region.free_spec ho hfree j oj hj hne hun hno, fun hrd => ?_⟩) (hr ▸ hm) hpend (symRun_full hL fuel _ _ rfl (hput sv) hK)
            rcases allKeepO_spec hread j oj (by simpa using hj) (by simpa using hne) (by simpa using hun) hno with h | h
            · exact .inl h
            · exact .inr ⟨rfl, h⟩
          · cases hread
      · refine ⟨fun h0 => (by rw [hr] at h0; cases h0), fun i hi => ?_⟩
        rw [hr] at hi
        have := allOf_spec h i hi
        split at this
        · rename_i o ho
          refine ⟨o, ho, stepOp_upon2 hL (fun st' _ hnx hag hal _ hq => symRun_full hL fuel _ _ (hnx.trans hn) ?_ hq) this⟩
          subst hn
          exact hA.step ho hag hal
        · exact this.elim
end Go.SX
