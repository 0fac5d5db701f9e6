/- A PART OF THE PROOF. NO CONDITION. -/
import Derived.Test.YtgcedkklmmdabaaSxN
set_option linter.unusedSimpArgs false
set_option linter.unusedVariables false
set_option linter.unusedVariables false
set_option linter.unusedSimpArgs false
namespace Go.SX

/-- a state without what is said of free keys -/
structure Conc0 (X : PH) (ρ : Rho) (ts : List SV) (B : Bl) (a : Act) (w : World) : Prop where
  mem : Mem X ρ B w
  size : a.tmps.size = ts.length
  slots : ∀ i, Rv X ρ (getSlot ts i) (a.tmps.getD i undef)
  dfr : a.defers = []

theorem Conc.c0 {X : PH} {ρ : Rho} {st : St} {a : Act} {w : World} (h : Conc X ρ st a w) : Conc0 X ρ st.tmps st.blks a w := ⟨h.mem, h.size, h.slots, h.dfr⟩

theorem Conc0.eval {X : PH} {ρ : Rho} {ts : List SV} {B : Bl} {a : Act} {w : World} (h : Conc0 X ρ ts B a w) (x : Operand) : Rv X ρ (evalO ts x) (a.eval x) := by
  cases x with
  | tmp t => exact h.slots t
  | const v =>
    cases v with
    | bool b => cases b <;> constructor
    | _ => exact .val _ _
  | global g => exact .any _ _
  | func f => exact .clo _ f [] #[] rfl (fun i sv v hi => by simp at hi)

theorem Conc0.put {X Y : PH} {ρ σ : Rho} {ts : List SV} {B B' : Bl} {a : Act} {w w' : World} (h : Conc0 X ρ ts B a w) (hm : Mem Y σ B' w') (hX : X.le Y) (hρ : ρ.le σ)
    (d : Option Nat) {sv : SV} {v : Value} (hv : Rv Y σ sv v) : Conc0 Y σ (setDst ts d sv) B' (a.put d v) w' := by
  cases d with
  | none => exact ⟨hm, h.size, fun i => ((h.slots i).monoX hX).monoR hρ, h.dfr⟩
  | some d =>
    refine ⟨hm, ?_, fun i => ?_, h.dfr⟩
    · simp [Act.put, setDst, setSlot_length, h.size]
    · simp only [Act.put, setDst, getSlot_set]
      by_cases hi : d = i ∧ d < ts.length
      · rw [if_pos hi]
        obtain ⟨rfl, hl⟩ := hi
        have : (a.tmps.setIfInBounds d v).getD d undef = v := by
          have hs : d < a.tmps.size := by rw [h.size]; exact hl
          simp [Array.getD_eq_getD_getElem?, hs]
        rw [this]; exact hv
      · rw [if_neg hi]
        have : (a.tmps.setIfInBounds d v).getD i undef = a.tmps.getD i undef := by
          simp only [Array.getD_eq_getD_getElem?, Array.getElem?_setIfInBounds]
          by_cases hdi : d = i
          · subst hdi
            have hs : ¬ d < a.tmps.size := by rw [h.size]; exact fun hl => hi ⟨rfl, hl⟩
            simp [hs]
          · simp [hdi]
        rw [this]; exact ((h.slots i).monoX hX).monoR hρ

/-- which slots may have turned -/
def Agree (ds : List Nat) (ts ts' : List SV) : Prop := ts'.length = ts.length ∧ ∀ i, memN i ds = false → getSlot ts' i = getSlot ts i
theorem Agree.refl (ds : List Nat) (ts : List SV) : Agree ds ts ts := ⟨rfl, fun _ _ => rfl⟩
theorem memN_append (n : Nat) : ∀ (a b : List Nat), memN n (a ++ b) = (memN n a || memN n b)
  | [], b => by simp [memN]
  | x :: a, b => by
    simp only [List.cons_append, memN]
    cases Nat.beq n x with
    | true => simp
    | false => simpa using memN_append n a b
theorem Agree.trans {d1 d2 : List Nat} {a b c : List SV} (h1 : Agree d1 a b) (h2 : Agree d2 b c) : Agree (d1 ++ d2) a c :=
  ⟨by rw [h2.1, h1.1], fun i hi => by rw [memN_append, Bool.or_eq_false_iff] at hi; rw [h2.2 i hi.2, h1.2 i hi.1]⟩
theorem Agree.mono {d1 d2 : List Nat} {a b : List SV} (h : Agree d1 a b) (hd : ∀ i, memN i d2 = false → memN i d1 = false) : Agree d2 a b :=
  ⟨h.1, fun i hi => h.2 i (hd i hi)⟩
theorem setDst_length (ts : List SV) (d : Option Nat) (v : SV) : (setDst ts d v).length = ts.length := by cases d <;> simp [setDst, setSlot_length]
theorem memN_self {n : Nat} {l : List Nat} (h : n ∈ l) : memN n l = true := by
  induction l with
  | nil => cases h
  | cons x r ih =>
    simp only [memN]
    cases hb : Nat.beq n x with
    | true => rfl
    | false =>
      rcases List.mem_cons.1 h with rfl | h
      · simp at hb
      · exact ih h
theorem agree_set (ts : List SV) (d : Option Nat) (v : SV) : Agree d.toList ts (setDst ts d v) := by
  refine ⟨setDst_length _ _ _, fun i hi => ?_⟩
  cases d with
  | none => rfl
  | some d =>
    simp only [setDst, getSlot_set]
    rw [if_neg]
    rintro ⟨rfl, _⟩
    rw [memN_self (by simp)] at hi; cases hi

/-- the keys from n on are free, but for those of the operations that have been carried out -/
def FreshBut (ρ : Rho) (B : Bl) (n : Nat) (used : Nat → Prop) : Prop :=
  ∀ key, n ≤ key → (∀ i, used i → ¬ (n + 8 * i ≤ key ∧ key < n + 8 * i + 8)) → ρ key = none ∧ Bl.get B key = none

theorem wanted_sound {X : PH} {ρ : Rho} {ts : List SV} {B : Bl} {a : Act} {w : World} (h : Conc0 X ρ ts B a w) {ops : Array Oper} {o : Oper} {b : Bool} (hw : wantedSV ops.toList o ts = some b) :
    Region.wanted o (yielded ops a.tmps) = b := by
  unfold wantedSV at hw
  unfold Region.wanted
  cases hg : o.guard with
  | none => simp [hg] at hw; subst hw; rfl
  | some q =>
    obtain ⟨j, want⟩ := q
    simp only [hg] at hw
    simp only
    cases hd : dstOf ops.toList j with
    | none => simp [hd] at hw
    | some t =>
      simp only [hd] at hw
      have hd' : (ops[j]?).bind (·.dst) = some t := by
        unfold dstOf at hd
        cases ho : ops[j]? with
        | none => simp [ho] at hd
        | some oj => simpa [ho] using hd
      have hs := h.slots t
      have hy : ∀ q : Bool, a.tmps.getD t undef = .bool q → yielded ops a.tmps j = some q := fun q hq => by
        unfold yielded
        rw [hd']
        simp only [Option.bind_some]
        rw [Array.getD_eq_getD_getElem?] at hq
        cases ht : a.tmps[t]? with
        | none => rw [ht] at hq; simp [undef] at hq
        | some v => rw [ht] at hq; simp at hq; rw [hq]
      have hn : a.tmps.getD t undef = .tuple #[] → yielded ops a.tmps j = none := fun hq => by
        unfold yielded
        rw [hd']
        simp only [Option.bind_some]
        rw [Array.getD_eq_getD_getElem?] at hq
        cases ht : a.tmps[t]? with
        | none => rfl
        | some v => rw [ht] at hq; simp at hq; rw [hq]
      generalize hv : a.tmps.getD t undef = v at hs
      split at hw
      · rename_i he; rw [he] at hs; rw [hy true (by rw [hv, rv_tt hs])]; simpa using hw
      · rename_i he; rw [he] at hs; rw [hy false (by rw [hv, rv_ff hs])]; simpa using hw
      · rename_i he; rw [he] at hs; rw [hy true (by rw [hv, rv_tt hs])]; simpa using hw
      · rename_i he; rw [he] at hs; rw [hy false (by rw [hv, rv_ff hs])]; simpa using hw
      · rename_i he; rw [he] at hs
        have : v = .tuple #[] := by
          cases hs with
          | tup _ _ vs hs hh =>
            have : vs = #[] := Array.eq_empty_of_size_eq_zero (by simpa using hs)
            rw [this]
        rw [hn (by rw [hv, this])]
        simpa using hw
      · cases hw

theorem act_sound {P : Program} {E : Env} (hE : EnvOk P E) {X : PH} {ρ : Rho} {B : Bl} {w : World} (hm : Mem X ρ B w) {kd : Nat} (hf : ∀ key, kd ≤ key → key < kd + 8 → ρ key = none ∧ Bl.get B key = none)
    {ev : Operand → Value} {r : Operand → SV} (hev : ∀ x, Rv X ρ (r x) (ev x)) {o : Oper} {K : SV → Bl → Prop} (hconst : ∀ v, ev (.const v) = v) (h : act E o kd r B K) : OpOk P o ev w (Out X ρ B kd K) := by
  unfold act at h
  split at h
  · exact act0_sound hE hm hf hev hconst h
  · exact h.elim

/-- more keys are placed, and none below n -/
structure RLe (n : Nat) (ρ σ : Rho) : Prop where
  le : ρ.le σ
  eq : ∀ key, key < n → σ key = ρ key
theorem RLe.refl (n : Nat) (ρ : Rho) : RLe n ρ ρ := ⟨ρ.le_refl, fun _ _ => rfl⟩
theorem RLe.trans {n : Nat} {a b c : Rho} (h : RLe n a b) (h' : RLe n b c) : RLe n a c := ⟨Rho.le_trans h.le h'.le, fun k hk => by rw [h'.eq k hk, h.eq k hk]⟩
theorem RLe.mono {n m : Nat} {a b : Rho} (h : RLe n a b) (hm : m ≤ n) : RLe m a b := ⟨h.le, fun k hk => h.eq k (by omega)⟩

theorem stepOp_sound {ro : Option Nat} {P : Program} {E : Env} (hE : EnvOk P E) {ops : Array Oper} {i : Nat} {o : Oper} {X : PH} {ρ : Rho} {st : St} {a : Act} {w : World}
    (hc : Conc0 X ρ st.tmps st.blks a w) {used : Nat → Prop} (hfr : FreshBut ρ st.blks st.next used) (hi : ¬ used i) {K : St → Prop} (h : stepOp E ops.toList i o st K)
    {next : Act → World → Prop} {Q : Exit → Act → World → Prop}
    (hn : ∀ X' ρ' ts' B' a' w', X.le X' → RLe st.next ρ ρ' → Conc0 X' ρ' ts' B' a' w' → FreshBut ρ' B' st.next (fun j => used j ∨ j = i) → Agree o.dst.toList st.tmps ts' → K ⟨ts', B', st.next⟩ → next a' w') :
    if Region.wanted o (yielded ops a.tmps) = true then o.wpIn (wideR ro) 0 P a w next Q else next (a.put o.dst undef) w := by
  unfold stepOp at h
  cases hw : wantedSV ops.toList o st.tmps with
  | none => simp [hw] at h
  | some b =>
    have hws := wanted_sound hc hw
    cases b with
    | false =>
      simp only [hw] at h
      rw [hws]
      simp only [Bool.false_eq_true, if_false]
      refine hn X ρ _ _ _ _ X.le_refl (RLe.refl _ _) (hc.put hc.mem X.le_refl ρ.le_refl o.dst (.tup _ [] #[] rfl (fun i sv v hi => by simp at hi))) (fun key hk hu => hfr key hk fun j hj => hu j (.inl hj)) (agree_set _ _ _) h
    | true =>
      simp only [hw] at h
      rw [hws]
      simp only [if_true]
      have hrange : ∀ key, st.next + 8 * i ≤ key → key < st.next + 8 * i + 8 → ρ key = none ∧ Bl.get st.blks key = none := fun key h1 h2 =>
        hfr key (by omega) fun j hj hjk => by
          have : j ≠ i := fun e => hi (e ▸ hj)
          omega
      refine (act_sound hE hc.mem hrange (fun x => hc.eval x) (fun v => rfl) h).wp (fun v w' hout => ?_) ro
      obtain ⟨Y, σ, sv, B', hX, hρ, hkeys, hm, hr, hK⟩ := hout
      have hρn : RLe st.next ρ σ := ⟨hρ, fun key hk => (hkeys key (by omega)).1⟩
      have hfr' : FreshBut σ B' st.next (fun j => used j ∨ j = i) := fun key hk hu => by
        have hout : ¬ (st.next + 8 * i ≤ key ∧ key < st.next + 8 * i + 8) := hu i (.inr rfl)
        obtain ⟨h1, h2⟩ := hfr key hk fun j hj => hu j (.inl hj)
        obtain ⟨h3, h4⟩ := hkeys key hout
        exact ⟨by rw [h3]; exact h1, h4 h2⟩
      unfold after at hK
      split at hK
      · rename_i b hb
        have hvb := rv_val hr
        cases b with
        | true => exact hn Y σ _ _ _ _ hX hρn (hc.put hm hX hρ o.dst (by rw [hvb]; exact .tt _)) hfr' (agree_set _ _ _) (hK.1 rfl)
        | false => exact hn Y σ _ _ _ _ hX hρn (hc.put hm hX hρ o.dst (by rw [hvb]; exact .ff _)) hfr' (agree_set _ _ _) (hK.2 rfl)
      · exact hn Y σ _ _ _ _ hX hρn (hc.put hm hX hρ o.dst hr) hfr' (agree_set _ _ _) hK

theorem runOps_sound {ro : Option Nat} {P : Program} {E : Env} (hE : EnvOk P E) {ops : Array Oper} {Q : Exit → Act → World → Prop} : ∀ (l : List Oper) (i : Nat) (X : PH) (ρ : Rho) (st : St) (a : Act) (w : World) (K : St → Prop),
    ops.toList.drop i = l → Conc0 X ρ st.tmps st.blks a w → FreshBut ρ st.blks st.next (fun j => j < i) → runOps E ops.toList l i st K →
    (∀ X' ρ' ts' B' a' w', X.le X' → RLe st.next ρ ρ' → Conc0 X' ρ' ts' B' a' w' → FreshBut ρ' B' st.next (fun j => j < i + l.length) → Agree (l.filterMap (·.dst)) st.tmps ts' → K ⟨ts', B', st.next⟩ → Q .normal a' w') →
    wpOpsIn (wideR ro) 0 P ops Q (List.range' i l.length) a w
  | [], i, X, ρ, st, a, w, K, hl, hc, hfr, h, hn => by
    simp only [List.length_nil, List.range'_zero, wpOpsIn]
    exact hn X ρ st.tmps st.blks a w X.le_refl (RLe.refl _ _) hc hfr (Agree.refl _ _) h
  | o :: l, i, X, ρ, st, a, w, K, hl, hc, hfr, h, hn => by
    have ho : ops[i]? = some o := by
      have : (ops.toList.drop i)[0]? = some o := by rw [hl]; rfl
      rw [List.getElem?_drop] at this
      simpa using this
    have hl' : ops.toList.drop (i + 1) = l := by
      have : (ops.toList.drop i).drop 1 = l := by rw [hl]; rfl
      rw [List.drop_drop] at this; exact this
    simp only [List.length_cons, List.range'_succ, wpOpsIn, ho]
    have hst := stepOp_sound (ro := ro) (Q := Q) hE hc hfr (i := i) (o := o) (by omega) h (next := wpOpsIn (wideR ro) 0 P ops Q (List.range' (i + 1) l.length))
      (fun X' ρ' ts' B' a' w' hX hρ hc' hfr' hag hK =>
        runOps_sound hE l (i + 1) X' ρ' ⟨ts', B', st.next⟩ a' w' K hl' hc' (fun key hk hu => hfr' key hk fun j hj => hu j (by rcases hj with hj | hj <;> omega)) hK
          (fun X2 ρ2 ts2 B2 a2 w2 hX2 hρ2 hc2 hfr2 hag2 hK2 => hn X2 ρ2 ts2 B2 a2 w2 (PH.le_trans hX hX2) (RLe.trans hρ hρ2) hc2
            (fun key hk hu => hfr2 key hk fun j hj => hu j (by simp only [List.length_cons]; omega))
            (by
              have := Agree.trans hag hag2
              refine this.mono fun i hi => ?_
              cases hd : o.dst with
              | none => simp only [List.filterMap_cons, hd] at hi; simpa using hi
              | some d => simp only [List.filterMap_cons, hd] at hi; simpa using hi) hK2))
    split
    · rename_i hw; rw [if_pos hw] at hst; exact hst
    · rename_i hw; rw [if_neg hw] at hst; exact ⟨fun _ _ => trivial, hst⟩
end Go.SX
