/- A PART OF THE PROOF. NO CONDITION. -/
import Derived.Test.YtgcedkklmmdabaaSxI
import Derived.Maps.Keyed
import Derived.RangeFuncSeq
import Derived.OrdersIn
set_option linter.unusedSimpArgs false
set_option linter.unusedVariables false
set_option linter.unusedVariables false
set_option linter.unusedSimpArgs false
namespace Go.SX

/-- a function that is called like any other -/
def FnOk (P : Program) (g : Nat) : Prop := ∃ fn, P.funcs[g]? = some fn ∧ (fn.name == "runtime.NumGoroutine") = false ∧ fn.body.isNone = false

/-- a specification holds of a function -/
def SpecOk (P : Program) (g : Nat) (sp : Spec) : Prop :=
  FnOk P g ∧ ∀ (X : PH) (ρ : Rho) (B : Bl) (w : World) (kd : Nat) (svs : List SV) (vs : Array Value) (K : SV → Bl → Prop), Mem X ρ B w →
    (∀ key, kd ≤ key → key < kd + 8 → ρ key = none ∧ Bl.get B key = none) → Like X ρ svs vs → sp kd svs B K →
    Calls P g vs w fun e w' => ∃ v, e = .returned v ∧ Out X ρ B kd K v w'

/-- a map's key type -/
structure KeyOk (P : Program) (k : Nat) (isA : Bool) (n : Nat) : Prop where
  keyed : Maps.Keyed P k
  lit : ∀ xs : List Int, xs.length = n → inKs xs → ∃ l, keyOf P k (keyV isA xs) = some l
  one : isA = false → n = 1

/-- a specification holds of the call of a range's own function -/
def YieldOk (P : Program) (l : Nat) (sp : Spec) : Prop :=
  ∀ (X : PH) (ρ : Rho) (B : Bl) (w : World) (kd : Nat) (svs : List SV) (vs : Array Value) (K : SV → Bl → Prop), Mem X ρ B w →
    (∀ key, kd ≤ key → key < kd + 8 → ρ key = none ∧ Bl.get B key = none) → Like X ρ svs vs → sp kd svs B K →
    YieldAt Fence.wide 0 P l vs w fun e w' => ∃ v, e = .returned v ∧ Out X ρ B kd K v w'

structure EnvOk (P : Program) (E : Env) : Prop where
  mkey : ∀ k isA n, E.mkey k = some (isA, n) → KeyOk P k isA n
  ty : ∀ t ti, E.ty t = some ti → TyOk P t ti
  spec : ∀ g sp, E.spec g = some sp → SpecOk P g sp
  mono : ∀ g sp, E.spec g = some sp → ∀ (kd : Nat) (svs : List SV) (B : Bl) (K K' : SV → Bl → Prop), (∀ v B, K v B → K' v B) → sp kd svs B K → sp kd svs B K'
  yld : ∀ l sp, E.yield l = some sp → YieldOk P l sp

/-- an operation comes to its end -/
def OpOk (P : Program) (o : Oper) (ev : Operand → Value) (w : World) (R : Value → World → Prop) : Prop :=
  match (execOp ev o).run P w with
  | .ok (.value v) w' => R v w'
  | .ok .skip w' => R undef w'
  | .ok (.enter f args) w' => Calls P f args w' fun e w'' => ∃ v, e = .returned v ∧ R v w''
  | .ok (.round l f tmps assign body) w' => RoundIn Fence.wide 0 P l f tmps assign body w' fun e w'' => ∃ v, e = .returned v ∧ R v w''
  | _ => False

theorem OpOk.value {P : Program} {o : Oper} {ev : Operand → Value} {w w' : World} {R : Value → World → Prop} {v : Value} (h : (execOp ev o).run P w = .ok (.value v) w') (hR : R v w') : OpOk P o ev w R := by
  unfold OpOk; rw [h]; exact hR
theorem OpOk.skip {P : Program} {o : Oper} {ev : Operand → Value} {w w' : World} {R : Value → World → Prop} (h : (execOp ev o).run P w = .ok .skip w') (hR : R undef w') : OpOk P o ev w R := by
  unfold OpOk; rw [h]; exact hR

/-- the widest fence, in a round or not -/
abbrev wideR (ro : Option Nat) : Fence := { Fence.wide with round := ro }
theorem semAt_ok {P : Program} {o : Oper} {ev : Operand → Value} {w : World} {R : Value → World → Prop} (h : OpOk P o ev w R) (ro : Option Nat) : o.semAt ro ev = execOp ev o := by
  unfold Oper.semAt
  split
  · rename_i c hc
    exfalso
    unfold OpOk at h
    simp only [execOp, hc, Sem.run_bind] at h
    cases hr : (resolve ev c o.type).run P w with
    | ok d w' => rw [hr] at h; exact h
    | halt x w' => rw [hr] at h; exact h
  · rfl

theorem OpOk.wp {P : Program} {o : Oper} {a : Act} {w : World} {R : Value → World → Prop} (h : OpOk P o a.eval w R) {next : Act → World → Prop} {Q : Exit → Act → World → Prop}
    (hn : ∀ v w', R v w' → next (a.put o.dst v) w') (ro : Option Nat) : o.wpIn (wideR ro) 0 P a w next Q := by
  refine ⟨fun _ _ => trivial, ?_⟩
  show o.uponIn (wideR ro) 0 P a next Q ((o.semAt ro a.eval).run P w)
  rw [semAt_ok h]
  unfold OpOk at h
  generalize (execOp a.eval o).run P w = r at h
  cases r with
  | ok n w' =>
    cases n <;> simp only at h <;> simp only [Oper.uponIn]
    case value v => exact hn _ _ h
    case skip => exact hn _ _ h
    case enter f args =>
      refine ⟨fun h => by simp [Fence.wide] at h, CallsIn.mono (F := wideR ro) (callsIn_wide.2 h) fun e w'' ⟨v, he, hR⟩ => ?_⟩
      subst he
      exact hn _ _ hR
    case round l f tmps assign body =>
      refine ⟨fun h => by simp [Fence.wide] at h, RoundIn.mono (F := wideR ro) h fun e w'' ⟨v, he, hR⟩ => ?_⟩
      subst he
      exact hn _ _ hR
  | halt x w' => simp only at h

section ints
theorem wrap_in {k : IntKind} {x : Int} (h : inK k x) : k.wrap x = x := by
  unfold inK at h
  cases k <;> simp [IntKind.wrap, IntKind.bits, IntKind.signed, lo, hi] at * <;> omega

theorem binInt_sound {P : Program} {op : BinOp} {k k' : IntKind} (hk : (isShift op || kEq k k') = true) {x y : Int} {K : SV → Prop} (h : binInt op k x y K) (t : Nat) (px py : Operand) (w : World) :
    ∃ (v : Value) (sv : SV), ((do eqGuard op t px py (.int k x) (.int k' y); binOp op t (.int k x) (.int k' y) : Sem Value)).run P w = .ok v w ∧ sv = .val v ∧ K sv := by
  have hkk : isShift op = false → k = k' := fun hs => by
    rw [hs, Bool.false_or] at hk
    cases k <;> cases k' <;> first | rfl | (simp [kEq] at hk)
  have hg : (eqGuard op t px py (.int k x) (.int k' y)).run P w = .ok () w := by cases op <;> rfl
  simp only [Sem.run_bind, hg, Result.andThen_ok]
  cases op <;> simp only [binInt] at h
  case shl => exact ⟨_, _, by simp only [binOp, Op.shift]; rw [if_neg (by omega)]; rfl, rfl, h.2⟩
  case shr => exact ⟨_, _, by simp only [binOp, Op.shift]; rw [if_neg (by omega)]; rfl, rfl, h.2⟩
  all_goals (have e := hkk rfl; subst e)
  case add => exact ⟨_, _, by simp only [binOp, ne_eq, not_true_eq_false, if_false, Op.intArith, wrap_in h.1]; rfl, rfl, h.2⟩
  case sub => exact ⟨_, _, by simp only [binOp, ne_eq, not_true_eq_false, if_false, Op.intArith, wrap_in h.1]; rfl, rfl, h.2⟩
  case mul => exact ⟨_, _, by simp only [binOp, ne_eq, not_true_eq_false, if_false, Op.intArith, wrap_in h.1]; rfl, rfl, h.2⟩
  case quo => exact ⟨_, _, by simp only [binOp, ne_eq, not_true_eq_false, if_false, Op.intDiv, if_neg h.1, wrap_in h.2.1]; rfl, rfl, h.2.2⟩
  case rem => exact ⟨_, _, by simp only [binOp, ne_eq, not_true_eq_false, if_false, Op.intDiv, if_neg h.1]; rfl, rfl, h.2⟩
  all_goals exact ⟨_, _, by simp only [binOp, ne_eq, not_true_eq_false, if_false, Op.intBits, Op.intCmp]; rfl, rfl, h⟩
end ints

theorem run_eqGuard_other {P : Program} {op : BinOp} {t : Nat} {px py : Operand} {a b : Value} {w : World} (h1 : a ≠ .nilIface) (h2 : (∀ q, a ≠ .agg q) ∨ P.eqGuardType P.depth t = false) :
    (eqGuard op t px py a b).run P w = .ok () w := by
  cases op <;> try rfl
  all_goals
    cases a <;> try (cases b <;> rfl)
    · exact absurd rfl h1
    · rename_i q
      have hm := h2.resolve_left (fun h => h q rfl)
      cases b <;> first | rfl | exact run_eqGuard_agg w _ t px py _ _ hm

theorem run_equalIn_nil {P : Program} (d : Nat) {t e : Nat} (he : P.underlying t = some (.slice e)) (A : Option Addr) (n c : Nat) (w : World) :
    (Op.equalIn (d + 1) t (.slice A n c) (.slice none 0 0)).run P w = .ok A.isNone w := by
  cases A <;> simp [Op.equalIn, run_underlying he]

theorem eqSV_sound {P : Program} {E : Env} (hE : ∀ t ti, E.ty t = some ti → TyOk P t ti) {X : PH} {ρ : Rho} {t : Nat} {a b : SV} {va vb : Value} (ha : Rv X ρ a va) (hb : Rv X ρ b vb) {K : Bool → Prop}
    (hnot : ∀ k x k' y, ¬ (a = .val (.int k x) ∧ b = .val (.int k' y))) (h : eqSV E t a b K) (px py : Operand) (w : World) (neg : Bool) :
    ∃ r, ((do eqGuard (if neg then .neq else .eql) t px py va vb; binOp (if neg then .neq else .eql) t va vb : Sem Value)).run P w = .ok (.bool (if neg then !r else r)) w ∧ K r := by
  unfold eqSV at h
  cases ht : E.ty t with
  | none => simp [ht] at h
  | some ti =>
    simp only [ht] at h
    have hok := hE t ti ht
    -- an equality known as a run of 'equalIn'
    have fin : ∀ r, (Op.equalIn 10000 t va vb).run P w = .ok r w → va ≠ .nilIface → ((∀ q, va ≠ .agg q) ∨ P.eqGuardType P.depth t = false) → K r →
        (∀ o : BinOp, o = .eql ∨ o = .neq → (binOp o t va vb).run P w = ((Op.equalIn 10000 t va vb).run P w).andThen fun c w' => .ok (.bool (if o = .neq then !c else c)) w') →
        ∃ r, ((do eqGuard (if neg then .neq else .eql) t px py va vb; binOp (if neg then .neq else .eql) t va vb : Sem Value)).run P w = .ok (.bool (if neg then !r else r)) w ∧ K r := fun r hr h1 h2 hK hbin => by
      refine ⟨r, ?_, hK⟩
      simp only [Sem.run_bind, run_eqGuard_other h1 h2, Result.andThen_ok]
      cases neg with
      | true =>
        have hq := hbin .neq (.inr rfl)
        rw [hr] at hq
        exact hq
      | false =>
        have hq := hbin .eql (.inl rfl)
        rw [hr] at hq
        exact hq
    have tyCase : ∀ n r, n + 1 ≤ 10000 → ti.eqk = true → eqTy E (n + 1) t a b = some r → K r → ∃ r, ((do eqGuard (if neg then .neq else .eql) t px py va vb; binOp (if neg then .neq else .eql) t va vb : Sem Value)).run P w = .ok (.bool (if neg then !r else r)) w ∧ K r := fun n r hn hq hr hK => by
      have hrun := eqTy_sound hE (n + 1) 10000 t a b va vb w r hn ha hb hr
      simp only [eqTy, ht] at hr
      cases hdesc : ti.desc <;> simp only [hdesc] at hr <;> try (cases hr; done)
      case int k =>
        cases ha with
        | val =>
          cases hb with
          | val =>
            cases va <;> try (simp at hr; done)
            cases vb <;> try (simp at hr; done)
            exact absurd ⟨rfl, rfl⟩ (hnot _ _ _ _)
          | _ => simp at hr
        | _ => simp at hr
      case bool =>
        cases h1 : asB a with
        | none => simp [h1] at hr
        | some x =>
          cases h2 : asB b with
          | none => simp [h1, h2] at hr
          | some y =>
            have e1 := rv_bool ha h1
            have e2 := rv_bool hb h2
            subst e1; subst e2
            exact fin r hrun (by simp) (.inl (by simp)) hK (fun o ho => by rcases ho with rfl | rfl <;> (simp only [binOp]; simp [Op.equal, Op.maxDepth]))
      case struct fs =>
        cases a <;> try (simp at hr; done)
        cases b <;> try (simp at hr; done)
        obtain ⟨vx, rfl, hlx⟩ := like_of_agg ha
        obtain ⟨vy, rfl, hly⟩ := like_of_agg hb
        exact fin r hrun (by simp) (.inr (hok.eqk hq).2) hK (fun o ho => by rcases ho with rfl | rfl <;> (simp only [binOp]; simp [Op.equal, Op.maxDepth]))
      case array n e =>
        cases a <;> try (simp at hr; done)
        cases b <;> try (simp at hr; done)
        obtain ⟨vx, rfl, hlx⟩ := like_of_agg ha
        obtain ⟨vy, rfl, hly⟩ := like_of_agg hb
        exact fin r hrun (by simp) (.inr (hok.eqk hq).2) hK (fun o ho => by rcases ho with rfl | rfl <;> (simp only [binOp]; simp [Op.equal, Op.maxDepth]))
    have nilCase : ∀ r A n c, va = .slice A n c → vb = .slice none 0 0 → (∃ e, P.underlying t = some (.slice e)) → r = A.isNone → K r → ∃ r, ((do eqGuard (if neg then .neq else .eql) t px py va vb; binOp (if neg then .neq else .eql) t va vb : Sem Value)).run P w = .ok (.bool (if neg then !r else r)) w ∧ K r := fun r A n c e1 e2 ⟨e, he⟩ hr hK => by
      subst e1; subst e2
      refine fin r ?_ (by simp) (.inl (by simp)) hK (fun o ho => by rcases ho with rfl | rfl <;> (simp only [binOp]; simp [Op.equal, Op.maxDepth]))
      subst hr
      exact run_equalIn_nil 9999 he A n c w
    split at h
    · rename_i r hq hr
      exact tyCase 5 r (by omega) hq hr h
    · split at h
      · rename_i e key k o n hd hn _hneg
        cases hb with
        | val =>
          cases vb <;> try (simp [isNilS] at hn; done)
          rename_i A2 n2 c2
          cases A2 <;> try (simp [isNilS] at hn; done)
          cases ha with
          | sl _ _ _ _ _ c A hnc hA =>
            have hu := hok.und
            rw [hd] at hu
            have : (SV.val (Value.slice none n2 c2)) = SV.val (Value.slice none 0 0) := by
              unfold isNilS at hn
              split at hn
              · assumption
              · cases hn
            cases this
            refine nilCase A.isNone A n c rfl rfl ⟨_, hu⟩ rfl (h _ fun hN => ?_)
            rcases hA with h0 | ⟨l, _, h1, _⟩
            · omega
            · subst h1; simp at hN
        | _ => simp [isNilS] at hn
      · rename_i e α d enc xs hd hn _hneg
        cases hb with
        | val =>
          cases vb <;> try (simp [isNilS] at hn; done)
          rename_i A2 n2 c2
          cases A2 <;> try (simp [isNilS] at hn; done)
          cases ha with
          | ro _ _ _ _ _ A c b p cs ty fz cell hc hA hk hcs hr =>
            have hu := hok.und
            rw [hd] at hu
            have : (SV.val (Value.slice none n2 c2)) = SV.val (Value.slice none 0 0) := by
              unfold isNilS at hn
              split at hn
              · assumption
              · cases hn
            cases this
            refine nilCase A.isNone A xs.length c rfl rfl ⟨_, hu⟩ rfl (h _ fun hN => ?_)
            cases hx : xs with
            | nil => rfl
            | cons q l =>
              have := (hA (by rw [hx]; simp)).1
              subst this; simp at hN
        | _ => simp [isNilS] at hn
      · rename_i e hd hn _hneg
        cases hb with
        | val =>
          cases vb <;> try (simp [isNilS] at hn; done)
          rename_i A2 n2 c2
          cases A2 <;> try (simp [isNilS] at hn; done)
          cases ha with
          | val =>
            have hu := hok.und
            rw [hd] at hu
            have : (SV.val (Value.slice none n2 c2)) = SV.val (Value.slice none 0 0) := by
              unfold isNilS at hn
              split at hn
              · assumption
              · cases hn
            cases this
            exact nilCase true none 0 0 rfl rfl ⟨_, hu⟩ rfl h
        | _ => simp [isNilS] at hn
      · exact h.elim
end Go.SX
