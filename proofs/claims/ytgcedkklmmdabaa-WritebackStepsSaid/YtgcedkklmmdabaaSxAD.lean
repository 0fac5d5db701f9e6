/- A PART OF THE PROOF. NO CONDITION. -/
import Derived.Test.YtgcedkklmmdabaaSxAC
set_option linter.unusedSimpArgs false
set_option linter.unusedVariables false
set_option linter.unusedVariables false
set_option linter.unusedSimpArgs false
namespace Go.SX

theorem Con.mono (c : Con) (kd : Nat) (svs : List SV) (B : Bl) (K K' : SV → Bl → Prop) (hK : ∀ v B, K v B → K' v B) (h : c.spec kd svs B K) : c.spec kd svs B K' := by
  unfold Con.spec at *
  simp only at *
  split at h
  · obtain ⟨g, h1, h2, h3, h4⟩ := h
    exact ⟨g, h1, h2, h3, fun b hb => hK _ _ (h4 b hb)⟩
  · exact h.elim

theorem Con.keeps (c : Con) (h0 : c.m = 0) (kd : Nat) (svs : List SV) (B : Bl) (K : SV → Bl → Prop) (hf : freshB kd B = true) (h : c.spec kd svs B K) : c.spec kd svs B (fun v B' => Sub B B' ∧ K v B') := by
  unfold Con.spec at *
  simp only at *
  split at h
  · rename_i hk _
    have hk := Nat.eq_of_beq_eq_true hk
    have hks : c.keys svs = [] := List.length_eq_zero_iff.1 (by omega)
    obtain ⟨g, h1, h2, h3, h4⟩ := h
    refine ⟨g, h1, h2, h3, fun b hb => ⟨?_, h4 b hb⟩⟩
    have hs : setAll (c.keys svs) (c.outs g b) B = B := by rw [hks]; cases c.outs g b <;> rfl
    rw [hs]
    unfold insNew
    split
    · exact Sub.refl B
    · exact Sub.ins (freshB_get hf (Nat.le_refl _) (by omega))
  · exact h.elim

/-- the contracts at hand -/
def lookC : List (Nat × Con) → Nat → Option Con
  | [], _ => none
  | (f, c) :: r, g => match Nat.beq f g with | true => some c | false => lookC r g

def envOf (P : Program) (encs : Nat → Option Enc) (tab : List (Nat × Con)) (loops : Nat → St → Option LoopAnn) : Env where
  ty := tyP P
  encOf := encs
  mkey := fun _ => none
  spec := fun g => match lookC tab g with | some c => some c.spec | none => none
  keep := fun g => match lookC tab g with | some c => Nat.beq c.m 0 | none => false
  loop := loops

def TabOk (P : Program) (tab : List (Nat × Con)) : Prop := ∀ g c, lookC tab g = some c → SpecOk P g c.spec

theorem tab_nil (P : Program) : TabOk P [] := fun g c h => by cases h
theorem tab_cons {P : Program} {tab : List (Nat × Con)} {f : Nat} {c : Con} (h : SpecOk P f c.spec) (ht : TabOk P tab) : TabOk P ((f, c) :: tab) := fun g c' hl => by
  simp only [lookC] at hl
  split at hl
  · rename_i hb
    cases hl
    rw [← Nat.eq_of_beq_eq_true hb]; exact h
  · exact ht g c' hl

theorem envOf_ok {P : Program} {encs : Nat → Option Enc} {tab : List (Nat × Con)} {loops : Nat → St → Option LoopAnn} (ht : TabOk P tab) : EnvOk P (envOf P encs tab loops) := by
  refine ⟨fun k isA n h => (by cases h), fun t ti h => tyP_ok h, fun g sp h => ?_, fun g sp h => ?_, fun l sp h => (by cases h)⟩
  · simp only [envOf] at h
    split at h
    · rename_i c hc; cases h; exact ht g c hc
    · cases h
  · simp only [envOf] at h
    split at h
    · cases h; exact Con.mono _
    · cases h
theorem envOf_law {P : Program} {encs : Nat → Option Enc} {tab : List (Nat × Con)} {loops : Nat → St → Option LoopAnn} : EnvLaw (envOf P encs tab loops) := by
  refine ⟨fun g sp h => ?_, fun g sp h hk kd svs B K hf => ?_, fun l sp h => (by cases h)⟩
  · simp only [envOf] at h
    split at h
    · cases h; exact Con.mono _
    · cases h
  · simp only [envOf] at h hk
    split at h
    · rename_i c hc
      cases h
      rw [hc] at hk
      exact Con.keeps c (Nat.eq_of_beq_eq_true hk) kd svs B K hf
    · cases h

/-- with maps of these key types -/
def envOfM (P : Program) (encs : Nat → Option Enc) (mk : Nat → Option (Bool × Nat)) (tab : List (Nat × Con)) (loops : Nat → St → Option LoopAnn) : Env :=
  { envOf P encs tab loops with mkey := mk }
theorem envOfM_ok {P : Program} {encs : Nat → Option Enc} {mk : Nat → Option (Bool × Nat)} {tab : List (Nat × Con)} {loops : Nat → St → Option LoopAnn} (hk : ∀ k isA n, mk k = some (isA, n) → KeyOk P k isA n) (ht : TabOk P tab) :
    EnvOk P (envOfM P encs mk tab loops) := by
  have h := envOf_ok (encs := encs) (loops := loops) ht
  exact ⟨hk, h.ty, h.spec, h.mono, h.yld⟩
theorem envOfM_law {P : Program} {encs : Nat → Option Enc} {mk : Nat → Option (Bool × Nat)} {tab : List (Nat × Con)} {loops : Nat → St → Option LoopAnn} : EnvLaw (envOfM P encs mk tab loops) :=
  ⟨(envOf_law (P := P) (encs := encs) (tab := tab) (loops := loops)).mono, (envOf_law (P := P) (encs := encs) (tab := tab) (loops := loops)).keep, (envOf_law (P := P) (encs := encs) (tab := tab) (loops := loops)).yld⟩
theorem spec_ofM {P : Program} {encs : Nat → Option Enc} {mk : Nat → Option (Bool × Nat)} {tab : List (Nat × Con)} (c : Con) {loops : c.γ → Nat → St → Option LoopAnn} (hk : ∀ k isA n, mk k = some (isA, n) → KeyOk P k isA n)
    (ht : TabOk P tab) (hmx : P.follows .mixedOrders = true) {f : Nat} {fn : Func} (hf : P.funcs[f]? = some fn)
    (hname : (fn.name == "runtime.NumGoroutine") = false) (hbody : fn.body.isNone = false) (hm : c.m ≤ 8) (hin : ∀ g lb, c.pre g → lb ∈ c.ins g → LBin lb) (hb : c.body (fun g => envOfM P encs mk tab (loops g)) fn) : SpecOk P f c.spec :=
  con_sound c (fun _ => envOfM_ok hk ht) (fun _ => envOfM_law) hmx hf ⟨fn, hf, hname, hbody⟩ hm hin hb

/-- a function keeps to its contract -/
theorem spec_of {P : Program} {encs : Nat → Option Enc} {tab : List (Nat × Con)} (c : Con) {loops : c.γ → Nat → St → Option LoopAnn} (ht : TabOk P tab) (hmx : P.follows .mixedOrders = true) {f : Nat} {fn : Func} (hf : P.funcs[f]? = some fn)
    (hname : (fn.name == "runtime.NumGoroutine") = false) (hbody : fn.body.isNone = false) (hm : c.m ≤ 8) (hin : ∀ g lb, c.pre g → lb ∈ c.ins g → LBin lb) (hb : c.body (fun g => envOf P encs tab (loops g)) fn) : SpecOk P f c.spec :=
  con_sound c (fun _ => envOf_ok ht) (fun _ => envOf_law) hmx hf ⟨fn, hf, hname, hbody⟩ hm hin hb
/-- .. where the own blocks of regions are told apart -/
def envW (P : Program) (encs : Nat → Option Enc) (tab : List (Nat × Con)) (loops : Nat → St → Option LoopAnn) : Env :=
  { envOf P encs tab loops with own := true }
theorem envW_ok {P : Program} {encs : Nat → Option Enc} {tab : List (Nat × Con)} {loops : Nat → St → Option LoopAnn} (ht : TabOk P tab) : EnvOk P (envW P encs tab loops) := by
  have h := envOf_ok (encs := encs) (loops := loops) ht
  exact ⟨h.mkey, h.ty, h.spec, h.mono, h.yld⟩
theorem envW_law {P : Program} {encs : Nat → Option Enc} {tab : List (Nat × Con)} {loops : Nat → St → Option LoopAnn} : EnvLaw (envW P encs tab loops) :=
  ⟨(envOf_law (P := P) (encs := encs) (tab := tab) (loops := loops)).mono, (envOf_law (P := P) (encs := encs) (tab := tab) (loops := loops)).keep, (envOf_law (P := P) (encs := encs) (tab := tab) (loops := loops)).yld⟩
theorem spec_ofW {P : Program} {encs : Nat → Option Enc} {tab : List (Nat × Con)} (c : Con) {loops : c.γ → Nat → St → Option LoopAnn} (ht : TabOk P tab) (hmx : P.follows .mixedOrders = true) {f : Nat} {fn : Func} (hf : P.funcs[f]? = some fn)
    (hname : (fn.name == "runtime.NumGoroutine") = false) (hbody : fn.body.isNone = false) (hm : c.m ≤ 8) (hin : ∀ g lb, c.pre g → lb ∈ c.ins g → LBin lb) (hb : c.body (fun g => envW P encs tab (loops g)) fn) : SpecOk P f c.spec :=
  con_sound c (fun _ => envW_ok ht) (fun _ => envW_law) hmx hf ⟨fn, hf, hname, hbody⟩ hm hin hb
/-- .. where a range's own function is called -/
def envY (P : Program) (encs : Nat → Option Enc) (tab : List (Nat × Con)) (loops : Nat → St → Option LoopAnn) (l0 : Nat) (y : Spec) : Env :=
  { envOf P encs tab loops with yield := fun l => match Nat.beq l l0 with | true => some y | false => none }
theorem envY_ok {P : Program} {encs : Nat → Option Enc} {tab : List (Nat × Con)} {loops : Nat → St → Option LoopAnn} {l0 : Nat} {y : Spec} (ht : TabOk P tab) (hy : YieldOk P l0 y) : EnvOk P (envY P encs tab loops l0 y) := by
  have h := envOf_ok (encs := encs) (loops := loops) ht
  refine ⟨h.mkey, h.ty, h.spec, h.mono, fun l sp hl => ?_⟩
  simp only [envY] at hl
  split at hl
  · rename_i hb
    cases hl
    rw [Nat.eq_of_beq_eq_true hb]; exact hy
  · cases hl
theorem envY_law {P : Program} {encs : Nat → Option Enc} {tab : List (Nat × Con)} {loops : Nat → St → Option LoopAnn} {l0 : Nat} {y : Spec} (hm : ∀ (kd : Nat) (svs : List SV) (B : Bl) (K K' : SV → Bl → Prop), (∀ v B, K v B → K' v B) → y kd svs B K → y kd svs B K') : EnvLaw (envY P encs tab loops l0 y) := by
  have h := envOf_law (P := P) (encs := encs) (tab := tab) (loops := loops)
  refine ⟨h.mono, h.keep, fun l sp hl => ?_⟩
  simp only [envY] at hl
  split at hl
  · cases hl; exact hm
  · cases hl
/-- .. with one function more, whose specification is no contract -/
def specS (tab : List (Nat × Con)) (f0 : Nat) (sp0 : Spec) (g : Nat) : Option Spec := match Nat.beq g f0 with
  | true => some sp0
  | false => match lookC tab g with | some c => some c.spec | none => none
def keepS (tab : List (Nat × Con)) (f0 : Nat) (g : Nat) : Bool := match Nat.beq g f0 with
  | true => false
  | false => match lookC tab g with | some c => Nat.beq c.m 0 | none => false
def envS (P : Program) (encs : Nat → Option Enc) (tab : List (Nat × Con)) (f0 : Nat) (sp0 : Spec) (loops : Nat → St → Option LoopAnn) : Env :=
  { envOf P encs tab loops with spec := specS tab f0 sp0, keep := keepS tab f0 }
theorem envS_ok {P : Program} {encs : Nat → Option Enc} {tab : List (Nat × Con)} {f0 : Nat} {sp0 : Spec} {loops : Nat → St → Option LoopAnn} (ht : TabOk P tab) (h0 : SpecOk P f0 sp0)
    (hm0 : ∀ (kd : Nat) (svs : List SV) (B : Bl) (K K' : SV → Bl → Prop), (∀ v B, K v B → K' v B) → sp0 kd svs B K → sp0 kd svs B K') : EnvOk P (envS P encs tab f0 sp0 loops) := by
  have h := envOf_ok (encs := encs) (loops := loops) ht
  refine ⟨h.mkey, h.ty, fun g sp hg => ?_, fun g sp hg => ?_, h.yld⟩
  · simp only [envS, specS] at hg
    split at hg
    · rename_i hb; cases hg; rw [Nat.eq_of_beq_eq_true hb]; exact h0
    · exact h.spec g sp hg
  · simp only [envS, specS] at hg
    split at hg
    · cases hg; exact hm0
    · exact h.mono g sp hg
theorem envS_law {P : Program} {encs : Nat → Option Enc} {tab : List (Nat × Con)} {f0 : Nat} {sp0 : Spec} {loops : Nat → St → Option LoopAnn}
    (hm0 : ∀ (kd : Nat) (svs : List SV) (B : Bl) (K K' : SV → Bl → Prop), (∀ v B, K v B → K' v B) → sp0 kd svs B K → sp0 kd svs B K') : EnvLaw (envS P encs tab f0 sp0 loops) := by
  have h := envOf_law (P := P) (encs := encs) (tab := tab) (loops := loops)
  refine ⟨fun g sp hg => ?_, fun g sp hg hk kd svs B K hf => ?_, h.yld⟩
  · simp only [envS, specS] at hg
    split at hg
    · cases hg; exact hm0
    · exact h.mono g sp hg
  · simp only [envS, specS, keepS] at hg hk
    split at hg
    · rename_i hb; rw [hb] at hk; cases hk
    · rename_i hb
      rw [hb] at hk
      exact h.keep g sp hg hk kd svs B K hf
theorem spec_ofS {P : Program} {encs : Nat → Option Enc} {tab : List (Nat × Con)} (c : Con) {f0 : Nat} {sp0 : Spec} {loops : c.γ → Nat → St → Option LoopAnn} (ht : TabOk P tab) (h0 : SpecOk P f0 sp0)
    (hm0 : ∀ (kd : Nat) (svs : List SV) (B : Bl) (K K' : SV → Bl → Prop), (∀ v B, K v B → K' v B) → sp0 kd svs B K → sp0 kd svs B K') (hmx : P.follows .mixedOrders = true) {f : Nat} {fn : Func} (hf : P.funcs[f]? = some fn)
    (hname : (fn.name == "runtime.NumGoroutine") = false) (hbody : fn.body.isNone = false) (hm : c.m ≤ 8) (hin : ∀ g lb, c.pre g → lb ∈ c.ins g → LBin lb) (hb : c.body (fun g => envS P encs tab f0 sp0 (loops g)) fn) : SpecOk P f c.spec :=
  con_sound c (fun _ => envS_ok ht h0 hm0) (fun _ => envS_law hm0) hmx hf ⟨fn, hf, hname, hbody⟩ hm hin hb
/-- one more function -/
theorem tab_add {P : Program} {encs : Nat → Option Enc} {tab : List (Nat × Con)} (c : Con) {loops : c.γ → Nat → St → Option LoopAnn} (ht : TabOk P tab) (hmx : P.follows .mixedOrders = true) {f : Nat} {fn : Func} (hf : P.funcs[f]? = some fn)
    (hname : (fn.name == "runtime.NumGoroutine") = false) (hbody : fn.body.isNone = false) (hm : c.m ≤ 8) (hin : ∀ g lb, c.pre g → lb ∈ c.ins g → LBin lb) (hb : c.body (fun g => envOf P encs tab (loops g)) fn) : TabOk P ((f, c) :: tab) :=
  tab_cons (con_sound c (fun _ => envOf_ok ht) (fun _ => envOf_law) hmx hf ⟨fn, hf, hname, hbody⟩ hm hin hb) ht

/-- a contract that passes no block and gives none -/
def pureCon (γ β : Type) (args : γ → List SV) (pre : γ → Prop) (post : γ → β → Prop) (res : γ → β → SV) : Con :=
  { γ := γ, β := β, keys := fun _ => [], m := 0, args := args, ins := fun _ => [], pre := pre, post := post, res := res, outs := fun _ _ => [], new := fun _ _ => none }
/-- one that gives a new slice -/
def newCon (γ β : Type) (args : γ → List SV) (pre : γ → Prop) (post : γ → β → Prop) (res : γ → β → SV) (new : γ → β → LB) : Con :=
  { γ := γ, β := β, keys := fun _ => [], m := 0, args := args, ins := fun _ => [], pre := pre, post := post, res := res, outs := fun _ _ => [], new := fun g b => some (new g b) }
end Go.SX
