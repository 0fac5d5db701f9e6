/- A PART OF THE PROOF. NO CONDITION. -/
import Derived.Test.YtgcedkklmmdabaaSxAD
set_option linter.unusedVariables false
set_option linter.unusedVariables false
set_option linter.unusedSimpArgs false
namespace Go.SX
/-! A slice that a call has made anew may be handed on as one that nobody turns: so a loop may hold at once what it was given and what it has made. -/
def roCon (γ : Type) (args : γ → List SV) (pre : γ → Prop) {α : Type} (d : α) (enc : α → List SV) (k : Nat) (xs : γ → List α) (r : γ → SV) : Con :=
  newCon γ Unit args pre (fun _ _ => True) (fun g _ => .tup [.sl 0 k 0 (xs g).length, r g]) (fun g _ => .arr α d enc (xs g))
def roSpec (γ : Type) (args : γ → List SV) (pre : γ → Prop) {α : Type} (d : α) (enc : α → List SV) (xs : γ → List α) (r : γ → SV) : Spec :=
  fun _ svs B K => ∃ g, viewL B [] svs (args g) ∧ pre g ∧ K (.tup [.ro α d enc (xs g), r g]) B
theorem roSpec_mono {γ : Type} {args : γ → List SV} {pre : γ → Prop} {α : Type} {d : α} {enc : α → List SV} {xs : γ → List α} {r : γ → SV} (kd : Nat) (svs : List SV) (B : Bl) (K K' : SV → Bl → Prop) (hK : ∀ v B, K v B → K' v B)
    (h : roSpec γ args pre d enc xs r kd svs B K) : roSpec γ args pre d enc xs r kd svs B K' := by
  obtain ⟨g, h1, h2, h3⟩ := h
  exact ⟨g, h1, h2, hK _ _ h3⟩
theorem roSpec_ok {P : Program} {fn : Nat} {γ : Type} {args : γ → List SV} {pre : γ → Prop} {α : Type} {d : α} {enc : α → List SV} {k : Nat} {xs : γ → List α} {r : γ → SV}
    (h : SpecOk P fn (roCon γ args pre d enc k xs r).spec) (hr : ∀ g kd, renT [] kd (.tup [.sl 0 k 0 (xs g).length, r g]) = .tup [.sl kd k 0 (xs g).length, r g]) : SpecOk P fn (roSpec γ args pre d enc xs r) := by
  refine ⟨h.1, fun X ρ B w kd svs vs K hM hfr hL hsp => ?_⟩
  obtain ⟨g, hv, hp, hK⟩ := hsp
  have hkd : Bl.get B kd = none := (hfr kd (Nat.le_refl _) (by omega)).2
  refine (h.2 X ρ B w kd svs vs (fun sv B' => sv = .tup [.sl kd k 0 (xs g).length, r g] ∧ B' = Bl.ins B kd (.arr α d enc (xs g))) hM hfr hL ⟨g, hv, trivial, hp, fun b _ => ⟨hr g kd, rfl⟩⟩).mono fun e w' ⟨v, he, Y, σ, sv, B', hXY, hρσ, hout, hM', hRv, hsv, hB'⟩ => ?_
  subst hsv hB'
  refine ⟨v, he, ?_⟩
  have hget : Bl.get (Bl.ins B kd (.arr α d enc (xs g))) kd = some (.arr α d enc (xs g)) := Bl.get_ins_same _ _ _ hkd
  have hoth : ∀ key lb2, Bl.get B key = some lb2 → key ≠ kd ∧ Bl.get (Bl.ins B kd (.arr α d enc (xs g))) key = some lb2 := fun key lb2 hg => by
    have hne : key ≠ kd := fun e => by rw [e, hkd] at hg; cases hg
    exact ⟨hne, by rw [Bl.get_ins_other _ _ _ _ hne]; exact hg⟩
  have hown := hM'.own kd _ hget
  cases hRv with
  | tup _ _ vs' hs hh =>
  have hs2 : vs'.size = 2 := hs
  have r0 := hh 0 _ vs'[0] rfl (Array.getElem?_eq_getElem (by omega))
  have r1 := hh 1 _ vs'[1] rfl (Array.getElem?_eq_getElem (by omega))
  have fin : ∀ Z : PH, Y.le Z → Mem Z σ B w' → Rv Z σ (.ro α d enc (xs g)) vs'[0] → Out X ρ B kd K (.tuple vs') w' := fun Z hYZ hMZ hro => by
    refine ⟨Z, σ, .tup [.ro α d enc (xs g), r g], B, PH.le_trans hXY hYZ, hρσ, fun key hk => ⟨(hout key hk).1, id⟩, hMZ, .tup _ _ _ hs2 fun i sv v hi hv => ?_, hK⟩
    rcases i with _ | _ | i
    · cases hi
      rw [Array.getElem?_eq_getElem (by omega)] at hv
      cases hv; exact hro
    · cases hi
      rw [Array.getElem?_eq_getElem (by omega)] at hv
      cases hv; exact r1.monoX hYZ
    · cases hi
  generalize vs'[0] = v0 at r0 fin
  cases r0 with
  | sl _ _ _ _ _ c A hn hA =>
  cases hl : σ kd with
  | none =>
    rw [hl] at hown
    obtain ⟨hx, hek⟩ := hown
    refine fin Y (PH.le_refl Y) ⟨hM'.fr, hM'.sub, fun key lb hg => hM'.own key lb (hoth key lb hg).2, fun k1 k2 b1 b2 l1 l2 g1 g2 => hM'.inj k1 k2 b1 b2 l1 l2 (hoth _ _ g1).2 (hoth _ _ g2).2⟩ ?_
    rw [hx]
    exact empty_ro σ hek A c
  | some l =>
    rw [hl] at hown
    obtain ⟨hno, hek, cs, ty, hb, hsz, hfit, hcell⟩ := hown
    let Z : PH := ⟨fun b => if b = l.b then some (.cells cs ty (0, 0)) else Y b, Y.w0⟩
    have hZl : Z l.b = some (.cells cs ty (0, 0)) := if_pos rfl
    have hYZ : Y.le Z := ⟨fun b o hb' => by
      have hne : b ≠ l.b := fun e => by rw [e, hno] at hb'; cases hb'
      show (if b = l.b then some (Obj.cells cs ty (0, 0)) else Y b) = some o
      rw [if_neg hne]; exact hb', rfl⟩
    refine fin Z hYZ ⟨hM'.fr, fun b o hb' => ?_, fun key lb hg => ?_, fun k1 k2 b1 b2 l1 l2 g1 g2 => hM'.inj k1 k2 b1 b2 l1 l2 (hoth _ _ g1).2 (hoth _ _ g2).2⟩ ?_
    · have hb' : (if b = l.b then some (Obj.cells cs ty (0, 0)) else Y b) = some o := hb'
      by_cases e : b = l.b
      · rw [if_pos e] at hb'; cases hb'; rw [e]; exact hb
      · rw [if_neg e] at hb'; exact hM'.sub b o hb'
    · obtain ⟨hne, hg2⟩ := hoth key lb hg
      refine (hM'.own key lb hg2).monoX hYZ fun q hq => ?_
      have hqb : q.b ≠ l.b := fun e => hne (hM'.inj key kd lb _ q l hg2 hget hq hl e)
      show (if q.b = l.b then some (Obj.cells cs ty (0, 0)) else Y q.b) = none
      rw [if_neg hqb]
      have := hM'.own key lb hg2
      rw [hq] at this
      exact (hM'.lt hg2 hq).2
    · by_cases hx : xs g = []
      · rw [hx]; exact empty_ro σ hek A c
      · have hlen : 0 < (xs g).length := List.length_pos_iff.2 hx
        rcases hA with h0 | ⟨l2, h1, h2, h3⟩
        · omega
        · rw [hl] at h1; cases h1
          rw [h2, Nat.zero_mul, Nat.add_zero]
          exact frozen_ro σ hZl hek hn fun i j x sv hi hj => by
            obtain ⟨v, a, b⟩ := hcell i x j sv hi hj
            exact ⟨v, a, b.monoX hYZ⟩
end Go.SX
