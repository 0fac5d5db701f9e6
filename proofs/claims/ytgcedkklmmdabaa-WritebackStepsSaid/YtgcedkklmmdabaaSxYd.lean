/- A PART OF THE PROOF. NO CONDITION. -/
import Derived.Test.YtgcedkklmmdabaaSxSort
import Derived.RangeFuncLeaves
import Derived.RangeFuncGives
set_option linter.unusedSimpArgs false
set_option linter.unusedVariables false
set_option linter.unusedVariables false
set_option linter.unusedSimpArgs false
namespace Go.SX
open Go.Proofs Go.RowKit

/-- a region that does not draw, in a round or not -/
theorem region_snd {ro : Option Nat} {P : Program} {E : Env} (hE : EnvOk P E) {id : Nat} {ops : Array Oper} {st : St} {Q : XExit → St → Prop} {X : PH} {ρ : Rho} {a : Act} {w : World} (hc : Conc X ρ st a w) (h : exec E (.region id ops false) st Q) :
    (Code.region id ops false).wpIn (wideR ro) 0 P (Res X ρ st (dstsC (.region id ops false)) Q) a w := by
  refine wpIn_region (F := wideR ro) (n := 0) ?_
  simp only [exec] at h
  have := runOps_sound (ro := ro) (Q := Res X ρ st (dstsC (.region id ops false)) Q) hE (ops := ops) ops.toList 0 X ρ st a w _ (by simp) hc.c0 (fun key hk _ => hc.fresh key hk) h
    (fun X' ρ' ts' B' a' w' hX hρ hc' hfr hag hK => ⟨X', ρ', ⟨ts', B', st.next + 8 * ops.toList.length⟩, hX, hρ,
      ⟨hc'.mem, hc'.size, hc'.slots, hc'.dfr, fun key hk => hfr key (by simp only at hk; omega) fun i hi => by simp only at hk; omega⟩, hag, by simp only; omega, hK⟩)
  rw [List.range_eq_range']
  simpa using this

/-- the same blocks under other keys -/
theorem Mem.ren {X : PH} {ρ σ : Rho} {B B' : Bl} {w : World} (hm : Mem X ρ B w) (f : Nat → Nat)
    (hf : ∀ k lb, Bl.get B' k = some lb → ∃ lb0, Bl.get B (f k) = some lb0 ∧ σ k = ρ (f k) ∧ (BOk X ρ (fun b => w.heap[b]?) (ρ (f k)) lb0 → BOk X σ (fun b => w.heap[b]?) (σ k) lb))
    (hinj : ∀ k1 k2 b1 b2, Bl.get B' k1 = some b1 → Bl.get B' k2 = some b2 → f k1 = f k2 → k1 = k2) : Mem X σ B' w := by
  refine ⟨hm.fr, hm.sub, fun k lb hk => ?_, fun k1 k2 b1 b2 l1 l2 h1 h2 e1 e2 hb => ?_⟩
  · obtain ⟨lb0, h1, h2, h3⟩ := hf k lb hk
    exact h3 (hm.own _ _ h1)
  · obtain ⟨c1, g1, q1, _⟩ := hf k1 b1 h1
    obtain ⟨c2, g2, q2, _⟩ := hf k2 b2 h2
    exact hinj k1 k2 b1 b2 h1 h2 (hm.inj _ _ _ _ _ _ g1 g2 (by rw [← q1]; exact e1) (by rw [← q2]; exact e2) hb)
theorem Rv.slKey {X : PH} {ρ σ : Rho} {k1 k2 k o n : Nat} {v : Value} (h : Rv X ρ (.sl k1 k o n) v) (e : σ k2 = ρ k1) : Rv X σ (.sl k2 k o n) v := by
  cases h with
  | sl _ _ _ _ _ c A hn h => exact .sl _ _ _ _ _ c A hn (h.imp id fun ⟨l, a, b⟩ => ⟨l, e.trans a, b⟩)
theorem Rv.ptrKey {X : PH} {ρ σ : Rho} {k1 k2 o : Nat} {v : Value} (h : Rv X ρ (.ptr k1 o) v) (e : σ k2 = ρ k1) : Rv X σ (.ptr k2 o) v := by
  cases h with
  | ptr _ _ _ l h => exact .ptr _ _ _ l (e.trans h)
theorem Fr.putObj (w : World) (b : Nat) (o : Obj) : Fr w (w.putObj b o) := ⟨rfl, rfl, rfl, Nat.le_refl _⟩
theorem putObj_same {w : World} {b : Nat} {o : Obj} (h : b < w.heap.size) : (w.putObj b o).heap[b]? = some o := by
  simp [World.putObj, h]
theorem putObj_other {w : World} {b k : Nat} {o : Obj} (h : k ≠ b) : (w.putObj b o).heap[k]? = w.heap[k]? := by
  simp only [World.putObj]
  exact Array.getElem?_setIfInBounds_ne (Ne.symm h)
/-- another object in a block that is held whole -/
theorem Mem.putAt {X : PH} {ρ : Rho} {B : Bl} {w : World} (hm : Mem X ρ B w) {key n : Nat} {svs : List SV} {mk mk' : Array Value → Obj} (hk : Bl.get B key = some (.objAt n svs mk)) :
    ∃ vs : Array Value, vs.size = svs.length ∧ (∀ (i : Nat) sv, svs[i]? = some sv → ∃ v, vs[i]? = some v ∧ Rv X ρ sv v) ∧ w.heap[n]? = some (mk vs) ∧ Mem X ρ (Bl.set B key (.objAt n svs mk')) (w.putObj n (mk' vs)) := by
  have h := hm.own key _ hk
  cases hl : ρ key with
  | none => rw [hl] at h; exact h.elim
  | some l =>
    rw [hl] at h
    obtain ⟨h0, rfl, vs, h2, h3, h4⟩ := h
    have hlt : l.b < w.heap.size := (Array.getElem?_eq_some_iff.1 h4).1
    refine ⟨vs, h2, h3, h4, hm.rewrite hk hl (Fr.putObj _ _ _) (fun k o hkb ho => by rw [putObj_other hkb]; exact ho) ⟨h0, rfl, vs, h2, h3, putObj_same hlt⟩⟩
end Go.SX
