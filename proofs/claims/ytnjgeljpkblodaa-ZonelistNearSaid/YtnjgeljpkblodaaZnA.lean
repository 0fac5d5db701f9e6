/- A PART OF THE PROOF. NO CONDITION. -/
import Derived.Test.YtnjgeljpkblodaaSxAD
import Derived.Test.YtnjgeljpkblodaaProg
noncomputable section
set_option linter.unusedVariables false
set_option linter.unusedSimpArgs false
namespace Go.Zn
open Go.Proofs Go.SX

structure Z where
  node : Int
  kind : Int
  start : Int
  count : Int
  min : Int
structure Po where
  kind : Int
  nodes : Int
  turn : Int
abbrev I (x : Int) : SV := .val (.int .i64 x)
abbrev Bo (b : Bool) : SV := .val (.bool b)
def encZ (z : Z) : List SV := [I z.node, I z.kind, I z.start, I z.count, I z.min, .one, .one, .one, .one, .one]
def encPo (p : Po) : List SV := [I p.kind, I p.nodes, I p.turn]
def encI (x : Int) : List SV := [I x]
def dZ : Z := ⟨0, 0, 0, 0, 0⟩
abbrev roZ (l : List Z) : SV := .ro Z dZ encZ l
abbrev roI (l : List Int) : SV := .ro Int 0 encI l
theorem okZ : EncOk dZ encZ := fun _ => ⟨rfl, rfl⟩
theorem okI : EncOk (0 : Int) encI := fun _ => ⟨rfl, rfl⟩
def encs (t : Nat) : Option Enc :=
  match Nat.beq t 41, Nat.beq t 3 with
  | true, _ => some ⟨Z, dZ, encZ⟩
  | _, true => some ⟨Int, 0, encI⟩
  | _, _ => none

abbrev P := Try.prog
theorem mixed : P.follows .mixedOrders = true := by kernel_rfl
abbrev Loops := Nat → St → Option LoopAnn
def noLoops {γ : Type} : γ → Loops := fun _ _ _ => none
def loop1 (b : Nat) (an : LoopAnn) : Loops := fun i _ => match Nat.beq i b with | true => some an | false => none
def loop2 (b : Nat) (an : LoopAnn) (b' : Nat) (an' : LoopAnn) : Loops := fun i _ => match Nat.beq i b, Nat.beq i b' with | true, _ => some an | _, true => some an' | _, _ => none
abbrev env (tab : List (Nat × Con)) (loops : Loops) : Env := envOf P encs tab loops
theorem noIns {c : Con} (h : ∀ g, c.ins g = []) : ∀ g lb, c.pre g → lb ∈ c.ins g → LBin lb := fun g lb _ hm => by rw [h] at hm; cases hm
set_option maxRecDepth 100000

/-! Few -/
def cFew : Con := pureCon (List Z × Int) Unit (fun g => [roZ g.1, I g.2]) (fun _ => True) (fun _ _ => True) (fun g _ => Bo (decide ((g.1.length : Int) ≤ g.2)))
theorem vFew_eq : (cFew.body (fun g => env [] (noLoops g)) Try.f11) = (∀ (g : List Z × Int), True → ∃ (b : Unit), True ∧ SV.val (Value.bool (decide ((↑(List.length (Prod.fst g)) : Int) ≤ Prod.snd g))) = SV.val (Value.bool (decide ((↑(List.length
  (Prod.fst g)) : Int) ≤ Prod.snd g))) ∧ (0 : Nat) = (0 : Nat) ∧ True) := by kernel_rfl
/-! Check -/
def chk1 (z : Z) : Int := if z.node < 0 ∨ z.node ≥ 4 then 2 else if z.kind ≠ 0 ∧ z.kind ≠ 1 then 1 else 0
def chkL : List Z → Int
  | [] => 0
  | z :: r => if chk1 z = 0 then chkL r else chk1 z
def chk (l : List Z) : Int := if l.length > 6 then 9 else chkL l
def cCheck : Con := pureCon (List Z) Unit (fun l => [roZ l]) (fun l => l.length ≤ 1000000000) (fun _ _ => True) (fun l _ => I (chk l))
def lChk (s : Nat) (l : List Z) : Loops := loop1 0 { γ := Nat, slots := [s], vals := fun _ i => [I i], inv := fun i => i ≤ l.length ∧ l.length ≤ 6 ∧ chkL (l.drop i) = chkL l, μ := fun i => l.length - i }
theorem vCheck_eq : (cCheck.body (fun g => env [] (lChk 10 g)) Try.f13) = (∀ (g : List Z), List.length g ≤ (1000000000 : Nat) → (decide ((↑(List.length g) : Int) > (6 : Int)) = true → ∃ (b : Unit), True ∧ SV.val (Value.int IntKind.i64 (9 : Int)) = SV.val
  (Value.int IntKind.i64 (chk g)) ∧ (0 : Nat) = (0 : Nat) ∧ True) ∧ (decide ((↑(List.length g) : Int) > (6 : Int)) = false → (∃ (g_1 : Nat), (g_1 ≤ List.length g ∧ List.length g ≤ (6
  : Nat) ∧ chkL (List.drop g_1 g) = chkL g) ∧ (0 : Int) = (↑g_1 : Int) ∧ True ∧ True) ∧ ∀ (g_1 : Nat), g_1 ≤ List.length g ∧ List.length g ≤ (6 : Nat) ∧ chkL (List.drop g_1 g) = chkL
  g → (decide ((↑g_1 : Int) < (↑(List.length g) : Int)) = true → ((0 : Int) ≤ (↑g_1 : Int) ∧ (↑g_1 : Int) < (↑(List.length g) : Int)) ∧ Int.toNat (↑g_1 : Int) < List.length g ∧
  (decide (Z.node (List.getD g (Int.toNat (↑g_1 : Int)) dZ) < (0 : Int)) = true → ∃ (b : Unit), True ∧ SV.val (Value.int IntKind.i64 (2 : Int)) = SV.val (Value.int IntKind.i64 (chk
  g)) ∧ (0 : Nat) = (0 : Nat) ∧ True) ∧ (decide (Z.node (List.getD g (Int.toNat (↑g_1 : Int)) dZ) < (0 : Int)) = false → (decide (Z.node (List.getD g (Int.toNat (↑g_1 : Int)) dZ) ≥
  (4 : Int)) = true → ∃ (b : Unit), True ∧ SV.val (Value.int IntKind.i64 (2 : Int)) = SV.val (Value.int IntKind.i64 (chk g)) ∧ (0 : Nat) = (0 : Nat) ∧ True) ∧ (decide (Z.node
  (List.getD g (Int.toNat (↑g_1 : Int)) dZ) ≥ (4 : Int)) = false → ((Z.kind (List.getD g (Int.toNat (↑g_1 : Int)) dZ) != (0 : Int)) = true → ((Z.kind (List.getD g (Int.toNat (↑g_1 :
  Int)) dZ) != (1 : Int)) = true → ∃ (b : Unit), True ∧ SV.val (Value.int IntKind.i64 (1 : Int)) = SV.val (Value.int IntKind.i64 (chk g)) ∧ (0 : Nat) = (0 : Nat) ∧ True) ∧ ((Z.kind
  (List.getD g (Int.toNat (↑g_1 : Int)) dZ) != (1 : Int)) = false → inK IntKind.i64 ((↑g_1 : Int) + (1 : Int)) ∧ ∃ (g' : Nat), (g' ≤ List.length g ∧ List.length g ≤ (6 : Nat) ∧ chkL
  (List.drop g' g) = chkL g) ∧ List.length g - g' < List.length g - g_1 ∧ (↑g_1 : Int) + (1 : Int) = (↑g' : Int) ∧ True ∧ True)) ∧ ((Z.kind (List.getD g (Int.toNat (↑g_1 : Int)) dZ)
  != (0 : Int)) = false → inK IntKind.i64 ((↑g_1 : Int) + (1 : Int)) ∧ ∃ (g' : Nat), (g' ≤ List.length g ∧ List.length g ≤ (6 : Nat) ∧ chkL (List.drop g' g) = chkL g) ∧ List.length g
  - g' < List.length g - g_1 ∧ (↑g_1 : Int) + (1 : Int) = (↑g' : Int) ∧ True ∧ True)))) ∧ (decide ((↑g_1 : Int) < (↑(List.length g) : Int)) = false → ∃ (b : Unit), True ∧ SV.val
  (Value.int IntKind.i64 (0 : Int)) = SV.val (Value.int IntKind.i64 (chk g)) ∧ (0 : Nat) = (0 : Nat) ∧ True))) := by kernel_rfl
theorem vRCheck_eq : (cCheck.body (fun g => env [] (lChk 3 g)) Try.f14) = (∀ (g : List Z), List.length g ≤ (1000000000 : Nat) → (decide ((↑(List.length g) : Int) > (6 : Int)) = true → ∃ (b : Unit), True ∧ SV.val (Value.int IntKind.i64 (9 : Int)) = SV.val
  (Value.int IntKind.i64 (chk g)) ∧ (0 : Nat) = (0 : Nat) ∧ True) ∧ (decide ((↑(List.length g) : Int) > (6 : Int)) = false → (∃ (g_1 : Nat), (g_1 ≤ List.length g ∧ List.length g ≤ (6
  : Nat) ∧ chkL (List.drop g_1 g) = chkL g) ∧ (0 : Int) = (↑g_1 : Int) ∧ True ∧ True) ∧ ∀ (g_1 : Nat), g_1 ≤ List.length g ∧ List.length g ≤ (6 : Nat) ∧ chkL (List.drop g_1 g) = chkL
  g → (decide ((↑g_1 : Int) < (↑(List.length g) : Int)) = true → ((0 : Int) ≤ (↑g_1 : Int) ∧ (↑g_1 : Int) < (↑(List.length g) : Int)) ∧ Int.toNat (↑g_1 : Int) < List.length g ∧
  (decide (Z.node (List.getD g (Int.toNat (↑g_1 : Int)) dZ) < (0 : Int)) = true → ∃ (b : Unit), True ∧ SV.val (Value.int IntKind.i64 (2 : Int)) = SV.val (Value.int IntKind.i64 (chk
  g)) ∧ (0 : Nat) = (0 : Nat) ∧ True) ∧ (decide (Z.node (List.getD g (Int.toNat (↑g_1 : Int)) dZ) < (0 : Int)) = false → ((0 : Int) ≤ (↑g_1 : Int) ∧ (↑g_1 : Int) < (↑(List.length g)
  : Int)) ∧ Int.toNat (↑g_1 : Int) < List.length g ∧ (decide (Z.node (List.getD g (Int.toNat (↑g_1 : Int)) dZ) ≥ (4 : Int)) = true → ∃ (b : Unit), True ∧ SV.val (Value.int
  IntKind.i64 (2 : Int)) = SV.val (Value.int IntKind.i64 (chk g)) ∧ (0 : Nat) = (0 : Nat) ∧ True) ∧ (decide (Z.node (List.getD g (Int.toNat (↑g_1 : Int)) dZ) ≥ (4 : Int)) = false →
  ((0 : Int) ≤ (↑g_1 : Int) ∧ (↑g_1 : Int) < (↑(List.length g) : Int)) ∧ Int.toNat (↑g_1 : Int) < List.length g ∧ ((Z.kind (List.getD g (Int.toNat (↑g_1 : Int)) dZ) != (0 : Int)) =
  true → ((0 : Int) ≤ (↑g_1 : Int) ∧ (↑g_1 : Int) < (↑(List.length g) : Int)) ∧ Int.toNat (↑g_1 : Int) < List.length g ∧ ((Z.kind (List.getD g (Int.toNat (↑g_1 : Int)) dZ) != (1 :
  Int)) = true → ∃ (b : Unit), True ∧ SV.val (Value.int IntKind.i64 (1 : Int)) = SV.val (Value.int IntKind.i64 (chk g)) ∧ (0 : Nat) = (0 : Nat) ∧ True) ∧ ((Z.kind (List.getD g
  (Int.toNat (↑g_1 : Int)) dZ) != (1 : Int)) = false → inK IntKind.i64 ((↑g_1 : Int) + (1 : Int)) ∧ ∃ (g' : Nat), (g' ≤ List.length g ∧ List.length g ≤ (6 : Nat) ∧ chkL (List.drop g'
  g) = chkL g) ∧ List.length g - g' < List.length g - g_1 ∧ (↑g_1 : Int) + (1 : Int) = (↑g' : Int) ∧ True ∧ True)) ∧ ((Z.kind (List.getD g (Int.toNat (↑g_1 : Int)) dZ) != (0 : Int))
  = false → inK IntKind.i64 ((↑g_1 : Int) + (1 : Int)) ∧ ∃ (g' : Nat), (g' ≤ List.length g ∧ List.length g ≤ (6 : Nat) ∧ chkL (List.drop g' g) = chkL g) ∧ List.length g - g' <
  List.length g - g_1 ∧ (↑g_1 : Int) + (1 : Int) = (↑g' : Int) ∧ True ∧ True)))) ∧ (decide ((↑g_1 : Int) < (↑(List.length g) : Int)) = false → ∃ (b : Unit), True ∧ SV.val (Value.int
  IntKind.i64 (0 : Int)) = SV.val (Value.int IntKind.i64 (chk g)) ∧ (0 : Nat) = (0 : Nat) ∧ True))) := by kernel_rfl

theorem inI {x : Int} (h1 : -9223372036854775808 ≤ x) (h2 : x ≤ 9223372036854775807) : inK .i64 x := ⟨h1, h2⟩
theorem drop_getD {α : Type} {l : List α} (d : α) {i : Nat} (hi : i < l.length) : l.drop i = l.getD i d :: l.drop (i + 1) := by
  rw [List.drop_eq_getElem_cons hi, List.getD_eq_getElem?_getD, List.getElem?_eq_getElem hi]; rfl
theorem take_next {α : Type} (l : List α) (d : α) {i : Nat} (h : i < l.length) : l.take (i + 1) = l.take i ++ [l.getD i d] := by
  rw [List.take_add_one, List.getD_eq_getElem?_getD]
  simp [h]
theorem getD_mem {α : Type} {l : List α} {d : α} {i : Nat} (h : i < l.length) : l.getD i d ∈ l := by
  rw [List.getD_eq_getElem?_getD]; simp [h]
theorem vFew : cFew.body (fun g => env [] (noLoops g)) Try.f11 := by
  rw [vFew_eq]
  exact fun g _ => ⟨(), trivial, rfl, rfl, trivial⟩
def ChkInv (l : List Z) (i : Nat) : Prop := i ≤ l.length ∧ l.length ≤ 6 ∧ chkL (l.drop i) = chkL l
theorem chk_stop {l : List Z} {i : Nat} (h : ChkInv l i) (hi : i < l.length) {r : Int} (hr : chk1 (l.getD i dZ) = r) (h0 : r ≠ 0) : chk l = r := by
  obtain ⟨_, h6, h⟩ := h
  rw [drop_getD dZ hi, chkL, if_neg (by rw [hr]; exact h0), hr] at h
  rw [chk, if_neg (by omega), h]
theorem chk_next {l : List Z} {i : Nat} (h : ChkInv l i) (hi : i < l.length) (hr : chk1 (l.getD i dZ) = 0) : ChkInv l (i + 1) := by
  obtain ⟨_, h6, h⟩ := h
  rw [drop_getD dZ hi, chkL, if_pos hr] at h
  exact ⟨hi, h6, h⟩
theorem chk_end {l : List Z} {i : Nat} (h : ChkInv l i) (hi : ¬ i < l.length) : chk l = 0 := by
  obtain ⟨_, h6, h⟩ := h
  rw [List.drop_eq_nil_of_le (by omega)] at h
  rw [chk, if_neg (by omega), ← h]; rfl
theorem chk_big {l : List Z} (h : decide ((l.length : Int) > 6) = true) : chk l = 9 := by
  have := of_decide_eq_true h
  rw [chk, if_pos (by omega)]
theorem vCheck : cCheck.body (fun g => env [] (lChk 10 g)) Try.f13 := by
  rw [vCheck_eq]
  intro l hlen
  refine ⟨fun h => ⟨(), trivial, by rw [chk_big h], rfl, trivial⟩, fun h6 => ⟨⟨0, ⟨Nat.zero_le _, by have := of_decide_eq_false h6; omega, rfl⟩, rfl, trivial, trivial⟩, fun i hinv => ⟨fun h => ?_, fun h => ⟨(), trivial, ?_, rfl, trivial⟩⟩⟩⟩
  · have hinv : ChkInv l i := hinv
    have h : (i : Int) < l.length := of_decide_eq_true h
    have hi : i < l.length := by omega
    rw [Int.toNat_natCast]
    refine ⟨⟨by omega, h⟩, hi, fun h1 => ⟨(), trivial, ?_, rfl, trivial⟩, fun h1 => ⟨fun h2 => ⟨(), trivial, ?_, rfl, trivial⟩, fun h2 => ⟨fun h3 => ⟨fun h4 => ⟨(), trivial, ?_, rfl, trivial⟩, fun h4 => ⟨inI (by omega) (by omega), i + 1, chk_next hinv hi ?_, by omega, by omega, trivial, trivial⟩⟩, fun h3 => ⟨inI (by omega) (by omega), i + 1, chk_next hinv hi ?_, by omega, by omega, trivial, trivial⟩⟩⟩⟩
    · have h1 := of_decide_eq_true h1
      rw [chk_stop hinv hi (r := 2) (by rw [chk1, if_pos (.inl h1)]) (by decide)]
    · have h2 := of_decide_eq_true h2
      rw [chk_stop hinv hi (r := 2) (by rw [chk1, if_pos (.inr h2)]) (by decide)]
    all_goals
      have h1 := of_decide_eq_false h1
      have h2 := of_decide_eq_false h2
      simp only [bne_iff_ne, ne_eq, bne_eq_false_iff_eq] at h3
      try simp only [bne_iff_ne, ne_eq, bne_eq_false_iff_eq] at h4
    · rw [chk_stop hinv hi (r := 1) (by rw [chk1, if_neg (by omega), if_pos ⟨h3, h4⟩]) (by decide)]
    · rw [chk1, if_neg (by omega), if_neg (fun hh => hh.2 h4)]
    · rw [chk1, if_neg (by omega), if_neg (fun hh => hh.1 h3)]
  · have h := of_decide_eq_false h
    rw [chk_end (i := i) hinv (by omega)]
theorem vRCheck : cCheck.body (fun g => env [] (lChk 3 g)) Try.f14 := by
  rw [vRCheck_eq]
  intro l hlen
  refine ⟨fun h => ⟨(), trivial, by rw [chk_big h], rfl, trivial⟩, fun h6 => ⟨⟨0, ⟨Nat.zero_le _, by have := of_decide_eq_false h6; omega, rfl⟩, rfl, trivial, trivial⟩, fun i hinv => ⟨fun h => ?_, fun h => ⟨(), trivial, ?_, rfl, trivial⟩⟩⟩⟩
  · have hinv : ChkInv l i := hinv
    have h : (i : Int) < l.length := of_decide_eq_true h
    have hi : i < l.length := by omega
    rw [Int.toNat_natCast]
    refine ⟨⟨by omega, h⟩, hi, fun h1 => ⟨(), trivial, ?_, rfl, trivial⟩, fun h1 => ⟨⟨by omega, h⟩, hi, fun h2 => ⟨(), trivial, ?_, rfl, trivial⟩, fun h2 => ⟨⟨by omega, h⟩, hi, fun h3 => ⟨⟨by omega, h⟩, hi, fun h4 => ⟨(), trivial, ?_, rfl, trivial⟩, fun h4 => ⟨inI (by omega) (by omega), i + 1, chk_next hinv hi ?_, by omega, by omega, trivial, trivial⟩⟩, fun h3 => ⟨inI (by omega) (by omega), i + 1, chk_next hinv hi ?_, by omega, by omega, trivial, trivial⟩⟩⟩⟩
    · have h1 := of_decide_eq_true h1
      rw [chk_stop hinv hi (r := 2) (by rw [chk1, if_pos (.inl h1)]) (by decide)]
    · have h2 := of_decide_eq_true h2
      rw [chk_stop hinv hi (r := 2) (by rw [chk1, if_pos (.inr h2)]) (by decide)]
    all_goals
      have h1 := of_decide_eq_false h1
      have h2 := of_decide_eq_false h2
      simp only [bne_iff_ne, ne_eq, bne_eq_false_iff_eq] at h3
      try simp only [bne_iff_ne, ne_eq, bne_eq_false_iff_eq] at h4
    · rw [chk_stop hinv hi (r := 1) (by rw [chk1, if_neg (by omega), if_pos ⟨h3, h4⟩]) (by decide)]
    · rw [chk1, if_neg (by omega), if_neg (fun hh => hh.2 h4)]
    · rw [chk1, if_neg (by omega), if_neg (fun hh => hh.1 h3)]
  · have h := of_decide_eq_false h
    rw [chk_end (i := i) hinv (by omega)]
theorem sFew : SpecOk P 11 cFew.spec := spec_of cFew (tab_nil P) mixed (fn := Try.f11) (by kernel_rfl) (by kernel_rfl) (by kernel_rfl) (Nat.zero_le _) (noIns fun _ => rfl) vFew
theorem sCheck : SpecOk P 13 cCheck.spec := spec_of cCheck (tab_nil P) mixed (fn := Try.f13) (by kernel_rfl) (by kernel_rfl) (by kernel_rfl) (Nat.zero_le _) (noIns fun _ => rfl) vCheck
theorem sRCheck : SpecOk P 14 cCheck.spec := spec_of cCheck (tab_nil P) mixed (fn := Try.f14) (by kernel_rfl) (by kernel_rfl) (by kernel_rfl) (Nat.zero_le _) (noIns fun _ => rfl) vRCheck
end Go.Zn
