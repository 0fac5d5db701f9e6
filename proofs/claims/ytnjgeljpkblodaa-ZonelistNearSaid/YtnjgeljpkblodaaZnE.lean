/- A PART OF THE PROOF. NO CONDITION. -/
import Derived.Test.YtnjgeljpkblodaaZnD
import Derived.Test.YtnjgeljpkblodaaSxAD
noncomputable section
set_option linter.unusedVariables false
set_option linter.unusedVariables false
set_option linter.unusedSimpArgs false
namespace Go.Zn
open Go.Proofs Go.SX
set_option maxRecDepth 100000

/-! bits.Len -/
def cLen : Con := pureCon Int Int (fun x => [.val (.int .u64 x)]) (fun x => 0 ≤ x ∧ x < 256) (fun _ _ => True) (fun _ b => I b)
def len8 : ByteArray := { data := List.toArray (List.append (List.append [0, 1, 2, 2, 3, 3, 3, 3, 4, 4, 4, 4, 4, 4, 4, 4, 5, 5, 5, 5, 5, 5, 5, 5, 5, 5, 5, 5, 5, 5, 5, 5, 6,
  6, 6, 6, 6, 6, 6, 6, 6, 6, 6, 6, 6, 6, 6, 6, 6, 6, 6, 6, 6, 6, 6, 6, 6, 6, 6, 6, 6, 6, 6, 6] [7, 7, 7, 7, 7, 7, 7, 7, 7, 7, 7, 7, 7, 7, 7, 7, 7, 7, 7,
  7, 7, 7, 7, 7, 7, 7, 7, 7, 7, 7, 7, 7, 7, 7, 7, 7, 7, 7, 7, 7, 7, 7, 7, 7, 7, 7, 7, 7, 7, 7, 7, 7, 7, 7, 7, 7, 7, 7, 7, 7, 7, 7, 7, 7]) (List.append
  [8, 8, 8, 8, 8, 8, 8, 8, 8, 8, 8, 8, 8, 8, 8, 8, 8, 8, 8, 8, 8, 8, 8, 8, 8, 8, 8, 8, 8, 8, 8, 8, 8, 8, 8, 8, 8, 8, 8, 8, 8, 8, 8, 8, 8, 8, 8, 8, 8, 8,
  8, 8, 8, 8, 8, 8, 8, 8, 8, 8, 8, 8, 8, 8] [8, 8, 8, 8, 8, 8, 8, 8, 8, 8, 8, 8, 8, 8, 8, 8, 8, 8, 8, 8, 8, 8, 8, 8, 8, 8, 8, 8, 8, 8, 8, 8, 8, 8, 8, 8,
  8, 8, 8, 8, 8, 8, 8, 8, 8, 8, 8, 8, 8, 8, 8, 8, 8, 8, 8, 8, 8, 8, 8, 8, 8, 8, 8, 8])) }
theorem vLen64_eq : (cLen.body (fun g => env [] (noLoops g)) Try.f55) = (∀ (g : Int), (0 : Int) ≤ g ∧ g < (256 : Int) → (decide (g ≥ (4294967296 : Int)) = true → (0 : Int) ≤ (32 : Int) ∧ (decide (Int.fdiv g ((2 : Int) ^ (32 : Nat)) ≥ (65536 : Int)) =
  true → (0 : Int) ≤ (16 : Int) ∧ inK IntKind.i64 ((32 : Int) + (16 : Int)) ∧ (decide (Int.fdiv (Int.fdiv g ((2 : Int) ^ (32 : Nat))) ((2 : Int) ^ (16 : Nat)) ≥ (256 : Int)) = true →
  (0 : Int) ≤ (8 : Int) ∧ inK IntKind.i64 ((32 : Int) + (16 : Int) + (8 : Int)) ∧ inK IntKind.u8 (Int.fdiv (Int.fdiv (Int.fdiv g ((2 : Int) ^ (32 : Nat))) ((2 : Int) ^ (16 : Nat)))
  ((2 : Int) ^ (8 : Nat))) ∧ ((0 : Int) ≤ Int.fdiv (Int.fdiv (Int.fdiv g ((2 : Int) ^ (32 : Nat))) ((2 : Int) ^ (16 : Nat))) ((2 : Int) ^ (8 : Nat)) ∧ Int.fdiv (Int.fdiv (Int.fdiv g
  ((2 : Int) ^ (32 : Nat))) ((2 : Int) ^ (16 : Nat))) ((2 : Int) ^ (8 : Nat)) < (↑(256 : Nat) : Int)) ∧ inK IntKind.i64 (byteAt len8 (Int.toNat (Int.fdiv (Int.fdiv (Int.fdiv g ((2 :
  Int) ^ (32 : Nat))) ((2 : Int) ^ (16 : Nat))) ((2 : Int) ^ (8 : Nat))))) ∧ inK IntKind.i64 ((32 : Int) + (16 : Int) + (8 : Int) + byteAt len8 (Int.toNat (Int.fdiv (Int.fdiv
  (Int.fdiv g ((2 : Int) ^ (32 : Nat))) ((2 : Int) ^ (16 : Nat))) ((2 : Int) ^ (8 : Nat))))) ∧ ∃ (b : Int), True ∧ SV.val (Value.int IntKind.i64 ((32 : Int) + (16 : Int) + (8 : Int)
  + byteAt len8 (Int.toNat (Int.fdiv (Int.fdiv (Int.fdiv g ((2 : Int) ^ (32 : Nat))) ((2 : Int) ^ (16 : Nat))) ((2 : Int) ^ (8 : Nat)))))) = SV.val (Value.int IntKind.i64 b) ∧ (0 :
  Nat) = (0 : Nat) ∧ True) ∧ (decide (Int.fdiv (Int.fdiv g ((2 : Int) ^ (32 : Nat))) ((2 : Int) ^ (16 : Nat)) ≥ (256 : Int)) = false → inK IntKind.u8 (Int.fdiv (Int.fdiv g ((2 : Int)
  ^ (32 : Nat))) ((2 : Int) ^ (16 : Nat))) ∧ ((0 : Int) ≤ Int.fdiv (Int.fdiv g ((2 : Int) ^ (32 : Nat))) ((2 : Int) ^ (16 : Nat)) ∧ Int.fdiv (Int.fdiv g ((2 : Int) ^ (32 : Nat))) ((2
  : Int) ^ (16 : Nat)) < (↑(256 : Nat) : Int)) ∧ inK IntKind.i64 (byteAt len8 (Int.toNat (Int.fdiv (Int.fdiv g ((2 : Int) ^ (32 : Nat))) ((2 : Int) ^ (16 : Nat))))) ∧ inK IntKind.i64
  ((32 : Int) + (16 : Int) + byteAt len8 (Int.toNat (Int.fdiv (Int.fdiv g ((2 : Int) ^ (32 : Nat))) ((2 : Int) ^ (16 : Nat))))) ∧ ∃ (b : Int), True ∧ SV.val (Value.int IntKind.i64
  ((32 : Int) + (16 : Int) + byteAt len8 (Int.toNat (Int.fdiv (Int.fdiv g ((2 : Int) ^ (32 : Nat))) ((2 : Int) ^ (16 : Nat)))))) = SV.val (Value.int IntKind.i64 b) ∧ (0 : Nat) = (0 :
  Nat) ∧ True)) ∧ (decide (Int.fdiv g ((2 : Int) ^ (32 : Nat)) ≥ (65536 : Int)) = false → (decide (Int.fdiv g ((2 : Int) ^ (32 : Nat)) ≥ (256 : Int)) = true → (0 : Int) ≤ (8 : Int) ∧
  inK IntKind.i64 ((32 : Int) + (8 : Int)) ∧ inK IntKind.u8 (Int.fdiv (Int.fdiv g ((2 : Int) ^ (32 : Nat))) ((2 : Int) ^ (8 : Nat))) ∧ ((0 : Int) ≤ Int.fdiv (Int.fdiv g ((2 : Int) ^
  (32 : Nat))) ((2 : Int) ^ (8 : Nat)) ∧ Int.fdiv (Int.fdiv g ((2 : Int) ^ (32 : Nat))) ((2 : Int) ^ (8 : Nat)) < (↑(256 : Nat) : Int)) ∧ inK IntKind.i64 (byteAt len8 (Int.toNat
  (Int.fdiv (Int.fdiv g ((2 : Int) ^ (32 : Nat))) ((2 : Int) ^ (8 : Nat))))) ∧ inK IntKind.i64 ((32 : Int) + (8 : Int) + byteAt len8 (Int.toNat (Int.fdiv (Int.fdiv g ((2 : Int) ^ (32
  : Nat))) ((2 : Int) ^ (8 : Nat))))) ∧ ∃ (b : Int), True ∧ SV.val (Value.int IntKind.i64 ((32 : Int) + (8 : Int) + byteAt len8 (Int.toNat (Int.fdiv (Int.fdiv g ((2 : Int) ^ (32 :
  Nat))) ((2 : Int) ^ (8 : Nat)))))) = SV.val (Value.int IntKind.i64 b) ∧ (0 : Nat) = (0 : Nat) ∧ True) ∧ (decide (Int.fdiv g ((2 : Int) ^ (32 : Nat)) ≥ (256 : Int)) = false → inK
  IntKind.u8 (Int.fdiv g ((2 : Int) ^ (32 : Nat))) ∧ ((0 : Int) ≤ Int.fdiv g ((2 : Int) ^ (32 : Nat)) ∧ Int.fdiv g ((2 : Int) ^ (32 : Nat)) < (↑(256 : Nat) : Int)) ∧ inK IntKind.i64
  (byteAt len8 (Int.toNat (Int.fdiv g ((2 : Int) ^ (32 : Nat))))) ∧ inK IntKind.i64 ((32 : Int) + byteAt len8 (Int.toNat (Int.fdiv g ((2 : Int) ^ (32 : Nat))))) ∧ ∃ (b : Int), True ∧
  SV.val (Value.int IntKind.i64 ((32 : Int) + byteAt len8 (Int.toNat (Int.fdiv g ((2 : Int) ^ (32 : Nat)))))) = SV.val (Value.int IntKind.i64 b) ∧ (0 : Nat) = (0 : Nat) ∧ True))) ∧
  (decide (g ≥ (4294967296 : Int)) = false → (decide (g ≥ (65536 : Int)) = true → (0 : Int) ≤ (16 : Int) ∧ inK IntKind.i64 ((0 : Int) + (16 : Int)) ∧ (decide (Int.fdiv g ((2 : Int) ^
  (16 : Nat)) ≥ (256 : Int)) = true → (0 : Int) ≤ (8 : Int) ∧ inK IntKind.i64 ((0 : Int) + (16 : Int) + (8 : Int)) ∧ inK IntKind.u8 (Int.fdiv (Int.fdiv g ((2 : Int) ^ (16 : Nat)))
  ((2 : Int) ^ (8 : Nat))) ∧ ((0 : Int) ≤ Int.fdiv (Int.fdiv g ((2 : Int) ^ (16 : Nat))) ((2 : Int) ^ (8 : Nat)) ∧ Int.fdiv (Int.fdiv g ((2 : Int) ^ (16 : Nat))) ((2 : Int) ^ (8 :
  Nat)) < (↑(256 : Nat) : Int)) ∧ inK IntKind.i64 (byteAt len8 (Int.toNat (Int.fdiv (Int.fdiv g ((2 : Int) ^ (16 : Nat))) ((2 : Int) ^ (8 : Nat))))) ∧ inK IntKind.i64 ((0 : Int) +
  (16 : Int) + (8 : Int) + byteAt len8 (Int.toNat (Int.fdiv (Int.fdiv g ((2 : Int) ^ (16 : Nat))) ((2 : Int) ^ (8 : Nat))))) ∧ ∃ (b : Int), True ∧ SV.val (Value.int IntKind.i64 ((0 :
  Int) + (16 : Int) + (8 : Int) + byteAt len8 (Int.toNat (Int.fdiv (Int.fdiv g ((2 : Int) ^ (16 : Nat))) ((2 : Int) ^ (8 : Nat)))))) = SV.val (Value.int IntKind.i64 b) ∧ (0 : Nat) =
  (0 : Nat) ∧ True) ∧ (decide (Int.fdiv g ((2 : Int) ^ (16 : Nat)) ≥ (256 : Int)) = false → inK IntKind.u8 (Int.fdiv g ((2 : Int) ^ (16 : Nat))) ∧ ((0 : Int) ≤ Int.fdiv g ((2 : Int)
  ^ (16 : Nat)) ∧ Int.fdiv g ((2 : Int) ^ (16 : Nat)) < (↑(256 : Nat) : Int)) ∧ inK IntKind.i64 (byteAt len8 (Int.toNat (Int.fdiv g ((2 : Int) ^ (16 : Nat))))) ∧ inK IntKind.i64 ((0
  : Int) + (16 : Int) + byteAt len8 (Int.toNat (Int.fdiv g ((2 : Int) ^ (16 : Nat))))) ∧ ∃ (b : Int), True ∧ SV.val (Value.int IntKind.i64 ((0 : Int) + (16 : Int) + byteAt len8
  (Int.toNat (Int.fdiv g ((2 : Int) ^ (16 : Nat)))))) = SV.val (Value.int IntKind.i64 b) ∧ (0 : Nat) = (0 : Nat) ∧ True)) ∧ (decide (g ≥ (65536 : Int)) = false → (decide (g ≥ (256 :
  Int)) = true → (0 : Int) ≤ (8 : Int) ∧ inK IntKind.i64 ((0 : Int) + (8 : Int)) ∧ inK IntKind.u8 (Int.fdiv g ((2 : Int) ^ (8 : Nat))) ∧ ((0 : Int) ≤ Int.fdiv g ((2 : Int) ^ (8 :
  Nat)) ∧ Int.fdiv g ((2 : Int) ^ (8 : Nat)) < (↑(256 : Nat) : Int)) ∧ inK IntKind.i64 (byteAt len8 (Int.toNat (Int.fdiv g ((2 : Int) ^ (8 : Nat))))) ∧ inK IntKind.i64 ((0 : Int) +
  (8 : Int) + byteAt len8 (Int.toNat (Int.fdiv g ((2 : Int) ^ (8 : Nat))))) ∧ ∃ (b : Int), True ∧ SV.val (Value.int IntKind.i64 ((0 : Int) + (8 : Int) + byteAt len8 (Int.toNat
  (Int.fdiv g ((2 : Int) ^ (8 : Nat)))))) = SV.val (Value.int IntKind.i64 b) ∧ (0 : Nat) = (0 : Nat) ∧ True) ∧ (decide (g ≥ (256 : Int)) = false → inK IntKind.u8 g ∧ ((0 : Int) ≤ g ∧
  g < (↑(256 : Nat) : Int)) ∧ inK IntKind.i64 (byteAt len8 (Int.toNat g)) ∧ inK IntKind.i64 ((0 : Int) + byteAt len8 (Int.toNat g)) ∧ ∃ (b : Int), True ∧ SV.val (Value.int
  IntKind.i64 ((0 : Int) + byteAt len8 (Int.toNat g))) = SV.val (Value.int IntKind.i64 b) ∧ (0 : Nat) = (0 : Nat) ∧ True)))) := by kernel_rfl
theorem vLen_eq : (cLen.body (fun g => env [(55, cLen)] (noLoops g)) Try.f42) = (∀ (g : Int), (0 : Int) ≤ g ∧ g < (256 : Int) → ∃ (g_1 : Int), SV.val (Value.int IntKind.u64 g) = SV.val (Value.int IntKind.u64 g_1) ∧ True ∧ ((0 : Int) ≤ g_1 ∧ g_1 < (256 : Int)) ∧
  ∀ (b : Int), True → ∃ (b_1 : Int), True ∧ SV.val (Value.int IntKind.i64 b) = SV.val (Value.int IntKind.i64 b_1) ∧ (0 : Nat) = (0 : Nat) ∧ True) := by kernel_rfl

/-! the two orders -/
structure GR where
  l : List Z
  node : Int
def dGR : GR := ⟨[], 0⟩
def encZl (l : List Z) : List SV := [roZ l]
def encR (g : GR) : List SV := [.clo 31 [.rop Int 0 encI [g.node] 0 0, .rop (List Z) [] encZl [g.l] 0 0]]
def bxI (n : Int) : SV := .rop Int 0 encI [n] 0 0
def bxZ (l : List Z) : SV := .rop (List Z) [] encZl [l] 0 0
def bxR (g : GR) : SV := .rop GR dGR encR [g] 0 0
def cfN (node a b : Int) : Int := compareInt (keyI node a) (keyI node b)
structure G27 where
  a : Int
  b : Int
  node : Int
def c27 : Con := pureCon G27 Unit (fun g => [I g.a, I g.b, bxI g.node]) (fun g => small g.a ∧ small g.b ∧ small g.node) (fun _ _ => True) (fun g _ => I (cfN g.node g.a g.b))
theorem v27_eq : (c27.body (fun g => env [(29, cKey), (28, cCmp)] (noLoops g)) Try.f27) = (∀ (g : G27), small (G27.a g) ∧ small (G27.b g) ∧ small (G27.node g) → (0 : Nat) < (1 : Nat) ∧ (0 : Nat) < (1 : Nat) ∧ ∃ (g_1 : Int × Int), (SV.val (Value.int IntKind.i64 (List.getD
  [G27.node g] (0 : Nat) (0 : Int))) = SV.val (Value.int IntKind.i64 (Prod.fst g_1)) ∧ SV.val (Value.int IntKind.i64 (G27.a g)) = SV.val (Value.int IntKind.i64 (Prod.snd g_1))) ∧
  True ∧ (small (Prod.fst g_1) ∧ small (Prod.snd g_1)) ∧ ∀ (b : Unit), True → ∃ (g_2 : Int × Int), (SV.val (Value.int IntKind.i64 (List.getD [G27.node g] (0 : Nat) (0 : Int))) =
  SV.val (Value.int IntKind.i64 (Prod.fst g_2)) ∧ SV.val (Value.int IntKind.i64 (G27.b g)) = SV.val (Value.int IntKind.i64 (Prod.snd g_2))) ∧ True ∧ (small (Prod.fst g_2) ∧ small
  (Prod.snd g_2)) ∧ ∀ (b : Unit), True → ∃ (g_3 : Int × Int), (SV.val (Value.int IntKind.i64 (keyI (Prod.fst g_1) (Prod.snd g_1))) = SV.val (Value.int IntKind.i64 (Prod.fst g_3)) ∧
  SV.val (Value.int IntKind.i64 (keyI (Prod.fst g_2) (Prod.snd g_2))) = SV.val (Value.int IntKind.i64 (Prod.snd g_3))) ∧ True ∧ True ∧ ∀ (b : Unit), True → ∃ (b : Unit), True ∧
  SV.val (Value.int IntKind.i64 (compareInt (Prod.fst g_3) (Prod.snd g_3))) = SV.val (Value.int IntKind.i64 (cfN (G27.node g) (G27.a g) (G27.b g))) ∧ (0 : Nat) = (0 : Nat) ∧ True) := by kernel_rfl
def rankI (g : GR) (i : Int) : Int := if (g.l.getD i.toNat dZ).kind = 0 then 2 * keyI g.node (g.l.getD i.toNat dZ).node + 1 else 2 * keyI g.node (g.l.getD i.toNat dZ).node
structure G31 where
  g : GR
  i : Int
def okR (g : GR) : Prop := small g.node ∧ ∀ z ∈ g.l, small z.node
def c31 : Con := pureCon G31 Unit (fun g => [I g.i, bxI g.g.node, bxZ g.g.l]) (fun g => okR g.g ∧ 0 ≤ g.i ∧ g.i < g.g.l.length) (fun _ _ => True) (fun g _ => I (rankI g.g g.i))
theorem v31_eq : (c31.body (fun g => env [(29, cKey)] (noLoops g)) Try.f31) = (∀ (g : G31), okR (G31.g g) ∧ (0 : Int) ≤ G31.i g ∧ G31.i g < (↑(List.length (GR.l (G31.g g))) : Int) → (0 : Nat) < (1 : Nat) ∧ (0 : Nat) < (1 : Nat) ∧ ((0 : Int) ≤ G31.i g ∧ G31.i
  g < (↑(List.length (List.getD [GR.l (G31.g g)] (0 : Nat) [])) : Int)) ∧ Int.toNat (G31.i g) < List.length (List.getD [GR.l (G31.g g)] (0 : Nat) []) ∧ ∃ (g_1 : Int × Int), (SV.val
  (Value.int IntKind.i64 (List.getD [GR.node (G31.g g)] (0 : Nat) (0 : Int))) = SV.val (Value.int IntKind.i64 (Prod.fst g_1)) ∧ SV.val (Value.int IntKind.i64 (Z.node (List.getD
  (List.getD [GR.l (G31.g g)] (0 : Nat) []) (Int.toNat (G31.i g)) dZ))) = SV.val (Value.int IntKind.i64 (Prod.snd g_1))) ∧ True ∧ (small (Prod.fst g_1) ∧ small (Prod.snd g_1)) ∧ ∀ (b
  : Unit), True → inK IntKind.i64 ((2 : Int) * keyI (Prod.fst g_1) (Prod.snd g_1)) ∧ (0 : Nat) < (1 : Nat) ∧ ((0 : Int) ≤ G31.i g ∧ G31.i g < (↑(List.length (List.getD [GR.l (G31.g
  g)] (0 : Nat) [])) : Int)) ∧ Int.toNat (G31.i g) < List.length (List.getD [GR.l (G31.g g)] (0 : Nat) []) ∧ ((Z.kind (List.getD (List.getD [GR.l (G31.g g)] (0 : Nat) []) (Int.toNat
  (G31.i g)) dZ) == (0 : Int)) = true → inK IntKind.i64 ((2 : Int) * keyI (Prod.fst g_1) (Prod.snd g_1) + (1 : Int)) ∧ ∃ (b : Unit), True ∧ SV.val (Value.int IntKind.i64 ((2 : Int) *
  keyI (Prod.fst g_1) (Prod.snd g_1) + (1 : Int))) = SV.val (Value.int IntKind.i64 (rankI (G31.g g) (G31.i g))) ∧ (0 : Nat) = (0 : Nat) ∧ True) ∧ ((Z.kind (List.getD (List.getD [GR.l
  (G31.g g)] (0 : Nat) []) (Int.toNat (G31.i g)) dZ) == (0 : Int)) = false → ∃ (b : Unit), True ∧ SV.val (Value.int IntKind.i64 ((2 : Int) * keyI (Prod.fst g_1) (Prod.snd g_1))) =
  SV.val (Value.int IntKind.i64 (rankI (G31.g g) (G31.i g))) ∧ (0 : Nat) = (0 : Nat) ∧ True)) := by kernel_rfl
def cfO (g : GR) (a b : Int) : Int := compareInt (rankI g a) (rankI g b)
structure G33 where
  g : GR
  a : Int
  b : Int
def c33 : Con := pureCon G33 Unit (fun g => [I g.a, I g.b, bxR g.g]) (fun g => okR g.g ∧ (0 ≤ g.a ∧ g.a < g.g.l.length) ∧ (0 ≤ g.b ∧ g.b < g.g.l.length)) (fun _ _ => True) (fun g _ => I (cfO g.g g.a g.b))
theorem v33_eq : (c33.body (fun g => env [(31, c31), (28, cCmp)] (noLoops g)) Try.f33) = (∀ (g : G33), okR (G33.g g) ∧ ((0 : Int) ≤ G33.a g ∧ G33.a g < (↑(List.length (GR.l (G33.g g))) : Int)) ∧ (0 : Int) ≤ G33.b g ∧ G33.b g < (↑(List.length (GR.l (G33.g g))) : Int) →
  ((0 : Nat) < (1 : Nat) ∧ (∃ (g_1 : G31), (SV.val (Value.int IntKind.i64 (G33.a g)) = SV.val (Value.int IntKind.i64 (G31.i g_1)) ∧ SV.rop Int (0 : Int) encI [GR.node (List.getD
  [G33.g g] (0 : Nat) dGR)] (0 : Nat) (0 : Nat) = SV.rop Int (0 : Int) encI [GR.node (G31.g g_1)] (0 : Nat) (0 : Nat) ∧ SV.rop (List Z) [] encZl [GR.l (List.getD [G33.g g] (0 : Nat)
  dGR)] (0 : Nat) (0 : Nat) = SV.rop (List Z) [] encZl [GR.l (G31.g g_1)] (0 : Nat) (0 : Nat)) ∧ True ∧ (okR (G31.g g_1) ∧ (0 : Int) ≤ G31.i g_1 ∧ G31.i g_1 < (↑(List.length (GR.l
  (G31.g g_1))) : Int)) ∧ ∀ (b : Unit), True → (0 : Nat) < (1 : Nat) ∧ ∃ (g_2 : G31), (SV.val (Value.int IntKind.i64 (G33.b g)) = SV.val (Value.int IntKind.i64 (G31.i g_2)) ∧ SV.rop
  Int (0 : Int) encI [GR.node (List.getD [G33.g g] (0 : Nat) dGR)] (0 : Nat) (0 : Nat) = SV.rop Int (0 : Int) encI [GR.node (G31.g g_2)] (0 : Nat) (0 : Nat) ∧ SV.rop (List Z) []
  encZl [GR.l (List.getD [G33.g g] (0 : Nat) dGR)] (0 : Nat) (0 : Nat) = SV.rop (List Z) [] encZl [GR.l (G31.g g_2)] (0 : Nat) (0 : Nat)) ∧ True ∧ (okR (G31.g g_2) ∧ (0 : Int) ≤
  G31.i g_2 ∧ G31.i g_2 < (↑(List.length (GR.l (G31.g g_2))) : Int)) ∧ ∀ (b : Unit), True → ∃ (g_3 : Int × Int), (SV.val (Value.int IntKind.i64 (rankI (G31.g g_1) (G31.i g_1))) =
  SV.val (Value.int IntKind.i64 (Prod.fst g_3)) ∧ SV.val (Value.int IntKind.i64 (rankI (G31.g g_2) (G31.i g_2))) = SV.val (Value.int IntKind.i64 (Prod.snd g_3))) ∧ True ∧ True ∧ ∀ (b
  : Unit), True → ∃ (b : Unit), True ∧ SV.val (Value.int IntKind.i64 (compareInt (Prod.fst g_3) (Prod.snd g_3))) = SV.val (Value.int IntKind.i64 (cfO (G33.g g) (G33.a g) (G33.b g)))
  ∧ (0 : Nat) = (0 : Nat) ∧ True) ∧ (0 : Nat) < (1 : Nat) ∧ ∃ (g_1 : G31), (SV.val (Value.int IntKind.i64 (G33.a g)) = SV.val (Value.int IntKind.i64 (G31.i g_1)) ∧ SV.rop Int (0 :
  Int) encI [GR.node (List.getD [G33.g g] (0 : Nat) dGR)] (0 : Nat) (0 : Nat) = SV.rop Int (0 : Int) encI [GR.node (G31.g g_1)] (0 : Nat) (0 : Nat) ∧ SV.rop (List Z) [] encZl [GR.l
  (List.getD [G33.g g] (0 : Nat) dGR)] (0 : Nat) (0 : Nat) = SV.rop (List Z) [] encZl [GR.l (G31.g g_1)] (0 : Nat) (0 : Nat)) ∧ True ∧ (okR (G31.g g_1) ∧ (0 : Int) ≤ G31.i g_1 ∧
  G31.i g_1 < (↑(List.length (GR.l (G31.g g_1))) : Int)) ∧ ∀ (b : Unit), True → ∃ (g_2 : G31), (SV.val (Value.int IntKind.i64 (G33.b g)) = SV.val (Value.int IntKind.i64 (G31.i g_2))
  ∧ SV.rop Int (0 : Int) encI [GR.node (List.getD [G33.g g] (0 : Nat) dGR)] (0 : Nat) (0 : Nat) = SV.rop Int (0 : Int) encI [GR.node (G31.g g_2)] (0 : Nat) (0 : Nat) ∧ SV.rop (List
  Z) [] encZl [GR.l (List.getD [G33.g g] (0 : Nat) dGR)] (0 : Nat) (0 : Nat) = SV.rop (List Z) [] encZl [GR.l (G31.g g_2)] (0 : Nat) (0 : Nat)) ∧ True ∧ (okR (G31.g g_2) ∧ (0 : Int)
  ≤ G31.i g_2 ∧ G31.i g_2 < (↑(List.length (GR.l (G31.g g_2))) : Int)) ∧ ∀ (b : Unit), True → ∃ (g_3 : Int × Int), (SV.val (Value.int IntKind.i64 (rankI (G31.g g_1) (G31.i g_1))) =
  SV.val (Value.int IntKind.i64 (Prod.fst g_3)) ∧ SV.val (Value.int IntKind.i64 (rankI (G31.g g_2) (G31.i g_2))) = SV.val (Value.int IntKind.i64 (Prod.snd g_3))) ∧ True ∧ True ∧ ∀ (b
  : Unit), True → ∃ (b : Unit), True ∧ SV.val (Value.int IntKind.i64 (compareInt (Prod.fst g_3) (Prod.snd g_3))) = SV.val (Value.int IntKind.i64 (cfO (G33.g g) (G33.a g) (G33.b g)))
  ∧ (0 : Nat) = (0 : Nat) ∧ True) ∧ (0 : Nat) < (1 : Nat) ∧ (0 : Nat) < (1 : Nat) ∧ ∃ (g_1 : G31), (SV.val (Value.int IntKind.i64 (G33.a g)) = SV.val (Value.int IntKind.i64 (G31.i
  g_1)) ∧ SV.rop Int (0 : Int) encI [GR.node (List.getD [G33.g g] (0 : Nat) dGR)] (0 : Nat) (0 : Nat) = SV.rop Int (0 : Int) encI [GR.node (G31.g g_1)] (0 : Nat) (0 : Nat) ∧ SV.rop
  (List Z) [] encZl [GR.l (List.getD [G33.g g] (0 : Nat) dGR)] (0 : Nat) (0 : Nat) = SV.rop (List Z) [] encZl [GR.l (G31.g g_1)] (0 : Nat) (0 : Nat)) ∧ True ∧ (okR (G31.g g_1) ∧ (0 :
  Int) ≤ G31.i g_1 ∧ G31.i g_1 < (↑(List.length (GR.l (G31.g g_1))) : Int)) ∧ ∀ (b : Unit), True → ∃ (g_2 : G31), (SV.val (Value.int IntKind.i64 (G33.b g)) = SV.val (Value.int
  IntKind.i64 (G31.i g_2)) ∧ SV.rop Int (0 : Int) encI [GR.node (List.getD [G33.g g] (0 : Nat) dGR)] (0 : Nat) (0 : Nat) = SV.rop Int (0 : Int) encI [GR.node (G31.g g_2)] (0 : Nat)
  (0 : Nat) ∧ SV.rop (List Z) [] encZl [GR.l (List.getD [G33.g g] (0 : Nat) dGR)] (0 : Nat) (0 : Nat) = SV.rop (List Z) [] encZl [GR.l (G31.g g_2)] (0 : Nat) (0 : Nat)) ∧ True ∧ (okR
  (G31.g g_2) ∧ (0 : Int) ≤ G31.i g_2 ∧ G31.i g_2 < (↑(List.length (GR.l (G31.g g_2))) : Int)) ∧ ∀ (b : Unit), True → ∃ (g_3 : Int × Int), (SV.val (Value.int IntKind.i64 (rankI
  (G31.g g_1) (G31.i g_1))) = SV.val (Value.int IntKind.i64 (Prod.fst g_3)) ∧ SV.val (Value.int IntKind.i64 (rankI (G31.g g_2) (G31.i g_2))) = SV.val (Value.int IntKind.i64 (Prod.snd
  g_3))) ∧ True ∧ True ∧ ∀ (b : Unit), True → ∃ (b : Unit), True ∧ SV.val (Value.int IntKind.i64 (compareInt (Prod.fst g_3) (Prod.snd g_3))) = SV.val (Value.int IntKind.i64 (cfO
  (G33.g g) (G33.a g) (G33.b g))) ∧ (0 : Nat) = (0 : Nat) ∧ True) := by kernel_rfl

theorem byteAt_range (s : ByteArray) (n : Nat) : 0 ≤ byteAt s n ∧ byteAt s n ≤ 255 := by
  unfold byteAt
  split
  · rename_i b _
    have := b.toNat_lt
    omega
  · omega
theorem vLen64 : cLen.body (fun g => env [] (noLoops g)) Try.f55 := by
  rw [vLen64_eq]
  rintro g ⟨h1, h2⟩
  have hb := byteAt_range len8 g.toNat
  exact ⟨fun h => absurd (of_decide_eq_true h) (by omega), fun _ => ⟨fun h => absurd (of_decide_eq_true h) (by omega), fun _ => ⟨fun h => absurd (of_decide_eq_true h) (by omega), fun _ => ⟨⟨by simp only [lo]; omega, by simp only [hi]; omega⟩, ⟨h1, h2⟩, inI (by omega) (by omega), inI (by omega) (by omega), _, trivial, rfl, rfl, trivial⟩⟩⟩⟩
theorem vLen : cLen.body (fun g => env [(55, cLen)] (noLoops g)) Try.f42 := by
  rw [vLen_eq]
  exact fun g h => ⟨g, rfl, trivial, h, fun b _ => ⟨b, trivial, rfl, rfl, trivial⟩⟩
theorem v27 : c27.body (fun g => env [(29, cKey), (28, cCmp)] (noLoops g)) Try.f27 := by
  rw [v27_eq]
  rintro ⟨a, b, node⟩ ⟨h1, h2, h3⟩
  exact ⟨by decide, by decide, (node, a), ⟨rfl, rfl⟩, trivial, ⟨h3, h1⟩, fun _ _ => ⟨(node, b), ⟨rfl, rfl⟩, trivial, ⟨h3, h2⟩, fun _ _ => ⟨(keyI node a, keyI node b), ⟨rfl, rfl⟩, trivial, trivial, fun _ _ => ⟨(), trivial, rfl, rfl, trivial⟩⟩⟩⟩
theorem keyI_range {a b : Int} (h1 : small a) (h2 : small b) : 0 ≤ keyI a b ∧ keyI a b ≤ 4001 := by
  unfold small at h1 h2; unfold keyI; split <;> omega
theorem v31 : c31.body (fun g => env [(29, cKey)] (noLoops g)) Try.f31 := by
  rw [v31_eq]
  rintro ⟨⟨l, node⟩, i⟩ ⟨⟨h1, h2⟩, h3, h4⟩
  dsimp only at h1 h2 h3 h4
  have hz := h2 _ (getD_mem (d := dZ) (show i.toNat < l.length by omega))
  have hk := keyI_range h1 hz
  refine ⟨by decide, by decide, ⟨h3, h4⟩, (show i.toNat < l.length by omega), (node, (l.getD i.toNat dZ).node), ⟨rfl, rfl⟩, trivial, ⟨h1, hz⟩, fun _ _ => ⟨inI (by dsimp only; omega) (by dsimp only; omega), by decide, ⟨h3, h4⟩, (show i.toNat < l.length by omega), fun h => ⟨inI (by dsimp only; omega) (by dsimp only; omega), (), trivial, ?_, rfl, trivial⟩, fun h => ⟨(), trivial, ?_, rfl, trivial⟩⟩⟩
  · have h : (l.getD i.toNat dZ).kind = 0 := by simpa using h
    rw [rankI, if_pos h]
  · have h : ¬ (l.getD i.toNat dZ).kind = 0 := by simpa using h
    rw [rankI, if_neg h]
theorem v33 : c33.body (fun g => env [(31, c31), (28, cCmp)] (noLoops g)) Try.f33 := by
  rw [v33_eq]
  rintro ⟨g, a, b⟩ ⟨hg, ha, hb⟩
  repeat' first
    | exact Nat.zero_lt_one
    | exact ⟨⟨g, a⟩, ⟨rfl, rfl, rfl⟩, trivial, ⟨hg, ha⟩, fun _ _ => ⟨Nat.zero_lt_one, ⟨⟨g, b⟩, ⟨rfl, rfl, rfl⟩, trivial, ⟨hg, hb⟩, fun _ _ => ⟨(rankI g a, rankI g b), ⟨rfl, rfl⟩, trivial, trivial, fun _ _ => ⟨(), trivial, rfl, rfl, trivial⟩⟩⟩⟩⟩
    | exact ⟨⟨g, a⟩, ⟨rfl, rfl, rfl⟩, trivial, ⟨hg, ha⟩, fun _ _ => ⟨⟨g, b⟩, ⟨rfl, rfl, rfl⟩, trivial, ⟨hg, hb⟩, fun _ _ => ⟨(rankI g a, rankI g b), ⟨rfl, rfl⟩, trivial, trivial, fun _ _ => ⟨(), trivial, rfl, rfl, trivial⟩⟩⟩⟩
    | refine And.intro ?_ ?_
theorem sLen64 : SpecOk P 55 cLen.spec := spec_of cLen (tab_nil P) mixed (fn := Try.f55) (by kernel_rfl) (by kernel_rfl) (by kernel_rfl) (Nat.zero_le _) (noIns fun _ => rfl) vLen64
theorem sLen : SpecOk P 42 cLen.spec := spec_of cLen (tab_cons sLen64 (tab_nil P)) mixed (fn := Try.f42) (by kernel_rfl) (by kernel_rfl) (by kernel_rfl) (Nat.zero_le _) (noIns fun _ => rfl) vLen
theorem s27 : SpecOk P 27 c27.spec := spec_of c27 (tab_cons sKey (tab_cons sCmp (tab_nil P))) mixed (fn := Try.f27) (by kernel_rfl) (by kernel_rfl) (by kernel_rfl) (Nat.zero_le _) (noIns fun _ => rfl) v27
theorem s31 : SpecOk P 31 c31.spec := spec_of c31 (tab_cons sKey (tab_nil P)) mixed (fn := Try.f31) (by kernel_rfl) (by kernel_rfl) (by kernel_rfl) (Nat.zero_le _) (noIns fun _ => rfl) v31
theorem s33 : SpecOk P 33 c33.spec := spec_of c33 (tab_cons s31 (tab_cons sCmp (tab_nil P))) mixed (fn := Try.f33) (by kernel_rfl) (by kernel_rfl) (by kernel_rfl) (Nat.zero_le _) (noIns fun _ => rfl) v33
end Go.Zn
