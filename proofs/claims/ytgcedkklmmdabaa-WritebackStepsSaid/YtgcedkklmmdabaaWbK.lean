/- A PART OF THE PROOF. NO CONDITION. -/
import Derived.Test.YtgcedkklmmdabaaWbJ
import Derived.RangeFuncLeaves
import Derived.Test.YtgcedkklmmdabaaSxAD
noncomputable section
set_option linter.unusedVariables false
set_option linter.unusedVariables false
set_option linter.unusedSimpArgs false
namespace Go.Wb
open Go.Proofs Go.SX
set_option maxRecDepth 100000

/-! the range over the runs, as slices.AppendSeq makes it -/
def rfOf : Code → Option (Array Tmp × Code × Code)
  | .rangeFunc _ ps a b => some (ps, a, b)
  | .seq a b => match rfOf a with | some r => some r | none => rfOf b
  | .block _ c => rfOf c
  | _ => none
@[irreducible] def rf52 : Array Tmp × Code × Code := match Try.f52.body with
  | some c => match rfOf c with | some r => r | none => (#[], .skip, .skip)
  | none => (#[], .skip, .skip)
def inner : Code → Code
  | .block _ c => c
  | c => c
def encBox (l : List PL) : List SV := [.ro PL dPL encPL l]
abbrev bxL (l : List PL) : SV := .rop (List PL) [] encBox [l] 0 0
abbrev bxI (x : Int) : SV := .rop Int 0 encI [x] 0 0
abbrev yv (l : Nat) : Value := .func (.yield l) #[] #[]
def mkLoop (s : LoopState) (fn D : Nat) (vs : Array Value) : Obj := .loop { state := s, pending := none, fn := fn, tmps := vs, params := rf52.1, assign := rf52.2.1, body := rf52.2.2, defers := D }
def rcS : List SV := [.val (.slice none 0 0), .any, .ptr 0 0, .any, .val (.slice none 0 0), .any, .any, .any, .any, .any, .any, .any, .any]
def BJ (s : LoopState) (l D fn k1 : Nat) (pre : List DR) : Bl := [(0, .cells [.sl k1 3 0 pre.length]), (1, .objAt l rcS (mkLoop s fn D)), (2, .objAt D [] (fun _ => .deferred (some []))), (k1, .arr DR dDR encDR pre)]
def ysp (l D fn : Nat) (l' : Nat) : SX.Spec := fun kd args B K => ∃ (k1 : Nat) (pre : List DR) (x : DR), l' = l ∧ args = [.agg (encDR x)] ∧ B = BJ .ready l D fn k1 pre ∧ 3 ≤ k1 ∧ 3 ≤ kd ∧ pre.length ≤ 1000 ∧ K (.val (.bool true)) (BJ .ready l D fn kd (pre ++ [x]))
def envYY (loops : Loops) (y : Nat → SX.Spec) : Env := { envOf P encs [] loops with yield := fun l' => some (y l') }
structure G53 where
  S : List PL
  most : Int
  l : Nat
  D : Nat
  fn : Nat
structure J53 where
  i : Nat
  acc : List DR
def chS (g : G53) (i : Nat) : List DR := chop g.most.toNat g.S.length (g.S.drop i)
def l53 (g : G53) : Loops := fun id st => match Nat.beq id 0, Nat.beq id 2 with
  | true, _ => some { γ := J53, slots := [4], vals := fun _ q => [I q.i], rekeyB := [(0, 0)], blks := fun b q => [(0, .cells [.sl b 3 0 q.acc.length]), (b, .arr DR dDR encDR q.acc)], inv := fun q => q.i ≤ g.S.length ∧ q.acc ++ chS g q.i = chS g 0 ∧ q.acc.length ≤ q.i, μ := fun q => g.S.length - q.i }
  | _, true => withInt st 4 fun i => some { γ := Nat, slots := [5], vals := fun _ n => [I n], inv := fun n => 1 ≤ n ∧ n ≤ runP (g.S.drop i.toNat) (g.S.getD i.toNat dPL).file (g.S.getD i.toNat dPL).index g.most.toNat, μ := fun n => g.S.length - n }
  | _, _ => none
theorem v53_eq : (∀ g : G53, (g.S.length ≤ 1000 ∧ 1 ≤ g.most ∧ g.most ≤ 9223372036854775807 ∧ ∀ p ∈ g.S, 0 ≤ p.index ∧ p.index ≤ 1000) → vcOf (envYY (l53 g) (ysp g.l g.D g.fn)) Try.f53 8 [.val (yv g.l), bxL g.S, bxI g.most] (BJ .ready g.l g.D g.fn 3 []) fun _ B' => ∃ k, 3 ≤ k ∧ B' = BJ .ready g.l g.D g.fn k (chS g 0)) = (∀ (g : G53), (List.length (G53.S g) ≤ (1000 : Nat) ∧ (1 : Int) ≤ G53.most g ∧ G53.most g ≤ (9223372036854775807 : Int) ∧ ∀ (p : PL), p ∈ G53.S g → (0 : Int) ≤ PL.index p ∧ PL.index
  p ≤ (1000 : Int)) → (∃ (g_1 : J53), (J53.i g_1 ≤ List.length (G53.S g) ∧ J53.acc g_1 ++ chS g (J53.i g_1) = chS g (0 : Nat) ∧ List.length (J53.acc g_1) ≤ J53.i g_1) ∧ (0 : Int) =
  (↑(J53.i g_1) : Int) ∧ (((3 : Nat) = (3 : Nat) ∧ (0 : Nat) = (0 : Nat) ∧ (0 : Nat) = List.length (J53.acc g_1)) ∧ LB.arr DR dDR encDR [] = LB.arr DR dDR encDR (J53.acc g_1) ∧ True)
  ∧ LB.objAt (G53.l g) [SV.val (Value.slice none (0 : Nat) (0 : Nat)), SV.any, SV.ptr (0 : Nat) (0 : Nat), SV.any, SV.val (Value.slice none (0 : Nat) (0 : Nat)), SV.any, SV.any,
  SV.any, SV.any, SV.any, SV.any, SV.any, SV.any] (mkLoop LoopState.ready (G53.fn g) (G53.D g)) = LB.objAt (G53.l g) [SV.val (Value.slice none (0 : Nat) (0 : Nat)), SV.any, SV.ptr (0
  : Nat) (0 : Nat), SV.any, SV.val (Value.slice none (0 : Nat) (0 : Nat)), SV.any, SV.any, SV.any, SV.any, SV.any, SV.any, SV.any, SV.any] (mkLoop LoopState.ready (G53.fn g) (G53.D
  g)) ∧ ((LB.objAt (G53.D g) [] fun (x : Array Value) => Obj.deferred (some [])) = LB.objAt (G53.D g) [] fun (x : Array Value) => Obj.deferred (some [])) ∧ True) ∧ ∀ (g_1 : J53),
  J53.i g_1 ≤ List.length (G53.S g) ∧ J53.acc g_1 ++ chS g (J53.i g_1) = chS g (0 : Nat) ∧ List.length (J53.acc g_1) ≤ J53.i g_1 → (0 : Nat) < (1 : Nat) ∧ (decide ((↑(J53.i g_1) :
  Int) < (↑(List.length (List.getD [G53.S g] (0 : Nat) [])) : Int)) = true → (∃ (g_2 : Nat), ((1 : Nat) ≤ g_2 ∧ g_2 ≤ runP (List.drop (Int.toNat (↑(J53.i g_1) : Int)) (G53.S g))
  (PL.file (List.getD (G53.S g) (Int.toNat (↑(J53.i g_1) : Int)) dPL)) (PL.index (List.getD (G53.S g) (Int.toNat (↑(J53.i g_1) : Int)) dPL)) (Int.toNat (G53.most g))) ∧ (1 : Int) =
  (↑g_2 : Int) ∧ True ∧ LB.cells [SV.sl (16 : Nat) (3 : Nat) (0 : Nat) (List.length (J53.acc g_1))] = LB.cells [SV.sl (16 : Nat) (3 : Nat) (0 : Nat) (List.length (J53.acc g_1))] ∧
  LB.objAt (G53.l g) [SV.val (Value.slice none (0 : Nat) (0 : Nat)), SV.any, SV.ptr (0 : Nat) (0 : Nat), SV.any, SV.val (Value.slice none (0 : Nat) (0 : Nat)), SV.any, SV.any,
  SV.any, SV.any, SV.any, SV.any, SV.any, SV.any] (mkLoop LoopState.ready (G53.fn g) (G53.D g)) = LB.objAt (G53.l g) [SV.val (Value.slice none (0 : Nat) (0 : Nat)), SV.any, SV.ptr (0
  : Nat) (0 : Nat), SV.any, SV.val (Value.slice none (0 : Nat) (0 : Nat)), SV.any, SV.any, SV.any, SV.any, SV.any, SV.any, SV.any, SV.any] (mkLoop LoopState.ready (G53.fn g) (G53.D
  g)) ∧ ((LB.objAt (G53.D g) [] fun (x : Array Value) => Obj.deferred (some [])) = LB.objAt (G53.D g) [] fun (x : Array Value) => Obj.deferred (some [])) ∧ LB.arr DR dDR encDR
  (J53.acc g_1) = LB.arr DR dDR encDR (J53.acc g_1) ∧ True) ∧ ∀ (g_2 : Nat), (1 : Nat) ≤ g_2 ∧ g_2 ≤ runP (List.drop (Int.toNat (↑(J53.i g_1) : Int)) (G53.S g)) (PL.file (List.getD
  (G53.S g) (Int.toNat (↑(J53.i g_1) : Int)) dPL)) (PL.index (List.getD (G53.S g) (Int.toNat (↑(J53.i g_1) : Int)) dPL)) (Int.toNat (G53.most g)) → (0 : Nat) < (1 : Nat) ∧ (decide
  ((↑g_2 : Int) < List.getD [G53.most g] (0 : Nat) (0 : Int)) = true → inK IntKind.i64 ((↑(J53.i g_1) : Int) + (↑g_2 : Int)) ∧ (0 : Nat) < (1 : Nat) ∧ (decide ((↑(J53.i g_1) : Int) +
  (↑g_2 : Int) < (↑(List.length (List.getD [G53.S g] (0 : Nat) [])) : Int)) = true → (0 : Nat) < (1 : Nat) ∧ inK IntKind.i64 ((↑(J53.i g_1) : Int) + (↑g_2 : Int)) ∧ ((0 : Int) ≤
  (↑(J53.i g_1) : Int) + (↑g_2 : Int) ∧ (↑(J53.i g_1) : Int) + (↑g_2 : Int) < (↑(List.length (List.getD [G53.S g] (0 : Nat) [])) : Int)) ∧ Int.toNat ((↑(J53.i g_1) : Int) + (↑g_2 :
  Int)) < List.length (List.getD [G53.S g] (0 : Nat) []) ∧ (0 : Nat) < (1 : Nat) ∧ ((0 : Int) ≤ (↑(J53.i g_1) : Int) ∧ (↑(J53.i g_1) : Int) < (↑(List.length (List.getD [G53.S g] (0 :
  Nat) [])) : Int)) ∧ Int.toNat (↑(J53.i g_1) : Int) < List.length (List.getD [G53.S g] (0 : Nat) []) ∧ (0 : Nat) < (1 : Nat) ∧ ((0 : Int) ≤ (↑(J53.i g_1) : Int) ∧ (↑(J53.i g_1) :
  Int) < (↑(List.length (List.getD [G53.S g] (0 : Nat) [])) : Int)) ∧ Int.toNat (↑(J53.i g_1) : Int) < List.length (List.getD [G53.S g] (0 : Nat) []) ∧ inK IntKind.i64 (PL.index
  (List.getD (List.getD [G53.S g] (0 : Nat) []) (Int.toNat (↑(J53.i g_1) : Int)) dPL) + (↑g_2 : Int)) ∧ ((PL.file (List.getD (List.getD [G53.S g] (0 : Nat) []) (Int.toNat ((↑(J53.i
  g_1) : Int) + (↑g_2 : Int))) dPL) == PL.file (List.getD (List.getD [G53.S g] (0 : Nat) []) (Int.toNat (↑(J53.i g_1) : Int)) dPL) && (PL.index (List.getD (List.getD [G53.S g] (0 :
  Nat) []) (Int.toNat ((↑(J53.i g_1) : Int) + (↑g_2 : Int))) dPL) == PL.index (List.getD (List.getD [G53.S g] (0 : Nat) []) (Int.toNat (↑(J53.i g_1) : Int)) dPL) + (↑g_2 : Int) &&
  true)) = true → inK IntKind.i64 ((↑g_2 : Int) + (1 : Int)) ∧ ∃ (g' : Nat), ((1 : Nat) ≤ g' ∧ g' ≤ runP (List.drop (Int.toNat (↑(J53.i g_1) : Int)) (G53.S g)) (PL.file (List.getD
  (G53.S g) (Int.toNat (↑(J53.i g_1) : Int)) dPL)) (PL.index (List.getD (G53.S g) (Int.toNat (↑(J53.i g_1) : Int)) dPL)) (Int.toNat (G53.most g))) ∧ List.length (G53.S g) - g' <
  List.length (G53.S g) - g_2 ∧ (↑g_2 : Int) + (1 : Int) = (↑g' : Int) ∧ True ∧ LB.cells [SV.sl (16 : Nat) (3 : Nat) (0 : Nat) (List.length (J53.acc g_1))] = LB.cells [SV.sl (16 :
  Nat) (3 : Nat) (0 : Nat) (List.length (J53.acc g_1))] ∧ LB.objAt (G53.l g) [SV.val (Value.slice none (0 : Nat) (0 : Nat)), SV.any, SV.ptr (0 : Nat) (0 : Nat), SV.any, SV.val
  (Value.slice none (0 : Nat) (0 : Nat)), SV.any, SV.any, SV.any, SV.any, SV.any, SV.any, SV.any, SV.any] (mkLoop LoopState.ready (G53.fn g) (G53.D g)) = LB.objAt (G53.l g) [SV.val
  (Value.slice none (0 : Nat) (0 : Nat)), SV.any, SV.ptr (0 : Nat) (0 : Nat), SV.any, SV.val (Value.slice none (0 : Nat) (0 : Nat)), SV.any, SV.any, SV.any, SV.any, SV.any, SV.any,
  SV.any, SV.any] (mkLoop LoopState.ready (G53.fn g) (G53.D g)) ∧ ((LB.objAt (G53.D g) [] fun (x : Array Value) => Obj.deferred (some [])) = LB.objAt (G53.D g) [] fun (x : Array
  Value) => Obj.deferred (some [])) ∧ LB.arr DR dDR encDR (J53.acc g_1) = LB.arr DR dDR encDR (J53.acc g_1) ∧ True) ∧ ((PL.file (List.getD (List.getD [G53.S g] (0 : Nat) [])
  (Int.toNat ((↑(J53.i g_1) : Int) + (↑g_2 : Int))) dPL) == PL.file (List.getD (List.getD [G53.S g] (0 : Nat) []) (Int.toNat (↑(J53.i g_1) : Int)) dPL) && (PL.index (List.getD
  (List.getD [G53.S g] (0 : Nat) []) (Int.toNat ((↑(J53.i g_1) : Int) + (↑g_2 : Int))) dPL) == PL.index (List.getD (List.getD [G53.S g] (0 : Nat) []) (Int.toNat (↑(J53.i g_1) : Int))
  dPL) + (↑g_2 : Int) && true)) = false → (0 : Nat) < (1 : Nat) ∧ ((0 : Int) ≤ (↑(J53.i g_1) : Int) ∧ (↑(J53.i g_1) : Int) < (↑(List.length (List.getD [G53.S g] (0 : Nat) [])) :
  Int)) ∧ Int.toNat (↑(J53.i g_1) : Int) < List.length (List.getD [G53.S g] (0 : Nat) []) ∧ (0 : Nat) < (1 : Nat) ∧ ((0 : Int) ≤ (↑(J53.i g_1) : Int) ∧ (↑(J53.i g_1) : Int) <
  (↑(List.length (List.getD [G53.S g] (0 : Nat) [])) : Int)) ∧ Int.toNat (↑(J53.i g_1) : Int) < List.length (List.getD [G53.S g] (0 : Nat) []) ∧ ∃ (k1 : Nat), ∃ (pre : List DR), ∃ (x
  : DR), G53.l g = G53.l g ∧ [SV.agg [SV.val (Value.int IntKind.i64 (PL.file (List.getD (List.getD [G53.S g] (0 : Nat) []) (Int.toNat (↑(J53.i g_1) : Int)) dPL))), SV.val (Value.int
  IntKind.i64 (PL.index (List.getD (List.getD [G53.S g] (0 : Nat) []) (Int.toNat (↑(J53.i g_1) : Int)) dPL))), SV.val (Value.int IntKind.i64 (↑g_2 : Int))]] = [SV.agg [SV.val
  (Value.int IntKind.i64 (DR.file x)), SV.val (Value.int IntKind.i64 (DR.index x)), SV.val (Value.int IntKind.i64 (DR.count x))]] ∧ [((0 : Nat), LB.cells [SV.sl (16 : Nat) (3 : Nat)
  (0 : Nat) (List.length (J53.acc g_1))]), ((1 : Nat), LB.objAt (G53.l g) [SV.val (Value.slice none (0 : Nat) (0 : Nat)), SV.any, SV.ptr (0 : Nat) (0 : Nat), SV.any, SV.val
  (Value.slice none (0 : Nat) (0 : Nat)), SV.any, SV.any, SV.any, SV.any, SV.any, SV.any, SV.any, SV.any] (mkLoop LoopState.ready (G53.fn g) (G53.D g))), ((2 : Nat), LB.objAt (G53.D
  g) [] fun (x : Array Value) => Obj.deferred (some [])), ((16 : Nat), LB.arr DR dDR encDR (J53.acc g_1))] = [((0 : Nat), LB.cells [SV.sl k1 (3 : Nat) (0 : Nat) (List.length pre)]),
  ((1 : Nat), LB.objAt (G53.l g) [SV.val (Value.slice none (0 : Nat) (0 : Nat)), SV.any, SV.ptr (0 : Nat) (0 : Nat), SV.any, SV.val (Value.slice none (0 : Nat) (0 : Nat)), SV.any,
  SV.any, SV.any, SV.any, SV.any, SV.any, SV.any, SV.any] (mkLoop LoopState.ready (G53.fn g) (G53.D g))), ((2 : Nat), LB.objAt (G53.D g) [] fun (x : Array Value) => Obj.deferred
  (some [])), (k1, LB.arr DR dDR encDR pre)] ∧ (3 : Nat) ≤ k1 ∧ (3 : Nat) ≤ (425 : Nat) ∧ List.length pre ≤ (1000 : Nat) ∧ ((!true) = true → ∃ (k : Nat), (3 : Nat) ≤ k ∧ [((0 : Nat),
  LB.cells [SV.sl (425 : Nat) (3 : Nat) (0 : Nat) (List.length (pre ++ [x]))]), ((1 : Nat), LB.objAt (G53.l g) [SV.val (Value.slice none (0 : Nat) (0 : Nat)), SV.any, SV.ptr (0 :
  Nat) (0 : Nat), SV.any, SV.val (Value.slice none (0 : Nat) (0 : Nat)), SV.any, SV.any, SV.any, SV.any, SV.any, SV.any, SV.any, SV.any] (mkLoop LoopState.ready (G53.fn g) (G53.D
  g))), ((2 : Nat), LB.objAt (G53.D g) [] fun (x : Array Value) => Obj.deferred (some [])), ((425 : Nat), LB.arr DR dDR encDR (pre ++ [x]))] = [((0 : Nat), LB.cells [SV.sl k (3 :
  Nat) (0 : Nat) (List.length (chS g (0 : Nat)))]), ((1 : Nat), LB.objAt (G53.l g) [SV.val (Value.slice none (0 : Nat) (0 : Nat)), SV.any, SV.ptr (0 : Nat) (0 : Nat), SV.any, SV.val
  (Value.slice none (0 : Nat) (0 : Nat)), SV.any, SV.any, SV.any, SV.any, SV.any, SV.any, SV.any, SV.any] (mkLoop LoopState.ready (G53.fn g) (G53.D g))), ((2 : Nat), LB.objAt (G53.D
  g) [] fun (x : Array Value) => Obj.deferred (some [])), (k, LB.arr DR dDR encDR (chS g (0 : Nat)))]) ∧ ((!true) = false → inK IntKind.i64 ((↑(J53.i g_1) : Int) + (↑g_2 : Int)) ∧ ∃
  (g' : J53), (J53.i g' ≤ List.length (G53.S g) ∧ J53.acc g' ++ chS g (J53.i g') = chS g (0 : Nat) ∧ List.length (J53.acc g') ≤ J53.i g') ∧ List.length (G53.S g) - J53.i g' <
  List.length (G53.S g) - J53.i g_1 ∧ (↑(J53.i g_1) : Int) + (↑g_2 : Int) = (↑(J53.i g') : Int) ∧ (((3 : Nat) = (3 : Nat) ∧ (0 : Nat) = (0 : Nat) ∧ List.length (pre ++ [x]) =
  List.length (J53.acc g')) ∧ LB.arr DR dDR encDR (pre ++ [x]) = LB.arr DR dDR encDR (J53.acc g') ∧ True) ∧ LB.objAt (G53.l g) [SV.val (Value.slice none (0 : Nat) (0 : Nat)), SV.any,
  SV.ptr (0 : Nat) (0 : Nat), SV.any, SV.val (Value.slice none (0 : Nat) (0 : Nat)), SV.any, SV.any, SV.any, SV.any, SV.any, SV.any, SV.any, SV.any] (mkLoop LoopState.ready (G53.fn
  g) (G53.D g)) = LB.objAt (G53.l g) [SV.val (Value.slice none (0 : Nat) (0 : Nat)), SV.any, SV.ptr (0 : Nat) (0 : Nat), SV.any, SV.val (Value.slice none (0 : Nat) (0 : Nat)),
  SV.any, SV.any, SV.any, SV.any, SV.any, SV.any, SV.any, SV.any] (mkLoop LoopState.ready (G53.fn g) (G53.D g)) ∧ ((LB.objAt (G53.D g) [] fun (x : Array Value) => Obj.deferred (some
  [])) = LB.objAt (G53.D g) [] fun (x : Array Value) => Obj.deferred (some [])) ∧ True))) ∧ (decide ((↑(J53.i g_1) : Int) + (↑g_2 : Int) < (↑(List.length (List.getD [G53.S g] (0 :
  Nat) [])) : Int)) = false → (0 : Nat) < (1 : Nat) ∧ ((0 : Int) ≤ (↑(J53.i g_1) : Int) ∧ (↑(J53.i g_1) : Int) < (↑(List.length (List.getD [G53.S g] (0 : Nat) [])) : Int)) ∧
  Int.toNat (↑(J53.i g_1) : Int) < List.length (List.getD [G53.S g] (0 : Nat) []) ∧ (0 : Nat) < (1 : Nat) ∧ ((0 : Int) ≤ (↑(J53.i g_1) : Int) ∧ (↑(J53.i g_1) : Int) < (↑(List.length
  (List.getD [G53.S g] (0 : Nat) [])) : Int)) ∧ Int.toNat (↑(J53.i g_1) : Int) < List.length (List.getD [G53.S g] (0 : Nat) []) ∧ ∃ (k1 : Nat), ∃ (pre : List DR), ∃ (x : DR), G53.l g
  = G53.l g ∧ [SV.agg [SV.val (Value.int IntKind.i64 (PL.file (List.getD (List.getD [G53.S g] (0 : Nat) []) (Int.toNat (↑(J53.i g_1) : Int)) dPL))), SV.val (Value.int IntKind.i64
  (PL.index (List.getD (List.getD [G53.S g] (0 : Nat) []) (Int.toNat (↑(J53.i g_1) : Int)) dPL))), SV.val (Value.int IntKind.i64 (↑g_2 : Int))]] = [SV.agg [SV.val (Value.int
  IntKind.i64 (DR.file x)), SV.val (Value.int IntKind.i64 (DR.index x)), SV.val (Value.int IntKind.i64 (DR.count x))]] ∧ [((0 : Nat), LB.cells [SV.sl (16 : Nat) (3 : Nat) (0 : Nat)
  (List.length (J53.acc g_1))]), ((1 : Nat), LB.objAt (G53.l g) [SV.val (Value.slice none (0 : Nat) (0 : Nat)), SV.any, SV.ptr (0 : Nat) (0 : Nat), SV.any, SV.val (Value.slice none
  (0 : Nat) (0 : Nat)), SV.any, SV.any, SV.any, SV.any, SV.any, SV.any, SV.any, SV.any] (mkLoop LoopState.ready (G53.fn g) (G53.D g))), ((2 : Nat), LB.objAt (G53.D g) [] fun (x :
  Array Value) => Obj.deferred (some [])), ((16 : Nat), LB.arr DR dDR encDR (J53.acc g_1))] = [((0 : Nat), LB.cells [SV.sl k1 (3 : Nat) (0 : Nat) (List.length pre)]), ((1 : Nat),
  LB.objAt (G53.l g) [SV.val (Value.slice none (0 : Nat) (0 : Nat)), SV.any, SV.ptr (0 : Nat) (0 : Nat), SV.any, SV.val (Value.slice none (0 : Nat) (0 : Nat)), SV.any, SV.any,
  SV.any, SV.any, SV.any, SV.any, SV.any, SV.any] (mkLoop LoopState.ready (G53.fn g) (G53.D g))), ((2 : Nat), LB.objAt (G53.D g) [] fun (x : Array Value) => Obj.deferred (some [])),
  (k1, LB.arr DR dDR encDR pre)] ∧ (3 : Nat) ≤ k1 ∧ (3 : Nat) ≤ (425 : Nat) ∧ List.length pre ≤ (1000 : Nat) ∧ ((!true) = true → ∃ (k : Nat), (3 : Nat) ≤ k ∧ [((0 : Nat), LB.cells
  [SV.sl (425 : Nat) (3 : Nat) (0 : Nat) (List.length (pre ++ [x]))]), ((1 : Nat), LB.objAt (G53.l g) [SV.val (Value.slice none (0 : Nat) (0 : Nat)), SV.any, SV.ptr (0 : Nat) (0 :
  Nat), SV.any, SV.val (Value.slice none (0 : Nat) (0 : Nat)), SV.any, SV.any, SV.any, SV.any, SV.any, SV.any, SV.any, SV.any] (mkLoop LoopState.ready (G53.fn g) (G53.D g))), ((2 :
  Nat), LB.objAt (G53.D g) [] fun (x : Array Value) => Obj.deferred (some [])), ((425 : Nat), LB.arr DR dDR encDR (pre ++ [x]))] = [((0 : Nat), LB.cells [SV.sl k (3 : Nat) (0 : Nat)
  (List.length (chS g (0 : Nat)))]), ((1 : Nat), LB.objAt (G53.l g) [SV.val (Value.slice none (0 : Nat) (0 : Nat)), SV.any, SV.ptr (0 : Nat) (0 : Nat), SV.any, SV.val (Value.slice
  none (0 : Nat) (0 : Nat)), SV.any, SV.any, SV.any, SV.any, SV.any, SV.any, SV.any, SV.any] (mkLoop LoopState.ready (G53.fn g) (G53.D g))), ((2 : Nat), LB.objAt (G53.D g) [] fun (x
  : Array Value) => Obj.deferred (some [])), (k, LB.arr DR dDR encDR (chS g (0 : Nat)))]) ∧ ((!true) = false → inK IntKind.i64 ((↑(J53.i g_1) : Int) + (↑g_2 : Int)) ∧ ∃ (g' : J53),
  (J53.i g' ≤ List.length (G53.S g) ∧ J53.acc g' ++ chS g (J53.i g') = chS g (0 : Nat) ∧ List.length (J53.acc g') ≤ J53.i g') ∧ List.length (G53.S g) - J53.i g' < List.length (G53.S
  g) - J53.i g_1 ∧ (↑(J53.i g_1) : Int) + (↑g_2 : Int) = (↑(J53.i g') : Int) ∧ (((3 : Nat) = (3 : Nat) ∧ (0 : Nat) = (0 : Nat) ∧ List.length (pre ++ [x]) = List.length (J53.acc g'))
  ∧ LB.arr DR dDR encDR (pre ++ [x]) = LB.arr DR dDR encDR (J53.acc g') ∧ True) ∧ LB.objAt (G53.l g) [SV.val (Value.slice none (0 : Nat) (0 : Nat)), SV.any, SV.ptr (0 : Nat) (0 :
  Nat), SV.any, SV.val (Value.slice none (0 : Nat) (0 : Nat)), SV.any, SV.any, SV.any, SV.any, SV.any, SV.any, SV.any, SV.any] (mkLoop LoopState.ready (G53.fn g) (G53.D g)) =
  LB.objAt (G53.l g) [SV.val (Value.slice none (0 : Nat) (0 : Nat)), SV.any, SV.ptr (0 : Nat) (0 : Nat), SV.any, SV.val (Value.slice none (0 : Nat) (0 : Nat)), SV.any, SV.any,
  SV.any, SV.any, SV.any, SV.any, SV.any, SV.any] (mkLoop LoopState.ready (G53.fn g) (G53.D g)) ∧ ((LB.objAt (G53.D g) [] fun (x : Array Value) => Obj.deferred (some [])) = LB.objAt
  (G53.D g) [] fun (x : Array Value) => Obj.deferred (some [])) ∧ True))) ∧ (decide ((↑g_2 : Int) < List.getD [G53.most g] (0 : Nat) (0 : Int)) = false → (0 : Nat) < (1 : Nat) ∧ ((0
  : Int) ≤ (↑(J53.i g_1) : Int) ∧ (↑(J53.i g_1) : Int) < (↑(List.length (List.getD [G53.S g] (0 : Nat) [])) : Int)) ∧ Int.toNat (↑(J53.i g_1) : Int) < List.length (List.getD [G53.S
  g] (0 : Nat) []) ∧ (0 : Nat) < (1 : Nat) ∧ ((0 : Int) ≤ (↑(J53.i g_1) : Int) ∧ (↑(J53.i g_1) : Int) < (↑(List.length (List.getD [G53.S g] (0 : Nat) [])) : Int)) ∧ Int.toNat
  (↑(J53.i g_1) : Int) < List.length (List.getD [G53.S g] (0 : Nat) []) ∧ ∃ (k1 : Nat), ∃ (pre : List DR), ∃ (x : DR), G53.l g = G53.l g ∧ [SV.agg [SV.val (Value.int IntKind.i64
  (PL.file (List.getD (List.getD [G53.S g] (0 : Nat) []) (Int.toNat (↑(J53.i g_1) : Int)) dPL))), SV.val (Value.int IntKind.i64 (PL.index (List.getD (List.getD [G53.S g] (0 : Nat)
  []) (Int.toNat (↑(J53.i g_1) : Int)) dPL))), SV.val (Value.int IntKind.i64 (↑g_2 : Int))]] = [SV.agg [SV.val (Value.int IntKind.i64 (DR.file x)), SV.val (Value.int IntKind.i64
  (DR.index x)), SV.val (Value.int IntKind.i64 (DR.count x))]] ∧ [((0 : Nat), LB.cells [SV.sl (16 : Nat) (3 : Nat) (0 : Nat) (List.length (J53.acc g_1))]), ((1 : Nat), LB.objAt
  (G53.l g) [SV.val (Value.slice none (0 : Nat) (0 : Nat)), SV.any, SV.ptr (0 : Nat) (0 : Nat), SV.any, SV.val (Value.slice none (0 : Nat) (0 : Nat)), SV.any, SV.any, SV.any, SV.any,
  SV.any, SV.any, SV.any, SV.any] (mkLoop LoopState.ready (G53.fn g) (G53.D g))), ((2 : Nat), LB.objAt (G53.D g) [] fun (x : Array Value) => Obj.deferred (some [])), ((16 : Nat),
  LB.arr DR dDR encDR (J53.acc g_1))] = [((0 : Nat), LB.cells [SV.sl k1 (3 : Nat) (0 : Nat) (List.length pre)]), ((1 : Nat), LB.objAt (G53.l g) [SV.val (Value.slice none (0 : Nat) (0
  : Nat)), SV.any, SV.ptr (0 : Nat) (0 : Nat), SV.any, SV.val (Value.slice none (0 : Nat) (0 : Nat)), SV.any, SV.any, SV.any, SV.any, SV.any, SV.any, SV.any, SV.any] (mkLoop
  LoopState.ready (G53.fn g) (G53.D g))), ((2 : Nat), LB.objAt (G53.D g) [] fun (x : Array Value) => Obj.deferred (some [])), (k1, LB.arr DR dDR encDR pre)] ∧ (3 : Nat) ≤ k1 ∧ (3 :
  Nat) ≤ (425 : Nat) ∧ List.length pre ≤ (1000 : Nat) ∧ ((!true) = true → ∃ (k : Nat), (3 : Nat) ≤ k ∧ [((0 : Nat), LB.cells [SV.sl (425 : Nat) (3 : Nat) (0 : Nat) (List.length (pre
  ++ [x]))]), ((1 : Nat), LB.objAt (G53.l g) [SV.val (Value.slice none (0 : Nat) (0 : Nat)), SV.any, SV.ptr (0 : Nat) (0 : Nat), SV.any, SV.val (Value.slice none (0 : Nat) (0 :
  Nat)), SV.any, SV.any, SV.any, SV.any, SV.any, SV.any, SV.any, SV.any] (mkLoop LoopState.ready (G53.fn g) (G53.D g))), ((2 : Nat), LB.objAt (G53.D g) [] fun (x : Array Value) =>
  Obj.deferred (some [])), ((425 : Nat), LB.arr DR dDR encDR (pre ++ [x]))] = [((0 : Nat), LB.cells [SV.sl k (3 : Nat) (0 : Nat) (List.length (chS g (0 : Nat)))]), ((1 : Nat),
  LB.objAt (G53.l g) [SV.val (Value.slice none (0 : Nat) (0 : Nat)), SV.any, SV.ptr (0 : Nat) (0 : Nat), SV.any, SV.val (Value.slice none (0 : Nat) (0 : Nat)), SV.any, SV.any,
  SV.any, SV.any, SV.any, SV.any, SV.any, SV.any] (mkLoop LoopState.ready (G53.fn g) (G53.D g))), ((2 : Nat), LB.objAt (G53.D g) [] fun (x : Array Value) => Obj.deferred (some [])),
  (k, LB.arr DR dDR encDR (chS g (0 : Nat)))]) ∧ ((!true) = false → inK IntKind.i64 ((↑(J53.i g_1) : Int) + (↑g_2 : Int)) ∧ ∃ (g' : J53), (J53.i g' ≤ List.length (G53.S g) ∧ J53.acc
  g' ++ chS g (J53.i g') = chS g (0 : Nat) ∧ List.length (J53.acc g') ≤ J53.i g') ∧ List.length (G53.S g) - J53.i g' < List.length (G53.S g) - J53.i g_1 ∧ (↑(J53.i g_1) : Int) +
  (↑g_2 : Int) = (↑(J53.i g') : Int) ∧ (((3 : Nat) = (3 : Nat) ∧ (0 : Nat) = (0 : Nat) ∧ List.length (pre ++ [x]) = List.length (J53.acc g')) ∧ LB.arr DR dDR encDR (pre ++ [x]) =
  LB.arr DR dDR encDR (J53.acc g') ∧ True) ∧ LB.objAt (G53.l g) [SV.val (Value.slice none (0 : Nat) (0 : Nat)), SV.any, SV.ptr (0 : Nat) (0 : Nat), SV.any, SV.val (Value.slice none
  (0 : Nat) (0 : Nat)), SV.any, SV.any, SV.any, SV.any, SV.any, SV.any, SV.any, SV.any] (mkLoop LoopState.ready (G53.fn g) (G53.D g)) = LB.objAt (G53.l g) [SV.val (Value.slice none
  (0 : Nat) (0 : Nat)), SV.any, SV.ptr (0 : Nat) (0 : Nat), SV.any, SV.val (Value.slice none (0 : Nat) (0 : Nat)), SV.any, SV.any, SV.any, SV.any, SV.any, SV.any, SV.any, SV.any]
  (mkLoop LoopState.ready (G53.fn g) (G53.D g)) ∧ ((LB.objAt (G53.D g) [] fun (x : Array Value) => Obj.deferred (some [])) = LB.objAt (G53.D g) [] fun (x : Array Value) =>
  Obj.deferred (some [])) ∧ True))) ∧ (decide ((↑(J53.i g_1) : Int) < (↑(List.length (List.getD [G53.S g] (0 : Nat) [])) : Int)) = false → ∃ (k : Nat), (3 : Nat) ≤ k ∧ [((0 : Nat),
  LB.cells [SV.sl (16 : Nat) (3 : Nat) (0 : Nat) (List.length (J53.acc g_1))]), ((1 : Nat), LB.objAt (G53.l g) [SV.val (Value.slice none (0 : Nat) (0 : Nat)), SV.any, SV.ptr (0 :
  Nat) (0 : Nat), SV.any, SV.val (Value.slice none (0 : Nat) (0 : Nat)), SV.any, SV.any, SV.any, SV.any, SV.any, SV.any, SV.any, SV.any] (mkLoop LoopState.ready (G53.fn g) (G53.D
  g))), ((2 : Nat), LB.objAt (G53.D g) [] fun (x : Array Value) => Obj.deferred (some [])), ((16 : Nat), LB.arr DR dDR encDR (J53.acc g_1))] = [((0 : Nat), LB.cells [SV.sl k (3 :
  Nat) (0 : Nat) (List.length (chS g (0 : Nat)))]), ((1 : Nat), LB.objAt (G53.l g) [SV.val (Value.slice none (0 : Nat) (0 : Nat)), SV.any, SV.ptr (0 : Nat) (0 : Nat), SV.any, SV.val
  (Value.slice none (0 : Nat) (0 : Nat)), SV.any, SV.any, SV.any, SV.any, SV.any, SV.any, SV.any, SV.any] (mkLoop LoopState.ready (G53.fn g) (G53.D g))), ((2 : Nat), LB.objAt (G53.D
  g) [] fun (x : Array Value) => Obj.deferred (some [])), (k, LB.arr DR dDR encDR (chS g (0 : Nat)))])) := by kernel_rfl
theorem vA_eq : (∀ (l D fn : Nat) (pre : List DR) (x : DR), exec (env [] (fun _ _ => none)) rf52.2.1 ⟨[.val (.slice none 0 0), .any, .ptr 0 0, .any, .val (.slice none 0 0), .any, .any, .agg (encDR x), .any, .any, .any, .any, .any], BJ .ready l D fn 3 pre, 8⟩ fun e st => match e with | .normal => st.tmps = [.val (.slice none 0 0), .any, .ptr 0 0, .any, .val (.slice none 0 0), .ptr 8 0, .any, .agg (encDR x), .any, .any, .any, .any, .any] ∧ st.blks = BJ .ready l D fn 3 pre ++ [(8, .cells (encDR x))] ∧ st.next = 24 | _ => False) = (∀ (l D fn : Nat) (pre : List DR) (x : DR), [SV.val (Value.slice none (0 : Nat) (0 : Nat)), SV.any, SV.ptr (0 : Nat) (0 : Nat), SV.any, SV.val (Value.slice none (0 : Nat) (0 :
  Nat)), SV.ptr (8 : Nat) (0 : Nat), SV.any, SV.agg [SV.val (Value.int IntKind.i64 (DR.file x)), SV.val (Value.int IntKind.i64 (DR.index x)), SV.val (Value.int IntKind.i64 (DR.count
  x))], SV.any, SV.any, SV.any, SV.any, SV.any] = [SV.val (Value.slice none (0 : Nat) (0 : Nat)), SV.any, SV.ptr (0 : Nat) (0 : Nat), SV.any, SV.val (Value.slice none (0 : Nat) (0 :
  Nat)), SV.ptr (8 : Nat) (0 : Nat), SV.any, SV.agg [SV.val (Value.int IntKind.i64 (DR.file x)), SV.val (Value.int IntKind.i64 (DR.index x)), SV.val (Value.int IntKind.i64 (DR.count
  x))], SV.any, SV.any, SV.any, SV.any, SV.any] ∧ [((0 : Nat), LB.cells [SV.sl (3 : Nat) (3 : Nat) (0 : Nat) (List.length pre)]), ((1 : Nat), LB.objAt l [SV.val (Value.slice none (0
  : Nat) (0 : Nat)), SV.any, SV.ptr (0 : Nat) (0 : Nat), SV.any, SV.val (Value.slice none (0 : Nat) (0 : Nat)), SV.any, SV.any, SV.any, SV.any, SV.any, SV.any, SV.any, SV.any]
  (mkLoop LoopState.ready fn D)), ((2 : Nat), LB.objAt D [] fun (x : Array Value) => Obj.deferred (some [])), ((3 : Nat), LB.arr DR dDR encDR pre), ((8 : Nat), LB.cells [SV.val
  (Value.int IntKind.i64 (DR.file x)), SV.val (Value.int IntKind.i64 (DR.index x)), SV.val (Value.int IntKind.i64 (DR.count x))])] = [((0 : Nat), LB.cells [SV.sl (3 : Nat) (3 : Nat)
  (0 : Nat) (List.length pre)]), ((1 : Nat), LB.objAt l [SV.val (Value.slice none (0 : Nat) (0 : Nat)), SV.any, SV.ptr (0 : Nat) (0 : Nat), SV.any, SV.val (Value.slice none (0 : Nat)
  (0 : Nat)), SV.any, SV.any, SV.any, SV.any, SV.any, SV.any, SV.any, SV.any] (mkLoop LoopState.ready fn D)), ((2 : Nat), LB.objAt D [] fun (x : Array Value) => Obj.deferred (some
  [])), ((3 : Nat), LB.arr DR dDR encDR pre), ((8 : Nat), LB.cells [SV.val (Value.int IntKind.i64 (DR.file x)), SV.val (Value.int IntKind.i64 (DR.index x)), SV.val (Value.int
  IntKind.i64 (DR.count x))])] ∧ (24 : Nat) = (24 : Nat)) := by kernel_rfl
def seqL : Code → Code
  | .seq a _ => a
  | c => c
def seqR : Code → Code
  | .seq _ b => b
  | c => c
@[irreducible] def b52 : Code := match Try.f52.body with | some c => c | none => .skip
abbrev A0 : Code := seqL b52
abbrev A1 : Code := seqL (seqL (seqR b52))
abbrev A4 : Code := seqL (seqR (seqR b52))
theorem vC_eq : (∀ (S : List PL) (most : Int), exec (env [] (fun _ _ => none)) (.seq A0 A1) ⟨[.val (.slice none 0 0), .clo 53 [bxL S, bxI most], .any, .any, .any, .any, .any, .any, .any, .any, .any, .any, .any], [], 8⟩ fun e st => match e with | .normal => st.tmps = [.val (.slice none 0 0), .clo 53 [bxL S, bxI most], .ptr 8 0, .any, .val (.slice none 0 0), .any, .clo 53 [bxL S, bxI most], .any, .any, .any, .any, .any, .any] ∧ st.blks = [(8, .cells [.val (.slice none 0 0)])] | _ => False) = (∀ (S : List PL) (most : Int), [SV.val (Value.slice none (0 : Nat) (0 : Nat)), SV.clo (53 : Nat) [SV.rop (List PL) [] encBox [S] (0 : Nat) (0 : Nat), SV.rop Int (0 : Int) encI
  [most] (0 : Nat) (0 : Nat)], SV.ptr (8 : Nat) (0 : Nat), SV.any, SV.val (Value.slice none (0 : Nat) (0 : Nat)), SV.any, SV.clo (53 : Nat) [SV.rop (List PL) [] encBox [S] (0 : Nat)
  (0 : Nat), SV.rop Int (0 : Int) encI [most] (0 : Nat) (0 : Nat)], SV.any, SV.any, SV.any, SV.any, SV.any, SV.any] = [SV.val (Value.slice none (0 : Nat) (0 : Nat)), SV.clo (53 :
  Nat) [SV.rop (List PL) [] encBox [S] (0 : Nat) (0 : Nat), SV.rop Int (0 : Int) encI [most] (0 : Nat) (0 : Nat)], SV.ptr (8 : Nat) (0 : Nat), SV.any, SV.val (Value.slice none (0 :
  Nat) (0 : Nat)), SV.any, SV.clo (53 : Nat) [SV.rop (List PL) [] encBox [S] (0 : Nat) (0 : Nat), SV.rop Int (0 : Int) encI [most] (0 : Nat) (0 : Nat)], SV.any, SV.any, SV.any,
  SV.any, SV.any, SV.any] ∧ [((8 : Nat), LB.cells [SV.val (Value.slice none (0 : Nat) (0 : Nat))])] = [((8 : Nat), LB.cells [SV.val (Value.slice none (0 : Nat) (0 : Nat))])]) := by kernel_rfl
theorem vB_eq : (∀ (l D fn : Nat) (pre : List DR) (x : DR), pre.length ≤ 1000 → exec (env [] (fun _ _ => none)) (inner rf52.2.2) ⟨[.val (.slice none 0 0), .any, .ptr 0 0, .any, .val (.slice none 0 0), .ptr 8 0, .any, .agg (encDR x), .any, .any, .any, .any, .any], BJ .busy l D fn 3 pre ++ [(8, .cells (encDR x))], 24⟩ fun e st => match e with | .normal => st.blks = [(0, .cells [.sl 48 3 0 (pre.length + 1)]), (1, .objAt l rcS (mkLoop .busy fn D)), (2, .objAt D [] (fun _ => .deferred (some []))), (8, .cells (encDR x)), (40, .cells (encDR x)), (48, .arr DR dDR encDR (pre ++ [x]))] | _ => False) = (∀ (l D fn : Nat) (pre : List DR) (x : DR), List.length pre ≤ (1000 : Nat) → (0 : Nat) + List.length pre ≤ List.length pre ∧ ∃ (ys : List DR), [[SV.val (Value.int IntKind.i64
  (DR.file x)), SV.val (Value.int IntKind.i64 (DR.index x)), SV.val (Value.int IntKind.i64 (DR.count x))]] = List.map encDR ys ∧ (List.length pre + List.length ys) * (24 : Nat) ≤
  (140737488355328 : Nat) ∧ [((0 : Nat), LB.cells [SV.sl (48 : Nat) (3 : Nat) (0 : Nat) (List.length pre + List.length ys)]), ((1 : Nat), LB.objAt l [SV.val (Value.slice none (0 :
  Nat) (0 : Nat)), SV.any, SV.ptr (0 : Nat) (0 : Nat), SV.any, SV.val (Value.slice none (0 : Nat) (0 : Nat)), SV.any, SV.any, SV.any, SV.any, SV.any, SV.any, SV.any, SV.any] (mkLoop
  LoopState.busy fn D)), ((2 : Nat), LB.objAt D [] fun (x : Array Value) => Obj.deferred (some [])), ((8 : Nat), LB.cells [SV.val (Value.int IntKind.i64 (DR.file x)), SV.val
  (Value.int IntKind.i64 (DR.index x)), SV.val (Value.int IntKind.i64 (DR.count x))]), ((40 : Nat), LB.cells [SV.val (Value.int IntKind.i64 (DR.file x)), SV.val (Value.int
  IntKind.i64 (DR.index x)), SV.val (Value.int IntKind.i64 (DR.count x))]), ((48 : Nat), LB.arr DR dDR encDR (List.take (List.length pre) (List.drop (0 : Nat) pre) ++ ys))] = [((0 :
  Nat), LB.cells [SV.sl (48 : Nat) (3 : Nat) (0 : Nat) (List.length pre + (1 : Nat))]), ((1 : Nat), LB.objAt l [SV.val (Value.slice none (0 : Nat) (0 : Nat)), SV.any, SV.ptr (0 :
  Nat) (0 : Nat), SV.any, SV.val (Value.slice none (0 : Nat) (0 : Nat)), SV.any, SV.any, SV.any, SV.any, SV.any, SV.any, SV.any, SV.any] (mkLoop LoopState.busy fn D)), ((2 : Nat),
  LB.objAt D [] fun (x : Array Value) => Obj.deferred (some [])), ((8 : Nat), LB.cells [SV.val (Value.int IntKind.i64 (DR.file x)), SV.val (Value.int IntKind.i64 (DR.index x)),
  SV.val (Value.int IntKind.i64 (DR.count x))]), ((40 : Nat), LB.cells [SV.val (Value.int IntKind.i64 (DR.file x)), SV.val (Value.int IntKind.i64 (DR.index x)), SV.val (Value.int
  IntKind.i64 (DR.count x))]), ((48 : Nat), LB.arr DR dDR encDR (pre ++ [x]))]) := by kernel_rfl

theorem chS_end {g : G53} {i : Nat} (h : g.S.length ≤ i) : chS g i = [] := by
  unfold chS
  rw [List.drop_eq_nil_of_le h]
  cases g.S.length <;> rfl
theorem drop_PL {l : List PL} {i : Nat} (hi : i < l.length) : l.drop i = l.getD i dPL :: l.drop (i + 1) := by
  rw [List.drop_eq_getElem_cons hi, getD_get hi]
theorem chS_step {g : G53} {i n : Nat} (hm : 1 ≤ g.most) (hi : i < g.S.length) (hn : runP (g.S.drop i) (g.S.getD i dPL).file (g.S.getD i dPL).index g.most.toNat = n) :
    chS g i = ⟨(g.S.getD i dPL).file, (g.S.getD i dPL).index, n⟩ :: chS g (i + n) := by
  unfold chS
  have hpos := runP_pos (p := g.S.getD i dPL) (S := g.S.drop (i + 1)) (m := g.most.toNat) (by omega)
  rw [← drop_PL hi, hn] at hpos
  obtain ⟨k, hk⟩ : ∃ k, g.S.length = k + 1 := ⟨g.S.length - 1, by omega⟩
  rw [hk]
  have e : g.S.drop (i + n) = (g.S.drop i).drop n := by rw [List.drop_drop]
  rw [e]
  rw [chop_fuel (by omega) (k + 1) k ((g.S.drop i).drop n) (by rw [List.length_drop, List.length_drop]; omega) (by rw [List.length_drop, List.length_drop]; omega)]
  rw [drop_PL hi] at hn ⊢
  rw [show chop g.most.toNat (k + 1) (g.S.getD i dPL :: g.S.drop (i + 1)) = ⟨(g.S.getD i dPL).file, (g.S.getD i dPL).index, runP (g.S.getD i dPL :: g.S.drop (i + 1)) (g.S.getD i dPL).file (g.S.getD i dPL).index g.most.toNat⟩ :: chop g.most.toNat k ((g.S.getD i dPL :: g.S.drop (i + 1)).drop (runP (g.S.getD i dPL :: g.S.drop (i + 1)) (g.S.getD i dPL).file (g.S.getD i dPL).index g.most.toNat)) from rfl, hn]
theorem v53 : ∀ g : G53, (g.S.length ≤ 1000 ∧ 1 ≤ g.most ∧ g.most ≤ 9223372036854775807 ∧ ∀ p ∈ g.S, 0 ≤ p.index ∧ p.index ≤ 1000) →
    vcOf (envYY (l53 g) (ysp g.l g.D g.fn)) Try.f53 8 [.val (yv g.l), bxL g.S, bxI g.most] (BJ .ready g.l g.D g.fn 3 []) fun _ B' => ∃ k, 3 ≤ k ∧ B' = BJ .ready g.l g.D g.fn k (chS g 0) := by
  rw [v53_eq]
  rintro ⟨S, most, l, D, fn⟩ ⟨hS, hm, hmM, hidx⟩
  dsimp only at hS hm hmM hidx
  dsimp only
  rw [show ([S].getD 0 []) = S from rfl, show ([most].getD 0 0) = most from rfl]
  refine ⟨⟨⟨0, []⟩, ⟨Nat.zero_le _, rfl, Nat.le_refl _⟩, rfl, ⟨⟨rfl, rfl, rfl⟩, rfl, trivial⟩, rfl, rfl, trivial⟩, ?_⟩
  rintro ⟨i, acc⟩ ⟨hi, hacc, hal⟩
  dsimp only at hi hacc hal ⊢
  refine ⟨by decide, fun hlt => ?_, fun hge => ?_⟩
  · have hlt : (i : Int) < S.length := of_decide_eq_true hlt
    have hi' : i < S.length := by omega
    rw [Int.toNat_natCast]
    have hpi := hidx _ (show S.getD i dPL ∈ S by rw [getD_get hi']; exact List.getElem_mem hi')
    have hpos := runP_pos (p := S.getD i dPL) (S := S.drop (i + 1)) (m := most.toNat) (by omega)
    rw [← drop_PL hi'] at hpos
    have hle := runP_le (S.drop i) (S.getD i dPL).file (S.getD i dPL).index most.toNat
    rw [List.length_drop] at hle
    refine ⟨⟨1, ⟨Nat.le_refl _, hpos⟩, rfl, trivial, rfl, rfl, rfl, rfl, trivial⟩, fun n hn => ?_⟩
    have hst := runP_step (S.drop i) (S.getD i dPL).file (S.getD i dPL).index most.toNat n hn.2
    have hget : ∀ j, j < S.length - i → (S.drop i).getD j dPL = S.getD (i + j) dPL := fun j hj => by
      rw [getD_get (by rw [List.length_drop]; exact hj), getD_get (by omega), List.getElem_drop]
    have fin : n = runP (S.drop i) (S.getD i dPL).file (S.getD i dPL).index most.toNat → (0 : Nat) < 1 ∧ ((0 : Int) ≤ (i : Int) ∧ (i : Int) < (S.length : Int)) ∧ i < S.length ∧ (0 : Nat) < 1 ∧ ((0 : Int) ≤ (i : Int) ∧ (i : Int) < (S.length : Int)) ∧ i < S.length ∧ ∃ (k1 : Nat), ∃ (pre : List DR), ∃ (x : DR), l = l ∧ [SV.agg [I (S.getD i dPL).file, I (S.getD i dPL).index, I n]] = [SV.agg [I x.file, I x.index, I x.count]] ∧ BJ .ready l D fn 16 acc = BJ .ready l D fn k1 pre ∧ 3 ≤ k1 ∧ (3 : Nat) ≤ 425 ∧ pre.length ≤ 1000 ∧ ((!true) = true → ∃ (k : Nat), 3 ≤ k ∧ BJ .ready l D fn 425 (pre ++ [x]) = BJ .ready l D fn k (chS ⟨S, most, l, D, fn⟩ 0)) ∧ ((!true) = false → inK IntKind.i64 ((i : Int) + n) ∧ ∃ (g' : J53), (g'.i ≤ S.length ∧ g'.acc ++ chS ⟨S, most, l, D, fn⟩ g'.i = chS ⟨S, most, l, D, fn⟩ 0 ∧ g'.acc.length ≤ g'.i) ∧ S.length - g'.i < S.length - i ∧ (i : Int) + n = (g'.i : Int) ∧ (((3 : Nat) = 3 ∧ (0 : Nat) = 0 ∧ (pre ++ [x]).length = g'.acc.length) ∧ LB.arr DR dDR encDR (pre ++ [x]) = LB.arr DR dDR encDR g'.acc ∧ True) ∧ LB.objAt l rcS (mkLoop .ready fn D) = LB.objAt l rcS (mkLoop .ready fn D) ∧ ((LB.objAt D [] fun (x : Array Value) => Obj.deferred (some [])) = LB.objAt D [] fun (x : Array Value) => Obj.deferred (some [])) ∧ True) := fun he => by
      refine ⟨by decide, ⟨by omega, hlt⟩, hi', by decide, ⟨by omega, hlt⟩, hi', 16, acc, ⟨(S.getD i dPL).file, (S.getD i dPL).index, n⟩, rfl, rfl, rfl, by decide, by decide, by omega, fun h => (by cases h), fun _ => ⟨inI (by omega) (by omega), ⟨i + n, acc ++ [⟨(S.getD i dPL).file, (S.getD i dPL).index, n⟩]⟩, ⟨by dsimp only; omega, ?_, by simp; omega⟩, by dsimp only; omega, by dsimp only; omega, ⟨⟨rfl, rfl, rfl⟩, rfl, trivial⟩, rfl, rfl, trivial⟩⟩
      dsimp only
      rw [← hacc, chS_step (g := ⟨S, most, l, D, fn⟩) (i := i) hm hi' he.symm, List.append_assoc]; rfl
    refine ⟨by decide, fun h1 => ⟨inI (by omega) (by omega), by decide, fun h2 => ?_, fun h2 => fin (hst.2 fun h => ?_)⟩, fun h1 => fin (hst.2 fun h => ?_)⟩
    · have h1 : (n : Int) < most := of_decide_eq_true h1
      have h2 : (i : Int) + n < S.length := of_decide_eq_true h2
      have e : Int.toNat ((i : Int) + n) = i + n := by omega
      rw [e]
      refine ⟨by decide, inI (by omega) (by omega), ⟨by omega, h2⟩, by omega, by decide, ⟨by omega, hlt⟩, hi', by decide, ⟨by omega, hlt⟩, hi', inI (by omega) (by omega), fun h3 => ?_, fun h3 => fin (hst.2 fun h => ?_)⟩
      · simp only [Bool.and_eq_true, beq_iff_eq, and_true] at h3
        have hne : n ≠ runP (S.drop i) (S.getD i dPL).file (S.getD i dPL).index most.toNat := fun e => hst.1 e ⟨by omega, by rw [List.length_drop]; omega, by rw [hget n (by omega)]; exact h3.1, by rw [hget n (by omega)]; exact h3.2⟩
        exact ⟨inI (by omega) (by omega), n + 1, ⟨by omega, by omega⟩, by omega, by omega, trivial, rfl, rfl, rfl, rfl, trivial⟩
      · rw [hget n (by omega)] at h
        simp only [Bool.and_eq_false_iff, beq_eq_false_iff_ne, ne_eq] at h3
        rcases h3 with h3 | h3 | h3
        · exact h3 h.2.2.1
        · exact h3 h.2.2.2
        · cases h3
    · have h2 : ¬ (i : Int) + n < S.length := of_decide_eq_false h2
      rw [List.length_drop] at h
      omega
    · have h1 : ¬ (n : Int) < most := of_decide_eq_false h1
      omega
  · have hge : ¬ (i : Int) < S.length := of_decide_eq_false hge
    have he : acc = chS ⟨S, most, l, D, fn⟩ 0 := by rw [← hacc, chS_end (by dsimp only; omega), List.append_nil]
    exact ⟨16, by decide, by rw [he]⟩
theorem vA : ∀ (l D fn : Nat) (pre : List DR) (x : DR), exec (env [] (fun _ _ => none)) rf52.2.1 ⟨[.val (.slice none 0 0), .any, .ptr 0 0, .any, .val (.slice none 0 0), .any, .any, .agg (encDR x), .any, .any, .any, .any, .any], BJ .ready l D fn 3 pre, 8⟩ fun e st => match e with | .normal => st.tmps = [.val (.slice none 0 0), .any, .ptr 0 0, .any, .val (.slice none 0 0), .ptr 8 0, .any, .agg (encDR x), .any, .any, .any, .any, .any] ∧ st.blks = BJ .ready l D fn 3 pre ++ [(8, .cells (encDR x))] ∧ st.next = 24 | _ => False := by
  rw [vA_eq]
  exact fun l D fn pre x => ⟨rfl, rfl, rfl⟩
theorem vB : ∀ (l D fn : Nat) (pre : List DR) (x : DR), pre.length ≤ 1000 → exec (env [] (fun _ _ => none)) (inner rf52.2.2) ⟨[.val (.slice none 0 0), .any, .ptr 0 0, .any, .val (.slice none 0 0), .ptr 8 0, .any, .agg (encDR x), .any, .any, .any, .any, .any], BJ .busy l D fn 3 pre ++ [(8, .cells (encDR x))], 24⟩ fun e st => match e with | .normal => st.blks = [(0, .cells [.sl 48 3 0 (pre.length + 1)]), (1, .objAt l rcS (mkLoop .busy fn D)), (2, .objAt D [] (fun _ => .deferred (some []))), (8, .cells (encDR x)), (40, .cells (encDR x)), (48, .arr DR dDR encDR (pre ++ [x]))] | _ => False := by
  rw [vB_eq]
  refine fun l D fn pre x h => ⟨by omega, [x], rfl, by simp only [List.length_cons, List.length_nil]; omega, ?_⟩
  rw [List.drop_zero, List.take_length]; rfl
theorem vC : ∀ (S : List PL) (most : Int), exec (env [] (fun _ _ => none)) (.seq A0 A1) ⟨[.val (.slice none 0 0), .clo 53 [bxL S, bxI most], .any, .any, .any, .any, .any, .any, .any, .any, .any, .any, .any], [], 8⟩ fun e st => match e with | .normal => st.tmps = [.val (.slice none 0 0), .clo 53 [bxL S, bxI most], .ptr 8 0, .any, .val (.slice none 0 0), .any, .clo 53 [bxL S, bxI most], .any, .any, .any, .any, .any, .any] ∧ st.blks = [(8, .cells [.val (.slice none 0 0)])] | _ => False := by
  rw [vC_eq]
  exact fun S most => ⟨rfl, rfl⟩
end Go.Wb
