/- Tl2Two: runs of equalities in the conditions of the law's cuts. Printed by a program (gen_tw.py). -/
import Derived.Test.YtmjjljngaefpaaaGreatLw
namespace Go.Proofs.YtmjjljngaefpaaaGreat
open Go.RowKit Go.Am Go.Sy
open Go.IntKind (i64 u64)
set_option linter.unusedVariables false
abbrev EL := List ((α : Type) × α × α)
abbrev e {α : Type} (a b : α) : (α : Type) × α × α := ⟨α,a,b⟩
abbrev vi (n : Int) : AVal := .int .i64 n
abbrev kc (n : Int) : (α : Type) × α × α := e (vi n) (vi n)
def Eqs : EL → Prop → Prop
 | [],p => p
 | x :: l,p => x.2.1 = x.2.2 ∧ Eqs l p
theorem eqs_mk {p : Prop} (hp : p) : ∀ {l : EL},l.map (fun x => (⟨x.1,x.2.1⟩ : (α : Type) × α)) = l.map (fun x => ⟨x.1,x.2.2⟩) → Eqs l p
 | [],_ => hp
 | x :: l,h => by
  rw [List.map_cons,List.map_cons] at h
  obtain ⟨h1,h2⟩ := List.cons.inj h
  exact ⟨eq_of_heq (Sigma.mk.inj h1).2,eqs_mk hp h2⟩
theorem qq {p : Prop} {l : EL} (hp : p) (h : l.map (fun x => (⟨x.1,x.2.1⟩ : (α : Type) × α)) = l.map (fun x => ⟨x.1,x.2.2⟩) := by kernel_rfl) : Eqs l p := eqs_mk hp h
def R0 (A : YM) (B : YM) : EL := [e (vi A.ybk) (vi B.ybk),e (vi A.ybst) (vi B.ybst),e (A.ybse) (B.ybse),e (A.ybsp) (B.ybsp)]
def R1 (A : YM) (B : YM) : EL := [e (AVal.nils) (AVal.nils),e (AVal.bool A.al) (AVal.bool B.al),e (AVal.bool A.su) (AVal.bool B.su),e (AVal.bool A.ph) (AVal.bool B.ph),e (AVal.bool false) (AVal.bool false),e (vi
 A.job) (vi B.job),e (vi A.st) (vi B.st),e ((↑A.i : Int)) ((↑B.i : Int)),kc 0,kc 0,e (A.at_) (B.at_),e (A.val) (B.val),e (A.seen) (B.seen),kc 0,e (A.value) (B.value),e (A.stamp) (B.stamp),e (A.made) (B.made),e
 (A.cause) (B.cause)]
def R2 (A : YM) (B : YM) : EL := [e (A.th) (B.th),e (A.c) (B.c),kc 1000,kc 32]
def R3 (A : YM) (B : YM) : EL := [e (vi A.ybk) (vi B.ybk),e (vi A.ybst) (vi B.ybst),e (A.ybse) (B.ybse),e (A.ybsp) (B.ybsp),kc 3,kc 1,kc 3,kc 0,kc 4,e (AVal.bool false) (AVal.bool false)]
def R4 (A : XM) (B : XM) : EL := [e (A.th) (B.th),e (A.c) (B.c),kc 1000,kc 32,e (A.rs) (B.rs),kc 32,e (A.ws) (B.ws),e (filtT A.ws) (filtT B.ws),e (A.asked) (B.asked),e (AVal.nils) (AVal.nils),e (vi A.life) (vi
 B.life),e (vi A.job) (vi B.job),e (vi A.part) (vi B.part),e ((↑A.i : Int)) ((↑B.i : Int)),e (A.at_) (B.at_),e (A.row) (B.row),e (A.seen) (B.seen),e (A.val) (B.val),e (A.value) (B.value),e (A.cause) (B.cause),e
 (A.stamp) (B.stamp),e (A.made) (B.made),e (vi A.bk) (vi B.bk),e (vi A.bst) (vi B.bst),e (A.bse) (B.bse),e (A.bsp) (B.bsp),e (A.rows) (B.rows),e (A.tk) (B.tk),e (AVal.bool A.ph) (AVal.bool B.ph),kc 3,kc 1,kc 3,
 kc 0,kc 4,e (AVal.bool false) (AVal.bool false)]
def R5 (A : XM) (B : XM) : EL := [e (A.th) (B.th),e (A.c) (B.c),kc 1000,kc 32,e (A.rs) (B.rs),kc 32,e (A.ws) (B.ws),e (filtT A.ws) (filtT B.ws),e (A.asked) (B.asked),e (AVal.nils) (AVal.nils),e (vi A.life) (vi
 B.life),e (vi A.job) (vi B.job),e (vi A.part) (vi B.part),e ((↑A.i : Int)) ((↑B.i : Int)),e (A.at_) (B.at_),e (A.row) (B.row),e (A.seen) (B.seen),e (A.val) (B.val),e (A.value) (B.value),e (A.cause) (B.cause),e
 (A.stamp) (B.stamp),e (A.made) (B.made),e (vi A.bk) (vi B.bk),e (vi A.bst) (vi B.bst),e (A.bse) (B.bse),e (A.bsp) (B.bsp),e (A.rows) (B.rows),e (A.tk) (B.tk),e (AVal.bool A.ph) (AVal.bool B.ph),kc 3,kc 1,kc 3,
 kc 0,kc 4]
def R6 (A : YM) (B : YM) : EL := [e (A.steps) (B.steps),e (A.lk) (B.lk),e (A.la) (B.la),e (A.lv) (B.lv),e (A.ls) (B.ls),e (A.ld) (B.ld),kc 3,kc 1,kc 3,kc 0,kc 4]
def R7 (A : XM) (B : XM) : EL := [kc 3,kc 1,kc 3,kc 0,kc 4,e (A.W) (B.W),e (A.steps) (B.steps),e (A.lk) (B.lk),e (A.la) (B.la),e (A.lv) (B.lv),e (A.ls) (B.ls),e (A.ld) (B.ld),e (A.W) (B.W)]
def R8 : EL := [e (constA (Value.int i64 (3 : Int))) (vi 3),e (constA (Value.int i64 (1 : Int))) (vi 1),e (constA (Value.int i64 (3 : Int))) (vi 3),kc 0,e (constA (Value.int i64 (4 :
 Int))) (vi 4),e ([(0 : Int),(0 : Int),(0 : Int),(0 : Int),(0 : Int),(0 : Int),(0 : Int),(0 : Int),(0 : Int),(0 : Int),(0 : Int),(0 : Int),(0 : Int),(0 : Int),(0 : Int),(0 : Int),(0 : Int),(0 : Int),(0
 : Int),(0 : Int),(0 : Int),(0 : Int),(0 : Int),(0 : Int),(0 : Int),(0 : Int),(0 : Int),(0 : Int),(0 : Int),(0 : Int),(0 : Int),(0 : Int),(0 : Int),(0 : Int)]) (W0),e ((0 : Int)) ((0 : Int)),e ((0 : Int))
 ((0 : Int)),e ((0 : Int)) ((0 : Int)),e ((0 : Int)) ((0 : Int)),e ((0 : Int)) ((0 : Int)),e (false) (false),e ([(0 : Int),(0 : Int),(0 : Int),(0 : Int),(0 : Int),(0 : Int),(0 : Int),(0 : Int),(0 : Int),(0 :
 Int),(0 : Int),(0 : Int),(0 : Int),(0 : Int),(0 : Int),(0 : Int),(0 : Int),(0 : Int),(0 : Int),(0 : Int),(0 : Int),(0 : Int),(0 : Int),(0 : Int),(0 : Int),(0 : Int),(0 : Int),(0 : Int),(0 : Int),(0 :
 Int),(0 : Int),(0 : Int),(0 : Int),(0 : Int)]) (W0),e ((0 : Int)) ((0 : Int)),e ((0 : Int)) ((0 : Int)),e ((0 : Int)) ((0 : Int)),e ((0 : Int)) ((0 : Int)),e ((0 : Int)) ((0 : Int)),e (false) (false)]
def R9 (B : YM) : EL := [e (vi 0) (vi B.ybk),e (vi 0) (vi B.ybst),e ((0 : Int)) (B.ybse),e ((0 : Int)) (B.ybsp)]
def R10 (B : YM) : EL := [e (AVal.nils) (AVal.nils),e (AVal.bool false) (AVal.bool B.al),e (AVal.bool false) (AVal.bool B.su),e (AVal.bool false) (AVal.bool B.ph),e (AVal.bool false) (AVal.bool false),e (vi 0) (vi
 B.job),e (vi 0) (vi B.st),e ((0 : Int)) ((↑B.i : Int)),kc 0,kc 0,e ((0 : Int)) (B.at_),e ((0 : Int)) (B.val),e ((0 : Int)) (B.seen),kc 0,e ((0 : Int)) (B.value),e ((0 : Int)) (B.stamp),e ((0 : Int)) (B.made),
 e ((0 : Int)) (B.cause)]
def R11 (B : YM) : EL := [e ((2 : Int)) (B.th),e ((1 : Int)) (B.c),e (constA (Value.int i64 (1000 : Int))) (vi 1000),e (AVal.int i64 (bif true then if (0 : Int) < bif false then if (32 : Int) < (32 :
 Int) then (32 : Int) else (32 : Int) else if (32 : Int) < (32 : Int) then (32 : Int) else (32 : Int) then bif false then if (32 : Int) < (32 : Int) then (32 : Int) else (32 : Int) else if (32 : Int) < (32 : Int) then (32
 : Int) else (32 : Int) else (0 : Int) else if (bif false then if (32 : Int) < (32 : Int) then (32 : Int) else (32 : Int) else if (32 : Int) < (32 : Int) then (32 : Int) else (32 : Int)) < (0 : Int) then bif false then if
 (32 : Int) < (32 : Int) then (32 : Int) else (32 : Int) else if (32 : Int) < (32 : Int) then (32 : Int) else (32 : Int) else (0 : Int))) (vi 32)]
def R12 (B : YM) : EL := [e (vi 0) (vi B.ybk),e (vi 0) (vi B.ybst),e ((0 : Int)) (B.ybse),e ((0 : Int)) (B.ybsp),e (constA (Value.int i64 (3 : Int))) (vi 3),e (constA (Value.int i64 (1 : Int))) (vi
 1),e (constA (Value.int i64 (3 : Int))) (vi 3),kc 0,e (constA (Value.int i64 (4 : Int))) (vi 4),e (constA (Value.bool false)) (AVal.bool false)]
def R13 (B : YM) : EL := [e ((0 : Int)) (B.th),e ((1 : Int)) (B.c),e (constA (Value.int i64 (1000 : Int))) (vi 1000),e (AVal.int i64 (bif true then if (0 : Int) < bif false then if (32 : Int) < (32 :
 Int) then (32 : Int) else (32 : Int) else if (32 : Int) < (32 : Int) then (32 : Int) else (32 : Int) then bif false then if (32 : Int) < (32 : Int) then (32 : Int) else (32 : Int) else if (32 : Int) < (32 : Int) then (32
 : Int) else (32 : Int) else (0 : Int) else if (bif false then if (32 : Int) < (32 : Int) then (32 : Int) else (32 : Int) else if (32 : Int) < (32 : Int) then (32 : Int) else (32 : Int)) < (0 : Int) then bif false then if
 (32 : Int) < (32 : Int) then (32 : Int) else (32 : Int) else if (32 : Int) < (32 : Int) then (32 : Int) else (32 : Int) else (0 : Int))) (vi 32)]
def R14 (B : XM) : EL := [e ((2 : Int)) (B.th),e ((1 : Int)) (B.c),e (constA (Value.int i64 (1000 : Int))) (vi 1000),e (AVal.int i64 (bif false then if (bif true then if (32 : Int) < (0 : Int) then (0 :
 Int) else (32 : Int) else if (0 : Int) < (32 : Int) then (0 : Int) else (32 : Int)) < (32 : Int) then (32 : Int) else bif true then if (32 : Int) < (0 : Int) then (0 : Int) else (32 : Int) else if (0 : Int) < (32 : Int)
 then (0 : Int) else (32 : Int) else if (32 : Int) < bif true then if (32 : Int) < (0 : Int) then (0 : Int) else (32 : Int) else if (0 : Int) < (32 : Int) then (0 : Int) else (32 : Int) then (32 : Int) else bif true then
 if (32 : Int) < (0 : Int) then (0 : Int) else (32 : Int) else if (0 : Int) < (32 : Int) then (0 : Int) else (32 : Int))) (vi 32),e ([]) (B.rs),e (AVal.int i64 (bif false then if (bif true then if (32 : Int) <
 (0 : Int) then (0 : Int) else (32 : Int) else if (0 : Int) < (32 : Int) then (0 : Int) else (32 : Int)) < (32 : Int) then (32 : Int) else bif true then if (32 : Int) < (0 : Int) then (0 : Int) else (32 : Int) else if (0
 : Int) < (32 : Int) then (0 : Int) else (32 : Int) else if (32 : Int) < bif true then if (32 : Int) < (0 : Int) then (0 : Int) else (32 : Int) else if (0 : Int) < (32 : Int) then (0 : Int) else (32 : Int) then (32 : Int)
 else bif true then if (32 : Int) < (0 : Int) then (0 : Int) else (32 : Int) else if (0 : Int) < (32 : Int) then (0 : Int) else (32 : Int))) (vi 32),e ([]) (B.ws),e ((0 : Int)) (filtT B.ws),e ((0 : Int)) (B.asked),e
 (AVal.nils) (AVal.nils),e (vi 0) (vi B.life),e (vi 0) (vi B.job),e (vi 0) (vi B.part),e ((0 : Int)) ((↑B.i : Int)),e ((0 : Int)) (B.at_),e ((0 : Int)) (B.row),e ((0 : Int)) (B.seen),e ((0 : Int)) (B.val),e ((0 :
 Int)) (B.value),e ((0 : Int)) (B.cause),e ((0 : Int)) (B.stamp),e ((0 : Int)) (B.made),e (vi 0) (vi B.bk),e (vi 0) (vi B.bst),e ((0 : Int)) (B.bse),e ((0 : Int)) (B.bsp),e ([]) (B.rows),e ([]) (B.tk),e
 (AVal.bool false) (AVal.bool B.ph),e (constA (Value.int i64 (3 : Int))) (vi 3),e (constA (Value.int i64 (1 : Int))) (vi 1),e (constA (Value.int i64 (3 : Int))) (vi 3),kc 0,e (constA
 (Value.int i64 (4 : Int))) (vi 4),e (constA (Value.bool false)) (AVal.bool false)]
def R15 (B : XM) : EL := [e ((0 : Int)) (B.th),e ((1 : Int)) (B.c),e (constA (Value.int i64 (1000 : Int))) (vi 1000),e (AVal.int i64 (bif false then if (bif true then if (32 : Int) < (0 : Int) then (0 :
 Int) else (32 : Int) else if (0 : Int) < (32 : Int) then (0 : Int) else (32 : Int)) < (32 : Int) then (32 : Int) else bif true then if (32 : Int) < (0 : Int) then (0 : Int) else (32 : Int) else if (0 : Int) < (32 : Int)
 then (0 : Int) else (32 : Int) else if (32 : Int) < bif true then if (32 : Int) < (0 : Int) then (0 : Int) else (32 : Int) else if (0 : Int) < (32 : Int) then (0 : Int) else (32 : Int) then (32 : Int) else bif true then
 if (32 : Int) < (0 : Int) then (0 : Int) else (32 : Int) else if (0 : Int) < (32 : Int) then (0 : Int) else (32 : Int))) (vi 32),e ([]) (B.rs),e (AVal.int i64 (bif false then if (bif true then if (32 : Int) <
 (0 : Int) then (0 : Int) else (32 : Int) else if (0 : Int) < (32 : Int) then (0 : Int) else (32 : Int)) < (32 : Int) then (32 : Int) else bif true then if (32 : Int) < (0 : Int) then (0 : Int) else (32 : Int) else if (0
 : Int) < (32 : Int) then (0 : Int) else (32 : Int) else if (32 : Int) < bif true then if (32 : Int) < (0 : Int) then (0 : Int) else (32 : Int) else if (0 : Int) < (32 : Int) then (0 : Int) else (32 : Int) then (32 : Int)
 else bif true then if (32 : Int) < (0 : Int) then (0 : Int) else (32 : Int) else if (0 : Int) < (32 : Int) then (0 : Int) else (32 : Int))) (vi 32),e ([]) (B.ws),e ((0 : Int)) (filtT B.ws),e ((0 : Int)) (B.asked),e
 (AVal.nils) (AVal.nils),e (vi 0) (vi B.life),e (vi 0) (vi B.job),e (vi 0) (vi B.part),e ((0 : Int)) ((↑B.i : Int)),e ((0 : Int)) (B.at_),e ((0 : Int)) (B.row),e ((0 : Int)) (B.seen),e ((0 : Int)) (B.val),e ((0 :
 Int)) (B.value),e ((0 : Int)) (B.cause),e ((0 : Int)) (B.stamp),e ((0 : Int)) (B.made),e (vi 0) (vi B.bk),e (vi 0) (vi B.bst),e ((0 : Int)) (B.bse),e ((0 : Int)) (B.bsp),e ([]) (B.rows),e ([]) (B.tk),e
 (AVal.bool false) (AVal.bool B.ph),e (constA (Value.int i64 (3 : Int))) (vi 3),e (constA (Value.int i64 (1 : Int))) (vi 1),e (constA (Value.int i64 (3 : Int))) (vi 3),kc 0,e (constA
 (Value.int i64 (4 : Int))) (vi 4)]
def R16 (B : YM) : EL := [e ((0 : Int)) (B.steps),e ((0 : Int)) (B.lk),e ((0 : Int)) (B.la),e ((0 : Int)) (B.lv),e ((0 : Int)) (B.ls),e (false) (B.ld),e (constA (Value.int i64 (3 : Int))) (vi 3),e (constA
 (Value.int i64 (1 : Int))) (vi 1),e (constA (Value.int i64 (3 : Int))) (vi 3),kc 0,e (constA (Value.int i64 (4 : Int))) (vi 4)]
def R17 (B : XM) : EL := [kc 3,kc 1,kc 3,kc 0,kc 4,e (W0) (B.W),e ((0 : Int)) (B.steps),e ((0 : Int)) (B.lk),e ((0 : Int)) (B.la),e ((0 : Int)) (B.lv),e ((0 : Int)) (B.ls),e (false) (B.ld),e (W0) (B.W)]
def R18 (B : YM) : EL := [e ((2 : Int)) (B.th),e ((2 : Int)) (B.c),e (constA (Value.int i64 (1000 : Int))) (vi 1000),e (AVal.int i64 (bif true then if (0 : Int) < bif false then if (32 : Int) < (32 :
 Int) then (32 : Int) else (32 : Int) else if (32 : Int) < (32 : Int) then (32 : Int) else (32 : Int) then bif false then if (32 : Int) < (32 : Int) then (32 : Int) else (32 : Int) else if (32 : Int) < (32 : Int) then (32
 : Int) else (32 : Int) else (0 : Int) else if (bif false then if (32 : Int) < (32 : Int) then (32 : Int) else (32 : Int) else if (32 : Int) < (32 : Int) then (32 : Int) else (32 : Int)) < (0 : Int) then bif false then if
 (32 : Int) < (32 : Int) then (32 : Int) else (32 : Int) else if (32 : Int) < (32 : Int) then (32 : Int) else (32 : Int) else (0 : Int))) (vi 32)]
def R19 (B : YM) : EL := [e ((0 : Int)) (B.th),e ((2 : Int)) (B.c),e (constA (Value.int i64 (1000 : Int))) (vi 1000),e (AVal.int i64 (bif true then if (0 : Int) < bif false then if (32 : Int) < (32 :
 Int) then (32 : Int) else (32 : Int) else if (32 : Int) < (32 : Int) then (32 : Int) else (32 : Int) then bif false then if (32 : Int) < (32 : Int) then (32 : Int) else (32 : Int) else if (32 : Int) < (32 : Int) then (32
 : Int) else (32 : Int) else (0 : Int) else if (bif false then if (32 : Int) < (32 : Int) then (32 : Int) else (32 : Int) else if (32 : Int) < (32 : Int) then (32 : Int) else (32 : Int)) < (0 : Int) then bif false then if
 (32 : Int) < (32 : Int) then (32 : Int) else (32 : Int) else if (32 : Int) < (32 : Int) then (32 : Int) else (32 : Int) else (0 : Int))) (vi 32)]
def R20 (B : XM) : EL := [e ((2 : Int)) (B.th),e ((2 : Int)) (B.c),e (constA (Value.int i64 (1000 : Int))) (vi 1000),e (AVal.int i64 (bif false then if (bif true then if (32 : Int) < (0 : Int) then (0 :
 Int) else (32 : Int) else if (0 : Int) < (32 : Int) then (0 : Int) else (32 : Int)) < (32 : Int) then (32 : Int) else bif true then if (32 : Int) < (0 : Int) then (0 : Int) else (32 : Int) else if (0 : Int) < (32 : Int)
 then (0 : Int) else (32 : Int) else if (32 : Int) < bif true then if (32 : Int) < (0 : Int) then (0 : Int) else (32 : Int) else if (0 : Int) < (32 : Int) then (0 : Int) else (32 : Int) then (32 : Int) else bif true then
 if (32 : Int) < (0 : Int) then (0 : Int) else (32 : Int) else if (0 : Int) < (32 : Int) then (0 : Int) else (32 : Int))) (vi 32),e ([]) (B.rs),e (AVal.int i64 (bif false then if (bif true then if (32 : Int) <
 (0 : Int) then (0 : Int) else (32 : Int) else if (0 : Int) < (32 : Int) then (0 : Int) else (32 : Int)) < (32 : Int) then (32 : Int) else bif true then if (32 : Int) < (0 : Int) then (0 : Int) else (32 : Int) else if (0
 : Int) < (32 : Int) then (0 : Int) else (32 : Int) else if (32 : Int) < bif true then if (32 : Int) < (0 : Int) then (0 : Int) else (32 : Int) else if (0 : Int) < (32 : Int) then (0 : Int) else (32 : Int) then (32 : Int)
 else bif true then if (32 : Int) < (0 : Int) then (0 : Int) else (32 : Int) else if (0 : Int) < (32 : Int) then (0 : Int) else (32 : Int))) (vi 32),e ([]) (B.ws),e ((0 : Int)) (filtT B.ws),e ((0 : Int)) (B.asked),e
 (AVal.nils) (AVal.nils),e (vi 0) (vi B.life),e (vi 0) (vi B.job),e (vi 0) (vi B.part),e ((0 : Int)) ((↑B.i : Int)),e ((0 : Int)) (B.at_),e ((0 : Int)) (B.row),e ((0 : Int)) (B.seen),e ((0 : Int)) (B.val),e ((0 :
 Int)) (B.value),e ((0 : Int)) (B.cause),e ((0 : Int)) (B.stamp),e ((0 : Int)) (B.made),e (vi 0) (vi B.bk),e (vi 0) (vi B.bst),e ((0 : Int)) (B.bse),e ((0 : Int)) (B.bsp),e ([]) (B.rows),e ([]) (B.tk),e
 (AVal.bool false) (AVal.bool B.ph),e (constA (Value.int i64 (3 : Int))) (vi 3),e (constA (Value.int i64 (1 : Int))) (vi 1),e (constA (Value.int i64 (3 : Int))) (vi 3),kc 0,e (constA
 (Value.int i64 (4 : Int))) (vi 4),e (constA (Value.bool false)) (AVal.bool false)]
def R21 (B : XM) : EL := [e ((0 : Int)) (B.th),e ((2 : Int)) (B.c),e (constA (Value.int i64 (1000 : Int))) (vi 1000),e (AVal.int i64 (bif false then if (bif true then if (32 : Int) < (0 : Int) then (0 :
 Int) else (32 : Int) else if (0 : Int) < (32 : Int) then (0 : Int) else (32 : Int)) < (32 : Int) then (32 : Int) else bif true then if (32 : Int) < (0 : Int) then (0 : Int) else (32 : Int) else if (0 : Int) < (32 : Int)
 then (0 : Int) else (32 : Int) else if (32 : Int) < bif true then if (32 : Int) < (0 : Int) then (0 : Int) else (32 : Int) else if (0 : Int) < (32 : Int) then (0 : Int) else (32 : Int) then (32 : Int) else bif true then
 if (32 : Int) < (0 : Int) then (0 : Int) else (32 : Int) else if (0 : Int) < (32 : Int) then (0 : Int) else (32 : Int))) (vi 32),e ([]) (B.rs),e (AVal.int i64 (bif false then if (bif true then if (32 : Int) <
 (0 : Int) then (0 : Int) else (32 : Int) else if (0 : Int) < (32 : Int) then (0 : Int) else (32 : Int)) < (32 : Int) then (32 : Int) else bif true then if (32 : Int) < (0 : Int) then (0 : Int) else (32 : Int) else if (0
 : Int) < (32 : Int) then (0 : Int) else (32 : Int) else if (32 : Int) < bif true then if (32 : Int) < (0 : Int) then (0 : Int) else (32 : Int) else if (0 : Int) < (32 : Int) then (0 : Int) else (32 : Int) then (32 : Int)
 else bif true then if (32 : Int) < (0 : Int) then (0 : Int) else (32 : Int) else if (0 : Int) < (32 : Int) then (0 : Int) else (32 : Int))) (vi 32),e ([]) (B.ws),e ((0 : Int)) (filtT B.ws),e ((0 : Int)) (B.asked),e
 (AVal.nils) (AVal.nils),e (vi 0) (vi B.life),e (vi 0) (vi B.job),e (vi 0) (vi B.part),e ((0 : Int)) ((↑B.i : Int)),e ((0 : Int)) (B.at_),e ((0 : Int)) (B.row),e ((0 : Int)) (B.seen),e ((0 : Int)) (B.val),e ((0 :
 Int)) (B.value),e ((0 : Int)) (B.cause),e ((0 : Int)) (B.stamp),e ((0 : Int)) (B.made),e (vi 0) (vi B.bk),e (vi 0) (vi B.bst),e ((0 : Int)) (B.bse),e ((0 : Int)) (B.bsp),e ([]) (B.rows),e ([]) (B.tk),e
 (AVal.bool false) (AVal.bool B.ph),e (constA (Value.int i64 (3 : Int))) (vi 3),e (constA (Value.int i64 (1 : Int))) (vi 1),e (constA (Value.int i64 (3 : Int))) (vi 3),kc 0,e (constA
 (Value.int i64 (4 : Int))) (vi 4)]
def R22 (A : XM) (B : XM) : EL := [kc 3,kc 1,kc 3,kc 0,kc 4,e (A.W) (B.W),e (A.steps) (B.steps),e (A.lk) (B.lk),e (A.la) (B.la),e (A.lv) (B.lv),e (A.ls) (B.ls),e (A.ld) (B.ld)]
def R23 (A : XM) (B : XM) : EL := [e (A.steps) (B.steps),e (A.lk) (B.lk),e (A.la) (B.la),e (A.lv) (B.lv),e (A.ls) (B.ls),e (A.ld) (B.ld),kc 32,e (filtT A.ws) (filtT B.ws),e (A.asked) (B.asked),kc 32,kc 3,kc 1,
 kc 3,kc 0,kc 4,e (A.th) (B.th),e (A.c) (B.c),kc 1000,e (AVal.nils) (AVal.nils),e (vi A.life) (vi B.life),e (vi A.job) (vi B.job),e (vi A.part) (vi B.part),e ((↑A.i : Int)) ((↑B.i : Int)),e (A.at_) (B.at_),e
 (A.row) (B.row),e (A.seen) (B.seen),e (A.val) (B.val),e (A.value) (B.value),e (A.cause) (B.cause),e (A.stamp) (B.stamp),e (A.made) (B.made),e (vi A.bk) (vi B.bk),e (vi A.bst) (vi B.bst),e (A.bse) (B.bse),e
 (A.bsp) (B.bsp),e (AVal.bool A.ph) (AVal.bool B.ph)]
def R24 (A : YM) (B : YM) : EL := [e (A.steps) (B.steps),e (A.lk) (B.lk),e (A.la) (B.la),e (A.lv) (B.lv),e (A.ls) (B.ls),e (A.ld) (B.ld),kc 3,kc 1,kc 3,kc 0,kc 4,e (AVal.bool false) (AVal.bool false),e (A.th)
 (B.th),e (A.c) (B.c),kc 1000,kc 32,kc 32,e (A.asked) (B.asked),e (AVal.nils) (AVal.nils),e (AVal.bool A.al) (AVal.bool B.al),e (AVal.bool A.su) (AVal.bool B.su),e (AVal.bool A.ph) (AVal.bool B.ph),e (AVal.bool
 false) (AVal.bool false),e (vi A.job) (vi B.job),e (vi A.st) (vi B.st),e ((↑A.i : Int)) ((↑B.i : Int)),kc 0,kc 0,e (A.at_) (B.at_),e (A.val) (B.val),e (A.seen) (B.seen),kc 0,e (A.value) (B.value),e (A.stamp)
 (B.stamp),e (A.made) (B.made),e (A.cause) (B.cause),e (vi A.ybk) (vi B.ybk),e (vi A.ybst) (vi B.ybst),e (A.ybse) (B.ybse),e (A.ybsp) (B.ybsp)]
def R25 (A : XM) (B : YM) : EL := [e (A.rs) (B.rs),e (A.ws) (B.ws),e (A.rows) (B.rows),e (List.map (fun (x : Wo) => x.vl) A.tk) (B.old),e (A.W) (B.W)]
def R26 (A : XM) (B : XM) : EL := [e (A.rs) (B.rs),e (A.ws) (B.ws),e (A.rows) (B.rows),e (A.tk) (B.tk),e (A.W) (B.W)]
def R27 (A : XM) (B : XM) : EL := [e (A.th) (B.th),e (A.c) (B.c),kc 1000,kc 32,e ([]) (B.rs),kc 32,e ([]) (B.ws),e ((0 : Int)) (filtT B.ws),e ((0 : Int)) (B.asked),e (AVal.nils) (AVal.nils),e (vi A.life) (vi
 B.life),e (vi A.job) (vi B.job),e (vi A.part) (vi B.part),e ((↑A.i : Int)) ((↑B.i : Int)),e (A.at_) (B.at_),e (A.row) (B.row),e (A.seen) (B.seen),e (A.val) (B.val),e (A.value) (B.value),e (A.cause) (B.cause),e
 (A.stamp) (B.stamp),e (A.made) (B.made),e (vi A.bk) (vi B.bk),e (vi A.bst) (vi B.bst),e (A.bse) (B.bse),e (A.bsp) (B.bsp),e ([]) (B.rows),e ([]) (B.tk),e (AVal.bool A.ph) (AVal.bool B.ph),kc 3,kc 1,kc 3,kc 0,
 kc 4]
def R28 (A : XM) (B : XM) : EL := [e (A.rs) (B.rs),e (A.ws) (B.ws),e (A.rows) (B.rows),e (A.tk) (B.tk),e (A.W) (B.W),e (A.steps) (B.steps),e (A.lk) (B.lk),e (A.la) (B.la),e (A.lv) (B.lv),e (A.ls) (B.ls),e (A.ld)
 (B.ld),kc 32,e (filtT A.ws) (filtT B.ws),e (A.asked) (B.asked),kc 32,kc 3,kc 1,kc 3,kc 0,kc 4,e (A.th) (B.th),e (A.c) (B.c),kc 1000,e (AVal.nils) (AVal.nils),e (vi A.life) (vi B.life),e (vi A.job) (vi
 B.job),e (vi A.part) (vi B.part),e ((↑A.i : Int)) ((↑B.i : Int)),e (A.at_) (B.at_),e (A.row) (B.row),e (A.seen) (B.seen),e (A.val) (B.val),e (A.value) (B.value),e (A.cause) (B.cause),e (A.stamp) (B.stamp),e
 (A.made) (B.made),e (vi A.bk) (vi B.bk),e (vi A.bst) (vi B.bst),e (A.bse) (B.bse),e (A.bsp) (B.bsp),e (AVal.bool A.ph) (AVal.bool B.ph)]
def R29 (A : XM) (B : XM) : EL := [e (A.th) (B.th),e (A.c) (B.c),kc 1000,kc 32,e ([]) (B.rs),kc 32,e ([]) (B.ws),e ((0 : Int)) (filtT B.ws),e ((0 : Int)) (B.asked),e (AVal.nils) (AVal.nils),e (vi A.life) (vi
 B.life),e (vi A.job) (vi B.job),e (vi A.part) (vi B.part),e ((↑A.i : Int)) ((↑B.i : Int)),e (A.at_) (B.at_),e (A.row) (B.row),e (A.seen) (B.seen),e (A.val) (B.val),e (A.value) (B.value),e (A.cause) (B.cause),e
 (A.stamp) (B.stamp),e (A.made) (B.made),e (vi A.bk) (vi B.bk),e (vi A.bst) (vi B.bst),e (A.bse) (B.bse),e (A.bsp) (B.bsp),e ([]) (B.rows),e ([]) (B.tk),e (AVal.bool A.ph) (AVal.bool B.ph),kc 3,kc 1,kc 3,kc 0,
 kc 4,e (AVal.bool false) (AVal.bool false)]
def A0 (s : LS) (S : XM) (O : XM) (z : Int) (k : Nat) (zo : Int) (ko : Nat) (l : List Bool) : EL := [e (l) (l)] ++ R7 S s.S ++ R6 (yz S z k) (yz s.S s.z s.k) ++ R5 S s.O ++ R4 O s.S ++ R2 (yz S z k) (yz s.O s.zo s.ko) ++
 [e (S.rs) (s.O.rs),kc 32,e ((yz S z k).asked) ((yz s.O s.zo s.ko).asked),e (S.ws) (s.O.ws)] ++ R1 (yz S z k) (yz s.O s.zo s.ko) ++ [e (S.rows) (s.O.rows),e (List.map (fun (x : Wo) => x.vl) S.tk) (List.map (fun (x :
 Wo) => x.vl) s.O.tk)] ++ R3 (yz S z k) (yz s.O s.zo s.ko) ++ R2 (yz O zo ko) (yz s.S s.z s.k) ++ [e (O.rs) (s.S.rs),kc 32,e ((yz O zo ko).asked) ((yz s.S s.z s.k).asked),e (O.ws) (s.S.ws)] ++ R1 (yz O zo ko) (yz s.S
 s.z s.k) ++ [e (O.rows) (s.S.rows),e (List.map (fun (x : Wo) => x.vl) O.tk) (List.map (fun (x : Wo) => x.vl) s.S.tk)] ++ R0 (yz O zo ko) (yz s.S s.z s.k)
def A1 (s : LS) (S : XM) (O : XM) (z : Int) (k : Nat) (zo : Int) (ko : Nat) (l : List Bool) : EL := [e (l) (l)] ++ R7 S s.S ++ R6 (yz S z k) (yz s.S s.z s.k) ++ R5 S s.S ++ R4 O s.O ++ R2 (yz S z k) (yz s.S s.z s.k) ++ [e
 (S.rs) (s.S.rs),kc 32,e ((yz S z k).asked) ((yz s.S s.z s.k).asked),e (S.ws) (s.S.ws)] ++ R1 (yz S z k) (yz s.S s.z s.k) ++ [e (S.rows) (s.S.rows),e (List.map (fun (x : Wo) => x.vl) S.tk) (List.map (fun (x : Wo) =>
 x.vl) s.S.tk)] ++ R3 (yz S z k) (yz s.S s.z s.k) ++ R2 (yz O zo ko) (yz s.O s.zo s.ko) ++ [e (O.rs) (s.O.rs),kc 32,e ((yz O zo ko).asked) ((yz s.O s.zo s.ko).asked),e (O.ws) (s.O.ws)] ++ R1 (yz O zo ko) (yz s.O s.zo
 s.ko) ++ [e (O.rows) (s.O.rows),e (List.map (fun (x : Wo) => x.vl) O.tk) (List.map (fun (x : Wo) => x.vl) s.O.tk)] ++ R0 (yz O zo ko) (yz s.O s.zo s.ko)
def A2 (s : LS) (l : List Bool) : EL := [e (l) (l)] ++ R17 s.S ++ R16 (yz s.S s.z s.k) ++ R15 s.S ++ R14 s.O ++ R13 (yz s.S s.z s.k) ++ [e ([]) (s.S.rs),e (AVal.int i64 (bif true then if (0 : Int) < bif false
 then if (32 : Int) < (32 : Int) then (32 : Int) else (32 : Int) else if (32 : Int) < (32 : Int) then (32 : Int) else (32 : Int) then bif false then if (32 : Int) < (32 : Int) then (32 : Int) else (32 : Int) else if (32 :
 Int) < (32 : Int) then (32 : Int) else (32 : Int) else (0 : Int) else if (bif false then if (32 : Int) < (32 : Int) then (32 : Int) else (32 : Int) else if (32 : Int) < (32 : Int) then (32 : Int) else (32 : Int)) < (0 :
 Int) then bif false then if (32 : Int) < (32 : Int) then (32 : Int) else (32 : Int) else if (32 : Int) < (32 : Int) then (32 : Int) else (32 : Int) else (0 : Int))) (vi 32),e ((0 : Int)) ((yz s.S s.z s.k).asked),e ([])
 (s.S.ws)] ++ R10 (yz s.S s.z s.k) ++ [e ([]) (s.S.rows),e ([]) (List.map (fun (x : Wo) => x.vl) s.S.tk)] ++ R12 (yz s.S s.z s.k) ++ R11 (yz s.O s.zo s.ko) ++ [e ([]) (s.O.rs),e (AVal.int i64 (bif true then if
 (0 : Int) < bif false then if (32 : Int) < (32 : Int) then (32 : Int) else (32 : Int) else if (32 : Int) < (32 : Int) then (32 : Int) else (32 : Int) then bif false then if (32 : Int) < (32 : Int) then (32 : Int) else
 (32 : Int) else if (32 : Int) < (32 : Int) then (32 : Int) else (32 : Int) else (0 : Int) else if (bif false then if (32 : Int) < (32 : Int) then (32 : Int) else (32 : Int) else if (32 : Int) < (32 : Int) then (32 : Int)
 else (32 : Int)) < (0 : Int) then bif false then if (32 : Int) < (32 : Int) then (32 : Int) else (32 : Int) else if (32 : Int) < (32 : Int) then (32 : Int) else (32 : Int) else (0 : Int))) (vi 32),e ((0 : Int)) ((yz s.O
 s.zo s.ko).asked),e ([]) (s.O.ws)] ++ R10 (yz s.O s.zo s.ko) ++ [e ([]) (s.O.rows),e ([]) (List.map (fun (x : Wo) => x.vl) s.O.tk)] ++ R9 (yz s.O s.zo s.ko)
def A3 (s : LS) (l : List Bool) : EL := [e (l) (l)] ++ R17 s.S ++ R16 (yz s.S s.z s.k) ++ R21 s.S ++ R20 s.O ++ R19 (yz s.S s.z s.k) ++ [e ([]) (s.S.rs),e (AVal.int i64 (bif true then if (0 : Int) < bif false
 then if (32 : Int) < (32 : Int) then (32 : Int) else (32 : Int) else if (32 : Int) < (32 : Int) then (32 : Int) else (32 : Int) then bif false then if (32 : Int) < (32 : Int) then (32 : Int) else (32 : Int) else if (32 :
 Int) < (32 : Int) then (32 : Int) else (32 : Int) else (0 : Int) else if (bif false then if (32 : Int) < (32 : Int) then (32 : Int) else (32 : Int) else if (32 : Int) < (32 : Int) then (32 : Int) else (32 : Int)) < (0 :
 Int) then bif false then if (32 : Int) < (32 : Int) then (32 : Int) else (32 : Int) else if (32 : Int) < (32 : Int) then (32 : Int) else (32 : Int) else (0 : Int))) (vi 32),e ((0 : Int)) ((yz s.S s.z s.k).asked),e ([])
 (s.S.ws)] ++ R10 (yz s.S s.z s.k) ++ [e ([]) (s.S.rows),e ([]) (List.map (fun (x : Wo) => x.vl) s.S.tk)] ++ R12 (yz s.S s.z s.k) ++ R18 (yz s.O s.zo s.ko) ++ [e ([]) (s.O.rs),e (AVal.int i64 (bif true then if
 (0 : Int) < bif false then if (32 : Int) < (32 : Int) then (32 : Int) else (32 : Int) else if (32 : Int) < (32 : Int) then (32 : Int) else (32 : Int) then bif false then if (32 : Int) < (32 : Int) then (32 : Int) else
 (32 : Int) else if (32 : Int) < (32 : Int) then (32 : Int) else (32 : Int) else (0 : Int) else if (bif false then if (32 : Int) < (32 : Int) then (32 : Int) else (32 : Int) else if (32 : Int) < (32 : Int) then (32 : Int)
 else (32 : Int)) < (0 : Int) then bif false then if (32 : Int) < (32 : Int) then (32 : Int) else (32 : Int) else if (32 : Int) < (32 : Int) then (32 : Int) else (32 : Int) else (0 : Int))) (vi 32),e ((0 : Int)) ((yz s.O
 s.zo s.ko).asked),e ([]) (s.O.ws)] ++ R10 (yz s.O s.zo s.ko) ++ [e ([]) (s.O.rows),e ([]) (List.map (fun (x : Wo) => x.vl) s.O.tk)] ++ R9 (yz s.O s.zo s.ko)
def A4 (y : XM × YM) (s : LS) (O : XM) (zo : Int) (ko : Nat) (l : List Bool) : EL := [e (l) (l)] ++ R22 y.fst s.S ++ [e (y.snd.W) (s.S.W)] ++ R6 y.snd (yz s.S s.z s.k) ++ R5 y.fst s.S ++ R4 O s.O ++ R2 y.snd (yz s.S s.z
 s.k) ++ [e (y.snd.rs) (s.S.rs),kc 32,e (y.snd.asked) ((yz s.S s.z s.k).asked),e (y.snd.ws) (s.S.ws)] ++ R1 y.snd (yz s.S s.z s.k) ++ [e (y.snd.rows) (s.S.rows),e (y.snd.old) (List.map (fun (x : Wo) => x.vl) s.S.tk)]
 ++ R3 y.snd (yz s.S s.z s.k) ++ R2 (yz O zo ko) (yz s.O s.zo s.ko) ++ [e (O.rs) (s.O.rs),kc 32,e ((yz O zo ko).asked) ((yz s.O s.zo s.ko).asked),e (O.ws) (s.O.ws)] ++ R1 (yz O zo ko) (yz s.O s.zo s.ko) ++ [e (O.rows)
 (s.O.rows),e (List.map (fun (x : Wo) => x.vl) O.tk) (List.map (fun (x : Wo) => x.vl) s.O.tk)] ++ R0 (yz O zo ko) (yz s.O s.zo s.ko)
def A5 (y : XM × YM) (s : LS) (O : XM) (zo : Int) (ko : Nat) (l : List Bool) : EL := [e (l) (l)] ++ R22 y.fst s.S ++ [e (y.snd.W) (s.S.W)] ++ R6 y.snd (yz s.S s.z s.k) ++ R5 O s.S ++ R4 y.fst s.O ++ R2 (yz O zo ko) (yz
 s.S s.z s.k) ++ [e (O.rs) (s.S.rs),kc 32,e ((yz O zo ko).asked) ((yz s.S s.z s.k).asked),e (O.ws) (s.S.ws)] ++ R1 (yz O zo ko) (yz s.S s.z s.k) ++ [e (O.rows) (s.S.rows),e (List.map (fun (x : Wo) => x.vl) O.tk)
 (List.map (fun (x : Wo) => x.vl) s.S.tk)] ++ R3 (yz O zo ko) (yz s.S s.z s.k) ++ R2 y.snd (yz s.O s.zo s.ko) ++ [e (y.snd.rs) (s.O.rs),kc 32,e (y.snd.asked) ((yz s.O s.zo s.ko).asked),e (y.snd.ws) (s.O.ws)] ++ R1
 y.snd (yz s.O s.zo s.ko) ++ [e (y.snd.rows) (s.O.rows),e (y.snd.old) (List.map (fun (x : Wo) => x.vl) s.O.tk)] ++ R0 y.snd (yz s.O s.zo s.ko)
def A6 (y : XM) (y_1 : YM) (s : LS) (O : XM) (zo : Int) (ko : Nat) (l : List Bool) : EL := [e (l) (l)] ++ R22 y s.S ++ [e (y_1.W) (s.S.W)] ++ R6 y_1 (yz s.S s.z s.k) ++ R27 y s.S ++ R4 O s.O ++ R2 y_1 (yz s.S s.z s.k) ++
 [e ([]) (s.S.rs),kc 32,e ((0 : Int)) ((yz s.S s.z s.k).asked),e ([]) (s.S.ws)] ++ R1 y_1 (yz s.S s.z s.k) ++ [e ([]) (s.S.rows),e ([]) (List.map (fun (x : Wo) => x.vl) s.S.tk)] ++ R3 y_1 (yz s.S s.z s.k) ++ R2 (yz O
 zo ko) (yz s.O s.zo s.ko) ++ [e (O.rs) (s.O.rs),kc 32,e ((yz O zo ko).asked) ((yz s.O s.zo s.ko).asked),e (O.ws) (s.O.ws)] ++ R1 (yz O zo ko) (yz s.O s.zo s.ko) ++ [e (O.rows) (s.O.rows),e (List.map (fun (x : Wo) =>
 x.vl) O.tk) (List.map (fun (x : Wo) => x.vl) s.O.tk)] ++ R0 (yz O zo ko) (yz s.O s.zo s.ko)
def A7 (y : XM) (y_1 : YM) (s : LS) (O : XM) (zo : Int) (ko : Nat) (l : List Bool) : EL := [e (l) (l)] ++ R22 y s.S ++ [e (y_1.W) (s.S.W)] ++ R6 y_1 (yz s.S s.z s.k) ++ R5 y s.S ++ R4 O s.O ++ R2 y_1 (yz s.S s.z s.k) ++
 [e (y_1.rs) (s.S.rs),kc 32,e (y_1.asked) ((yz s.S s.z s.k).asked),e (y_1.ws) (s.S.ws)] ++ R1 y_1 (yz s.S s.z s.k) ++ [e (y_1.rows) (s.S.rows),e (y_1.old) (List.map (fun (x : Wo) => x.vl) s.S.tk)] ++ R3 y_1 (yz s.S
 s.z s.k) ++ R2 (yz O zo ko) (yz s.O s.zo s.ko) ++ [e (O.rs) (s.O.rs),kc 32,e ((yz O zo ko).asked) ((yz s.O s.zo s.ko).asked),e (O.ws) (s.O.ws)] ++ R1 (yz O zo ko) (yz s.O s.zo s.ko) ++ [e (O.rows) (s.O.rows),e
 (List.map (fun (x : Wo) => x.vl) O.tk) (List.map (fun (x : Wo) => x.vl) s.O.tk)] ++ R0 (yz O zo ko) (yz s.O s.zo s.ko)
def A8 (y : XM) (y_1 : YM) (s : LS) (O : XM) (zo : Int) (ko : Nat) (l : List Bool) : EL := [e (l) (l)] ++ R22 y s.S ++ [e (y_1.W) (s.S.W)] ++ R6 y_1 (yz s.S s.z s.k) ++ R5 O s.O ++ R29 y s.S ++ R2 (yz O zo ko) (yz s.O
 s.zo s.ko) ++ [e (O.rs) (s.O.rs),kc 32,e ((yz O zo ko).asked) ((yz s.O s.zo s.ko).asked),e (O.ws) (s.O.ws)] ++ R1 (yz O zo ko) (yz s.O s.zo s.ko) ++ [e (O.rows) (s.O.rows),e (List.map (fun (x : Wo) => x.vl) O.tk)
 (List.map (fun (x : Wo) => x.vl) s.O.tk)] ++ R3 (yz O zo ko) (yz s.O s.zo s.ko) ++ R2 y_1 (yz s.S s.z s.k) ++ [e ([]) (s.S.rs),kc 32,e ((0 : Int)) ((yz s.S s.z s.k).asked),e ([]) (s.S.ws)] ++ R1 y_1 (yz s.S s.z s.k)
 ++ [e ([]) (s.S.rows),e ([]) (List.map (fun (x : Wo) => x.vl) s.S.tk)] ++ R0 y_1 (yz s.S s.z s.k)
def A9 (y : XM) (y_1 : YM) (s : LS) (O : XM) (zo : Int) (ko : Nat) (l : List Bool) : EL := [e (l) (l)] ++ R22 y s.S ++ [e (y_1.W) (s.S.W)] ++ R6 y_1 (yz s.S s.z s.k) ++ R5 O s.O ++ R4 y s.S ++ R2 (yz O zo ko) (yz s.O s.zo
 s.ko) ++ [e (O.rs) (s.O.rs),kc 32,e ((yz O zo ko).asked) ((yz s.O s.zo s.ko).asked),e (O.ws) (s.O.ws)] ++ R1 (yz O zo ko) (yz s.O s.zo s.ko) ++ [e (O.rows) (s.O.rows),e (List.map (fun (x : Wo) => x.vl) O.tk)
 (List.map (fun (x : Wo) => x.vl) s.O.tk)] ++ R3 (yz O zo ko) (yz s.O s.zo s.ko) ++ R2 y_1 (yz s.S s.z s.k) ++ [e (y_1.rs) (s.S.rs),kc 32,e (y_1.asked) ((yz s.S s.z s.k).asked),e (y_1.ws) (s.S.ws)] ++ R1 y_1 (yz s.S
 s.z s.k) ++ [e (y_1.rows) (s.S.rows),e (y_1.old) (List.map (fun (x : Wo) => x.vl) s.S.tk)] ++ R0 y_1 (yz s.S s.z s.k)
abbrev K0 (s : LS) (i : Nat) (a : List Op) (b : List Op) (l : List Bool) : Prop := (a = a) ∧ (b = b) ∧ ((↑i : Int) = (↑s.i : Int)) ∧ (constA (Value.int i64 (1 : Int)) = AVal.int i64 (bif true then (1 :
 Int) else (0 : Int))) ∧ ((LI false s.i (nP [a,b] true) (nP [a,b] false) s) ∧ (s.i < l.length) ∧ lenOk l [a,b]) ∧ (((200 : Nat) - s.i) * (3 : Nat) - (1 : Nat) < ((200 : Nat) - i) * (3 : Nat)) ∧ True
abbrev K1 (s : LS) (i : Nat) (a : List Op) (b : List Op) (l : List Bool) : Prop := (a = a) ∧ (b = b) ∧ ((↑i : Int) = (↑s.i : Int)) ∧ (constA (Value.int i64 (0 : Int)) = AVal.int i64 (bif false then (1 :
 Int) else (0 : Int))) ∧ ((LI false s.i (nP [a,b] false) (nP [a,b] true) s) ∧ (s.i < l.length) ∧ lenOk l [a,b]) ∧ (((200 : Nat) - s.i) * (3 : Nat) - (1 : Nat) < ((200 : Nat) - i) * (3 : Nat)) ∧ True
abbrev K2 (s : LS) (a : List Op) (b : List Op) (l : List Bool) : Prop := ([a,b].getD (0 : Nat) [] = a) ∧ ([a,b].getD (1 : Nat) [] = b) ∧ ((0 : Int) = (↑s.i : Int)) ∧ ((LI false s.i (nP [a,b] false) (nP [a,b] true) s)
 ∧ (s.i ≤ l.length) ∧ lenOk l [a,b]) ∧ (((200 : Nat) - s.i) * (3 : Nat) < (1000 : Nat)) ∧ True
abbrev K3 (s : LS) (i : Nat) (a : List Op) (b : List Op) (l : List Bool) : Prop := (a = a) ∧ (b = b) ∧ (i64.wrap ((↑i : Int) + (1 : Int)) = (↑s.i : Int)) ∧ ((LI false s.i (nP [a,b] false) (nP [a,b] true) s) ∧
 (s.i ≤ l.length) ∧ lenOk l [a,b]) ∧ (((200 : Nat) - s.i) * (3 : Nat) < ((200 : Nat) - i) * (3 : Nat) - (2 : Nat)) ∧ True
abbrev K4 (s : LS) (i : Nat) (a : List Op) (b : List Op) (l : List Bool) : Prop := (a = a) ∧ (b = b) ∧ ((↑i : Int) = (↑s.i : Int)) ∧ (AVal.int i64 (bif false then (1 : Int) else (0 : Int)) = AVal.int i64
 (bif false then (1 : Int) else (0 : Int))) ∧ ((LI true (s.i + (1 : Nat)) (nP [a,b] false) (nP [a,b] true) s) ∧ (s.i < l.length) ∧ lenOk l [a,b]) ∧ (((200 : Nat) - s.i) * (3 : Nat) - (2 : Nat) < ((200 : Nat) - i) * (3
 : Nat) - (1 : Nat)) ∧ True
abbrev K5 (s : LS) (i : Nat) (a : List Op) (b : List Op) (l : List Bool) : Prop := (a = a) ∧ (b = b) ∧ ((↑i : Int) = (↑s.i : Int)) ∧ (AVal.int i64 (bif true then (1 : Int) else (0 : Int)) = AVal.int i64
 (bif true then (1 : Int) else (0 : Int))) ∧ ((LI true (s.i + (1 : Nat)) (nP [a,b] true) (nP [a,b] false) s) ∧ (s.i < l.length) ∧ lenOk l [a,b]) ∧ (((200 : Nat) - s.i) * (3 : Nat) - (2 : Nat) < ((200 : Nat) - i) * (3 :
 Nat) - (1 : Nat)) ∧ True
abbrev B0 (y : XM) (y_1 : YM) (O : XM) (zo : Int) (ko : Nat) (i : Nat) (a : List Op) (b : List Op) (l : List Bool) (aS : Int) (bS : Int) (aO : Int) (bO : Int) : Prop := (((y.code != y_1.code) = true) → (false = true) ∧
 True) ∧ (((y.code != y_1.code) = false) → (((y.steps == y_1.steps) = true) → (((!(y.lk == y_1.lk && (y.la == y_1.la && (y.lv == y_1.lv && (y.ls == y_1.ls && (y.ld == y_1.ld && true)))))) = true) → (false = true) ∧ True)
 ∧ (((!(y.lk == y_1.lk && (y.la == y_1.la && (y.lv == y_1.lv && (y.ls == y_1.ls && (y.ld == y_1.ld && true)))))) = false) → (((y.code != (0 : Int)) = true) → (((y.code == (2 : Int)) = true) → ∃ (s : LS),Eqs (A7 y y_1 s O
 zo ko l) (((0 : Int) = s.aS) ∧ (aO = s.aO) ∧ ((0 : Int) = s.bS) ∧ (bO = s.bO) ∧ K4 s i a b l)) ∧ (((y.code == (2 : Int)) = false) → ∃ (s : LS),Eqs (A7 y y_1 s O zo ko l) ((aS = s.aS) ∧ (aO = s.aO) ∧ ((0 : Int) = s.bS) ∧
 (bO = s.bO) ∧ K4 s i a b l))) ∧ (((y.code != (0 : Int)) = false) → (((y.code == (2 : Int)) = true) → ∃ (s : LS),Eqs (A7 y y_1 s O zo ko l) (((0 : Int) = s.aS) ∧ (aO = s.aO) ∧ (bS = s.bS) ∧ (bO = s.bO) ∧ K4 s i a b l)) ∧
 (((y.code == (2 : Int)) = false) → ∃ (s : LS),Eqs (A7 y y_1 s O zo ko l) ((aS = s.aS) ∧ (aO = s.aO) ∧ (bS = s.bS) ∧ (bO = s.bO) ∧ K4 s i a b l))))) ∧ (((y.steps == y_1.steps) = false) → (false = true) ∧ True))
abbrev B1 (y : XM) (y_1 : YM) (O : XM) (zo : Int) (ko : Nat) (i : Nat) (a : List Op) (b : List Op) (l : List Bool) (aS : Int) (bS : Int) (aO : Int) (bO : Int) : Prop := (((y.code != y_1.code) = true) → (false = true) ∧
 True) ∧ (((y.code != y_1.code) = false) → (((y.steps == y_1.steps) = true) → (((!(y.lk == y_1.lk && (y.la == y_1.la && (y.lv == y_1.lv && (y.ls == y_1.ls && (y.ld == y_1.ld && true)))))) = true) → (false = true) ∧ True)
 ∧ (((!(y.lk == y_1.lk && (y.la == y_1.la && (y.lv == y_1.lv && (y.ls == y_1.ls && (y.ld == y_1.ld && true)))))) = false) → (((y.code != (0 : Int)) = true) → (((y.code == (2 : Int)) = true) → ∃ (s : LS),Eqs (A9 y y_1 s O
 zo ko l) ((aO = s.aO) ∧ ((0 : Int) = s.aS) ∧ (bO = s.bO) ∧ ((0 : Int) = s.bS) ∧ K5 s i a b l)) ∧ (((y.code == (2 : Int)) = false) → ∃ (s : LS),Eqs (A9 y y_1 s O zo ko l) ((aO = s.aO) ∧ (aS = s.aS) ∧ (bO = s.bO) ∧ ((0 :
 Int) = s.bS) ∧ K5 s i a b l))) ∧ (((y.code != (0 : Int)) = false) → (((y.code == (2 : Int)) = true) → ∃ (s : LS),Eqs (A9 y y_1 s O zo ko l) ((aO = s.aO) ∧ ((0 : Int) = s.aS) ∧ (bO = s.bO) ∧ (bS = s.bS) ∧ K5 s i a b l))
 ∧ (((y.code == (2 : Int)) = false) → ∃ (s : LS),Eqs (A9 y y_1 s O zo ko l) ((aO = s.aO) ∧ (aS = s.aS) ∧ (bO = s.bO) ∧ (bS = s.bS) ∧ K5 s i a b l))))) ∧ (((y.steps == y_1.steps) = false) → (false = true) ∧ True))
end Go.Proofs.YtmjjljngaefpaaaGreat
