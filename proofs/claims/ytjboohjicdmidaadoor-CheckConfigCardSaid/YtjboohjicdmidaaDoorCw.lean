/- syncopelaw6.CheckConfig: what its own text owes is paid. -/
import Derived.Test.YtjboohjicdmidaaDoorCv
namespace Go.Proofs.YtjboohjicdmidaaDoor
open Go.RowKit Go.Am Go.Sy
set_option linter.unusedVariables false

theorem mt_a : Go.Sy.Tree.holds (entryX F (lookC []) 200 Tryd.f32 b32 ⟨[(5, noC)], .tup [.R 0, .i .i64 (-1)], [.rows 0 [] true 0]⟩ [.tl (T := T) 2 []]) = ( ((0 : Int) ≤ 0 ∧ (0 : Int) = 0 ∧ (0 : Int) ≤ 281474976710656 ∧ (0
 : Int) ≤ 9223372036854775807) ∧ (false = true → ∃ (s : Unit), False ∧ True) ∧ (false = false → List.replicate (0 : Nat) (0 : Int) = [] ∧ (-1 : Int) = (-1 : Int) ∧ True)) := by kernel_rfl
theorem mt_b : Go.Sy.Tree.holds (entryX F (lookC []) 200 Tryd.f59 b59 ⟨[(6, noC)], .tup [.R 0, .i .i64 (-1)], [.rows 0 [] true 0]⟩ [.tl (T := T) 2 []]) = ( ((0 : Int) ≤ 0 ∧ (0 : Int) = 0 ∧ (0 : Int) ≤ 281474976710656 ∧ (0
 : Int) ≤ 9223372036854775807) ∧ (false = true → ∃ (s : Unit), False ∧ True) ∧ (false = false → List.replicate (0 : Nat) (0 : Int) = [] ∧ (-1 : Int) = (-1 : Int) ∧ True)) := by kernel_rfl
theorem cp_e (c : Config) (t : Int) : Go.Sy.Tree.holds (entryX F (lookC v1) 200 Tryd.f16 b16 ⟨[(8, noC), (18, noC)], .a .nili, []⟩ [.agg (enc4 c), .i .i64 t]) = ( wiD.pre (t, (0 : Int), IntKind.i64.wrap ((↑c.progs.length
 : Int) - 1), ()) ∧ ((!wi t (0 : Int) (IntKind.i64.wrap ((↑c.progs.length : Int) - 1))) = true → newD.pre ((1 : Int), ()) ∧ ∃ (y : Int × List P), newV (1 : Int) = ch y.fst y.snd ∧ putC.pre (y, t, (-1 : Int), ()) ∧ putZ
 (y, t, (-1 : Int), ()) = AVal.nili ∧ True) ∧ ((!wi t (0 : Int) (IntKind.i64.wrap ((↑c.progs.length : Int) - 1))) = false → ((0 : Int) ≤ t ∧ t < (↑c.progs.length : Int)) ∧ (decide ((↑(at3 c.progs t).length : Int) > 48) =
 true → newD.pre ((4 : Int), ()) ∧ ∃ (y : Int × List P), newV (4 : Int) = ch y.fst y.snd ∧ putC.pre (y, t, (-1 : Int), ()) ∧ putZ (y, t, (-1 : Int), ()) = AVal.nili ∧ True) ∧ (decide ((↑(at3 c.progs t).length : Int) > 48)
 = false → (decide ((0 : Int) < (↑(at3 c.progs t).length : Int)) = true → ∃ (s : Unit), False ∧ True) ∧ (decide ((0 : Int) < (↑(at3 c.progs t).length : Int)) = false → mt0.pre (at3 c.progs t, ()) ∧ (false = true →
 newD.pre ((5 : Int), ()) ∧ ∃ (y : Int × List P), newV (5 : Int) = ch y.fst y.snd ∧ putC.pre (y, t, (-1 : Int), ()) ∧ putZ (y, t, (-1 : Int), ()) = AVal.nili ∧ True) ∧ (false = false → (decide ((0 : Int) < (↑(at3 c.progs
 t).length : Int)) = true → ∃ (s : Unit), False ∧ True) ∧ (decide ((0 : Int) < (↑(at3 c.progs t).length : Int)) = false → constA Value.nilIface = AVal.nili ∧ True)))))) := by kernel_rfl
theorem rp_e (c : Config) (t : Int) : Go.Sy.Tree.holds (entryX F (lookC v2) 200 Tryd.f52 b52 ⟨[(9, noC), (18, noC)], .tup [.i .i64 0, .i .i64 0], []⟩ [.agg (enc4 c), .i .i64 t]) = ( (decide (t < 0) = true → (1 : Int) = 0
 ∧ (-1 : Int) = 0 ∧ True) ∧ (decide (t < 0) = false → (decide (t ≥ (↑c.progs.length : Int)) = true → (1 : Int) = 0 ∧ (-1 : Int) = 0 ∧ True) ∧ (decide (t ≥ (↑c.progs.length : Int)) = false → ((0 : Int) ≤ t ∧ t <
 (↑c.progs.length : Int)) ∧ (decide ((↑(at3 c.progs t).length : Int) > 48) = true → (4 : Int) = 0 ∧ (-1 : Int) = 0 ∧ True) ∧ (decide ((↑(at3 c.progs t).length : Int) > 48) = false → (decide ((0 : Int) < (↑(at3 c.progs
 t).length : Int)) = true → ∃ (s : Unit), False ∧ True) ∧ (decide ((0 : Int) < (↑(at3 c.progs t).length : Int)) = false → mt0.pre (at3 c.progs t, ()) ∧ (false = true → (5 : Int) = 0 ∧ (-1 : Int) = 0 ∧ True) ∧ (false =
 false → (decide ((0 : Int) < (↑(at3 c.progs t).length : Int)) = true → ∃ (s : Unit), False ∧ True) ∧ (decide ((0 : Int) < (↑(at3 c.progs t).length : Int)) = false → (0 : Int) = 0 ∧ (0 : Int) = 0 ∧ True))))))) := by
 kernel_rfl
theorem cc_e (k : K8) (ls : List Lock) (cs : List Int) (wo th : Int) (raw : Bool) : Go.Sy.Tree.holds (entryX F (lookC v3) 400 Tryd.f8 b8 ⟨[], .b true, []⟩ [.agg (enc7 k), .tl (T := T) 1 ls, .tl (T := T) 0 cs, .i .i64 wo,
 .i .i64 th, .b raw]) = ( (decide ((↑ls.length : Int) > 6) = true → true = true ∧ True) ∧ (decide ((↑ls.length : Int) > 6) = false → (decide ((↑cs.length : Int) > 6) = true → true = true ∧ True) ∧ (decide ((↑cs.length :
 Int) > 6) = false → ((IntKind.i64.wrap ((IntKind.u64.wrap k.h).tmod 4) == 1) = true → (decide (IntKind.i64.wrap ((IntKind.u64.wrap k.e).tmod 5) > 0) = true → (raw = true → ((0 : Int) ≤ IntKind.i64.wrap ((IntKind.u64.wrap
 wo).tmod 36) ∧ IntKind.i64.wrap ((IntKind.u64.wrap wo).tmod 36) = IntKind.i64.wrap ((IntKind.u64.wrap wo).tmod 36) ∧ IntKind.i64.wrap ((IntKind.u64.wrap wo).tmod 36) * 8 ≤ 281474976710656 ∧ IntKind.i64.wrap
 ((IntKind.u64.wrap wo).tmod 36) ≤ 9223372036854775807) ∧ ((0 : Int) ≤ IntKind.i64.wrap ((IntKind.u64.wrap th).tmod 7) ∧ IntKind.i64.wrap ((IntKind.u64.wrap th).tmod 7) = IntKind.i64.wrap ((IntKind.u64.wrap th).tmod 7) ∧
 IntKind.i64.wrap ((IntKind.u64.wrap th).tmod 7) * 24 ≤ 281474976710656 ∧ IntKind.i64.wrap ((IntKind.u64.wrap th).tmod 7) ≤ 9223372036854775807) ∧ (akD Q0).pre (Config.mk k.a k.b k.c k.d k.e k.f k.g k.h (List.replicate
 (IntKind.i64.wrap ((IntKind.u64.wrap wo).tmod 36)).toNat (0 : Int)) ls cs (List.replicate (IntKind.i64.wrap ((IntKind.u64.wrap th).tmod 7)).toNat []), ()) ∧ true = true ∧ True) ∧ (raw = false → ((0 : Int) ≤
 IntKind.i64.wrap ((IntKind.u64.wrap wo).tmod 36) ∧ IntKind.i64.wrap ((IntKind.u64.wrap wo).tmod 36) = IntKind.i64.wrap ((IntKind.u64.wrap wo).tmod 36) ∧ IntKind.i64.wrap ((IntKind.u64.wrap wo).tmod 36) * 8 ≤
 281474976710656 ∧ IntKind.i64.wrap ((IntKind.u64.wrap wo).tmod 36) ≤ 9223372036854775807) ∧ ((0 : Int) ≤ IntKind.i64.wrap ((IntKind.u64.wrap th).tmod 7) ∧ IntKind.i64.wrap ((IntKind.u64.wrap th).tmod 7) =
 IntKind.i64.wrap ((IntKind.u64.wrap th).tmod 7) ∧ IntKind.i64.wrap ((IntKind.u64.wrap th).tmod 7) * 24 ≤ 281474976710656 ∧ IntKind.i64.wrap ((IntKind.u64.wrap th).tmod 7) ≤ 9223372036854775807) ∧ (akD Q0).pre (Config.mk
 (IntKind.i64.wrap ((1 : Int) + IntKind.i64.wrap ((IntKind.u64.wrap k.a).tmod 2))) (IntKind.i64.wrap ((1 : Int) + IntKind.i64.wrap ((IntKind.u64.wrap k.b).tmod 2))) (IntKind.i64.wrap ((1 : Int) + IntKind.i64.wrap
 ((IntKind.u64.wrap k.c).tmod 7))) (IntKind.i64.wrap ((32 : Int) - IntKind.i64.wrap (IntKind.i64.wrap ((IntKind.u64.wrap k.d).tmod 4) * 9))) (32 : Int) (IntKind.i64.wrap ((IntKind.u64.wrap k.f).tmod 4)) (IntKind.i64.wrap
 ((20 : Int) + IntKind.i64.wrap ((IntKind.u64.wrap k.g).tmod 60))) (IntKind.i64.wrap ((IntKind.u64.wrap (IntKind.i64.wrap (k.h.tdiv 4))).tmod 12)) (List.replicate (IntKind.i64.wrap ((IntKind.u64.wrap wo).tmod 36)).toNat
 (0 : Int)) ls cs (List.replicate (IntKind.i64.wrap ((IntKind.u64.wrap th).tmod 7)).toNat []), ()) ∧ true = true ∧ True)) ∧ (decide (IntKind.i64.wrap ((IntKind.u64.wrap k.e).tmod 5) > 0) = false → (raw = true → ((0 : Int)
 ≤ IntKind.i64.wrap ((IntKind.u64.wrap wo).tmod 36) ∧ IntKind.i64.wrap ((IntKind.u64.wrap wo).tmod 36) = IntKind.i64.wrap ((IntKind.u64.wrap wo).tmod 36) ∧ IntKind.i64.wrap ((IntKind.u64.wrap wo).tmod 36) * 8 ≤
 281474976710656 ∧ IntKind.i64.wrap ((IntKind.u64.wrap wo).tmod 36) ≤ 9223372036854775807) ∧ ((0 : Int) ≤ IntKind.i64.wrap ((IntKind.u64.wrap th).tmod 7) ∧ IntKind.i64.wrap ((IntKind.u64.wrap th).tmod 7) =
 IntKind.i64.wrap ((IntKind.u64.wrap th).tmod 7) ∧ IntKind.i64.wrap ((IntKind.u64.wrap th).tmod 7) * 24 ≤ 281474976710656 ∧ IntKind.i64.wrap ((IntKind.u64.wrap th).tmod 7) ≤ 9223372036854775807) ∧ (akD Q0).pre (Config.mk
 k.a k.b k.c k.d k.e k.f k.g k.h (List.replicate (IntKind.i64.wrap ((IntKind.u64.wrap wo).tmod 36)).toNat (0 : Int)) ls cs (List.replicate (IntKind.i64.wrap ((IntKind.u64.wrap th).tmod 7)).toNat []), ()) ∧ true = true ∧
 True) ∧ (raw = false → ((0 : Int) ≤ IntKind.i64.wrap ((IntKind.u64.wrap wo).tmod 36) ∧ IntKind.i64.wrap ((IntKind.u64.wrap wo).tmod 36) = IntKind.i64.wrap ((IntKind.u64.wrap wo).tmod 36) ∧ IntKind.i64.wrap
 ((IntKind.u64.wrap wo).tmod 36) * 8 ≤ 281474976710656 ∧ IntKind.i64.wrap ((IntKind.u64.wrap wo).tmod 36) ≤ 9223372036854775807) ∧ ((0 : Int) ≤ IntKind.i64.wrap ((IntKind.u64.wrap th).tmod 7) ∧ IntKind.i64.wrap
 ((IntKind.u64.wrap th).tmod 7) = IntKind.i64.wrap ((IntKind.u64.wrap th).tmod 7) ∧ IntKind.i64.wrap ((IntKind.u64.wrap th).tmod 7) * 24 ≤ 281474976710656 ∧ IntKind.i64.wrap ((IntKind.u64.wrap th).tmod 7) ≤
 9223372036854775807) ∧ (akD Q0).pre (Config.mk (IntKind.i64.wrap ((1 : Int) + IntKind.i64.wrap ((IntKind.u64.wrap k.a).tmod 2))) (IntKind.i64.wrap ((1 : Int) + IntKind.i64.wrap ((IntKind.u64.wrap k.b).tmod 2)))
 (IntKind.i64.wrap ((1 : Int) + IntKind.i64.wrap ((IntKind.u64.wrap k.c).tmod 7))) (IntKind.i64.wrap ((32 : Int) - IntKind.i64.wrap (IntKind.i64.wrap ((IntKind.u64.wrap k.d).tmod 4) * 9))) (IntKind.i64.wrap ((1 : Int) +
 IntKind.i64.wrap ((IntKind.u64.wrap k.e).tmod 12))) (IntKind.i64.wrap ((IntKind.u64.wrap k.f).tmod 4)) (IntKind.i64.wrap ((20 : Int) + IntKind.i64.wrap ((IntKind.u64.wrap k.g).tmod 60))) (IntKind.i64.wrap
 ((IntKind.u64.wrap (IntKind.i64.wrap (k.h.tdiv 4))).tmod 12)) (List.replicate (IntKind.i64.wrap ((IntKind.u64.wrap wo).tmod 36)).toNat (0 : Int)) ls cs (List.replicate (IntKind.i64.wrap ((IntKind.u64.wrap th).tmod
 7)).toNat []), ()) ∧ true = true ∧ True))) ∧ ((IntKind.i64.wrap ((IntKind.u64.wrap k.h).tmod 4) == 1) = false → (decide (IntKind.i64.wrap ((IntKind.u64.wrap k.e).tmod 5) > 0) = true → (raw = true → ((0 : Int) ≤
 IntKind.i64.wrap ((IntKind.u64.wrap wo).tmod 36) ∧ IntKind.i64.wrap ((IntKind.u64.wrap wo).tmod 36) = IntKind.i64.wrap ((IntKind.u64.wrap wo).tmod 36) ∧ IntKind.i64.wrap ((IntKind.u64.wrap wo).tmod 36) * 8 ≤
 281474976710656 ∧ IntKind.i64.wrap ((IntKind.u64.wrap wo).tmod 36) ≤ 9223372036854775807) ∧ ((0 : Int) ≤ IntKind.i64.wrap ((IntKind.u64.wrap th).tmod 7) ∧ IntKind.i64.wrap ((IntKind.u64.wrap th).tmod 7) =
 IntKind.i64.wrap ((IntKind.u64.wrap th).tmod 7) ∧ IntKind.i64.wrap ((IntKind.u64.wrap th).tmod 7) * 24 ≤ 281474976710656 ∧ IntKind.i64.wrap ((IntKind.u64.wrap th).tmod 7) ≤ 9223372036854775807) ∧ (akD Q0).pre (Config.mk
 k.a k.b k.c k.d k.e k.f k.g k.h (List.replicate (IntKind.i64.wrap ((IntKind.u64.wrap wo).tmod 36)).toNat (0 : Int)) ls cs (List.replicate (IntKind.i64.wrap ((IntKind.u64.wrap th).tmod 7)).toNat []), ()) ∧ true = true ∧
 True) ∧ (raw = false → ((0 : Int) ≤ IntKind.i64.wrap ((IntKind.u64.wrap wo).tmod 36) ∧ IntKind.i64.wrap ((IntKind.u64.wrap wo).tmod 36) = IntKind.i64.wrap ((IntKind.u64.wrap wo).tmod 36) ∧ IntKind.i64.wrap
 ((IntKind.u64.wrap wo).tmod 36) * 8 ≤ 281474976710656 ∧ IntKind.i64.wrap ((IntKind.u64.wrap wo).tmod 36) ≤ 9223372036854775807) ∧ ((0 : Int) ≤ IntKind.i64.wrap ((IntKind.u64.wrap th).tmod 7) ∧ IntKind.i64.wrap
 ((IntKind.u64.wrap th).tmod 7) = IntKind.i64.wrap ((IntKind.u64.wrap th).tmod 7) ∧ IntKind.i64.wrap ((IntKind.u64.wrap th).tmod 7) * 24 ≤ 281474976710656 ∧ IntKind.i64.wrap ((IntKind.u64.wrap th).tmod 7) ≤
 9223372036854775807) ∧ (akD Q0).pre (Config.mk (IntKind.i64.wrap ((1 : Int) + IntKind.i64.wrap ((IntKind.u64.wrap k.a).tmod 2))) (IntKind.i64.wrap ((1 : Int) + IntKind.i64.wrap ((IntKind.u64.wrap k.b).tmod 2)))
 (IntKind.i64.wrap ((1 : Int) + IntKind.i64.wrap ((IntKind.u64.wrap k.c).tmod 7))) (IntKind.i64.wrap ((32 : Int) - IntKind.i64.wrap (IntKind.i64.wrap ((IntKind.u64.wrap k.d).tmod 4) * 9))) (32 : Int) (IntKind.i64.wrap
 ((IntKind.u64.wrap k.f).tmod 4)) (IntKind.i64.wrap ((20 : Int) + IntKind.i64.wrap ((IntKind.u64.wrap k.g).tmod 60))) (1073741824 : Int) (List.replicate (IntKind.i64.wrap ((IntKind.u64.wrap wo).tmod 36)).toNat (0 : Int))
 ls cs (List.replicate (IntKind.i64.wrap ((IntKind.u64.wrap th).tmod 7)).toNat []), ()) ∧ true = true ∧ True)) ∧ (decide (IntKind.i64.wrap ((IntKind.u64.wrap k.e).tmod 5) > 0) = false → (raw = true → ((0 : Int) ≤
 IntKind.i64.wrap ((IntKind.u64.wrap wo).tmod 36) ∧ IntKind.i64.wrap ((IntKind.u64.wrap wo).tmod 36) = IntKind.i64.wrap ((IntKind.u64.wrap wo).tmod 36) ∧ IntKind.i64.wrap ((IntKind.u64.wrap wo).tmod 36) * 8 ≤
 281474976710656 ∧ IntKind.i64.wrap ((IntKind.u64.wrap wo).tmod 36) ≤ 9223372036854775807) ∧ ((0 : Int) ≤ IntKind.i64.wrap ((IntKind.u64.wrap th).tmod 7) ∧ IntKind.i64.wrap ((IntKind.u64.wrap th).tmod 7) =
 IntKind.i64.wrap ((IntKind.u64.wrap th).tmod 7) ∧ IntKind.i64.wrap ((IntKind.u64.wrap th).tmod 7) * 24 ≤ 281474976710656 ∧ IntKind.i64.wrap ((IntKind.u64.wrap th).tmod 7) ≤ 9223372036854775807) ∧ (akD Q0).pre (Config.mk
 k.a k.b k.c k.d k.e k.f k.g k.h (List.replicate (IntKind.i64.wrap ((IntKind.u64.wrap wo).tmod 36)).toNat (0 : Int)) ls cs (List.replicate (IntKind.i64.wrap ((IntKind.u64.wrap th).tmod 7)).toNat []), ()) ∧ true = true ∧
 True) ∧ (raw = false → ((0 : Int) ≤ IntKind.i64.wrap ((IntKind.u64.wrap wo).tmod 36) ∧ IntKind.i64.wrap ((IntKind.u64.wrap wo).tmod 36) = IntKind.i64.wrap ((IntKind.u64.wrap wo).tmod 36) ∧ IntKind.i64.wrap
 ((IntKind.u64.wrap wo).tmod 36) * 8 ≤ 281474976710656 ∧ IntKind.i64.wrap ((IntKind.u64.wrap wo).tmod 36) ≤ 9223372036854775807) ∧ ((0 : Int) ≤ IntKind.i64.wrap ((IntKind.u64.wrap th).tmod 7) ∧ IntKind.i64.wrap
 ((IntKind.u64.wrap th).tmod 7) = IntKind.i64.wrap ((IntKind.u64.wrap th).tmod 7) ∧ IntKind.i64.wrap ((IntKind.u64.wrap th).tmod 7) * 24 ≤ 281474976710656 ∧ IntKind.i64.wrap ((IntKind.u64.wrap th).tmod 7) ≤
 9223372036854775807) ∧ (akD Q0).pre (Config.mk (IntKind.i64.wrap ((1 : Int) + IntKind.i64.wrap ((IntKind.u64.wrap k.a).tmod 2))) (IntKind.i64.wrap ((1 : Int) + IntKind.i64.wrap ((IntKind.u64.wrap k.b).tmod 2)))
 (IntKind.i64.wrap ((1 : Int) + IntKind.i64.wrap ((IntKind.u64.wrap k.c).tmod 7))) (IntKind.i64.wrap ((32 : Int) - IntKind.i64.wrap (IntKind.i64.wrap ((IntKind.u64.wrap k.d).tmod 4) * 9))) (IntKind.i64.wrap ((1 : Int) +
 IntKind.i64.wrap ((IntKind.u64.wrap k.e).tmod 12))) (IntKind.i64.wrap ((IntKind.u64.wrap k.f).tmod 4)) (IntKind.i64.wrap ((20 : Int) + IntKind.i64.wrap ((IntKind.u64.wrap k.g).tmod 60))) (1073741824 : Int)
 (List.replicate (IntKind.i64.wrap ((IntKind.u64.wrap wo).tmod 36)).toNat (0 : Int)) ls cs (List.replicate (IntKind.i64.wrap ((IntKind.u64.wrap th).tmod 7)).toNat []), ()) ∧ true = true ∧ True)))))) := by kernel_rfl

theorem noI (p : Nat × CutD cod) (L : List (Nat × CutD cod)) (hL : ∀ q ∈ L, q.2 = noC) (hm : p ∈ L) (s : p.2.St) (hI : p.2.I s) : False := by
  have := hL p hm
  obtain ⟨r, d⟩ := p
  simp only at this
  subst this
  exact hI
theorem mt_a_ok : Paid (entryX F (lookC []) 200 Tryd.f32 b32 ⟨[(5, noC)], .tup [.R 0, .i .i64 (-1)], [.rows 0 [] true 0]⟩ [.tl (T := T) 2 []]) := by
  refine ⟨?_⟩
  rw [mt_a]
  exact ⟨⟨by decide, rfl, by decide, by decide⟩, nofun, fun _ => ⟨rfl, rfl, trivial⟩⟩
theorem mt_b_ok : Paid (entryX F (lookC []) 200 Tryd.f59 b59 ⟨[(6, noC)], .tup [.R 0, .i .i64 (-1)], [.rows 0 [] true 0]⟩ [.tl (T := T) 2 []]) := by
  refine ⟨?_⟩
  rw [mt_b]
  exact ⟨⟨by decide, rfl, by decide, by decide⟩, nofun, fun _ => ⟨rfl, rfl, trivial⟩⟩
theorem mt32 : CtrOk1 F.S 32 (mkCtr mt0) :=
  mkCtr_paid (fn := Tryd.f32) (body := b32) (ctr := lookC []) codOk noExt hookLow noneOk Tryd.func32 rfl rfl rfl mt0 200 (fun _ => [(5, noC)]) (show 1 ≤ 128 by decide) (show 128 ≤ 512 by decide) (by kernel_rfl) (fun _ _ => ⟨rfl, rfl⟩)
    (fun (x : List Instr × Unit) hp => by
      obtain ⟨l, u⟩ := x
      obtain rfl : l = [] := hp
      exact mt_a_ok) (fun x hp p hm s hI => (noI p _ (fun q hq => by rw [List.mem_singleton.1 hq]) hm s hI).elim)
theorem mt59 : CtrOk1 F.S 59 (mkCtr mt0) :=
  mkCtr_paid (fn := Tryd.f59) (body := b59) (ctr := lookC []) codOk noExt hookLow noneOk Tryd.func59 rfl rfl rfl mt0 200 (fun _ => [(6, noC)]) (show 1 ≤ 157 by decide) (show 157 ≤ 512 by decide) (by kernel_rfl) (fun _ _ => ⟨rfl, rfl⟩)
    (fun (x : List Instr × Unit) hp => by
      obtain ⟨l, u⟩ := x
      obtain rfl : l = [] := hp
      exact mt_b_ok) (fun x hp p hm s hI => (noI p _ (fun q hq => by rw [List.mem_singleton.1 hq]) hm s hI).elim)
theorem v1Ok : CtrOk F.S (lookC v1) := lookC_ok fun p h => by
  simp only [v1, List.mem_cons, List.not_mem_nil, or_false] at h
  rcases h with rfl | rfl | rfl | rfl
  · exact wiOk
  · exact newOk
  · exact putOk
  · exact mt32
theorem v2Ok : CtrOk F.S (lookC v2) := lookC_ok fun p h => by
  simp only [v2, List.mem_cons, List.not_mem_nil, or_false] at h
  subst h
  exact mt59
theorem at3_nil {c : Config} (hQ : Q0 c) {t : Int} (h0 : 0 ≤ t) (h1 : t < c.progs.length) : at3 c.progs t = [] := by
  obtain ⟨m, rfl⟩ := Int.eq_ofNat_of_zero_le h0
  have hm : m < c.progs.length := by omega
  have e : at3 c.progs (m : Int) = c.progs[m] := at3_get hm
  rw [e]
  exact hQ.2 _ (List.getElem_mem hm)
theorem cp_e_ok (c : Config) (t : Int) (hQ : Q0 c) (h0 : 0 ≤ t) (h1 : t < c.progs.length) : Paid (entryX F (lookC v1) 200 Tryd.f16 b16 ⟨[(8, noC), (18, noC)], .a .nili, []⟩ [.agg (enc4 c), .i .i64 t]) := by
  refine ⟨?_⟩
  have hn := hQ.1
  rw [cp_e, at3_nil hQ h0 h1, wrap64 (n := (c.progs.length : Int) - 1) (by omega) (by omega), wi_iff.2 ⟨h0, (by omega : t ≤ (c.progs.length : Int) - 1)⟩]
  exact ⟨trivial, nofun, fun _ => ⟨⟨h0, h1⟩, fun h => by simp at h, fun _ => ⟨fun h => by simp at h, fun _ => ⟨rfl, nofun, fun _ => ⟨fun h => by simp at h, fun _ => ⟨rfl, trivial⟩⟩⟩⟩⟩⟩
theorem rp_e_ok (c : Config) (t : Int) (hQ : Q0 c) (h0 : 0 ≤ t) (h1 : t < c.progs.length) : Paid (entryX F (lookC v2) 200 Tryd.f52 b52 ⟨[(9, noC), (18, noC)], .tup [.i .i64 0, .i .i64 0], []⟩ [.agg (enc4 c), .i .i64 t]) := by
  refine ⟨?_⟩
  rw [rp_e, at3_nil hQ h0 h1]
  refine ⟨fun h => ?_, fun _ => ⟨fun h => ?_, fun _ => ⟨⟨h0, h1⟩, fun h => by simp at h, fun _ => ⟨fun h => by simp at h, fun _ => ⟨rfl, nofun, fun _ => ⟨fun h => by simp at h, fun _ => ⟨rfl, rfl, trivial⟩⟩⟩⟩⟩⟩⟩
  · have := of_decide_eq_true h
    omega
  · have := of_decide_eq_true h
    omega
theorem prog0 : CtrOk1 F.S 16 (mkCtr (progD Q0 pw0)) :=
  mkCtr_paid (fn := Tryd.f16) (body := b16) (ctr := lookC v1) codOk noExt hookLow v1Ok Tryd.func16 rfl rfl rfl (progD Q0 pw0) 200 (fun _ => [(8, noC), (18, noC)]) (show 2 ≤ 82 by decide) (show 82 ≤ 512 by decide) (by kernel_rfl) (fun _ _ => ⟨rfl, rfl⟩)
    (fun (x : Config × Int × Unit) hp => cp_e_ok x.1 x.2.1 hp.1 hp.2.1 hp.2.2) (fun x hp p hm s hI => (noI p _ (fun q hq => by
      simp only [List.mem_cons, List.not_mem_nil, or_false] at hq
      rcases hq with rfl | rfl <;> rfl) hm s hI).elim)
theorem rprog0 : CtrOk1 F.S 52 (mkCtr (rpD Q0 pw0)) :=
  mkCtr_paid (fn := Tryd.f52) (body := b52) (ctr := lookC v2) codOk noExt hookLow v2Ok Tryd.func52 rfl rfl rfl (rpD Q0 pw0) 200 (fun _ => [(9, noC), (18, noC)]) (show 2 ≤ 114 by decide) (show 114 ≤ 512 by decide) (by kernel_rfl) (fun _ _ => ⟨rfl, rfl⟩)
    (fun (x : Config × Int × Unit) hp => rp_e_ok x.1 x.2.1 hp.1 hp.2.1 hp.2.2) (fun x hp p hm s hI => (noI p _ (fun q hq => by
      simp only [List.mem_cons, List.not_mem_nil, or_false] at hq
      rcases hq with rfl | rfl <;> rfl) hm s hI).elim)
theorem v3Ok : CtrOk F.S (lookC v3) := lookC_ok fun p h => by
  simp only [v3, List.mem_cons, List.not_mem_nil, or_false] at h
  rcases h with rfl | rfl
  · exact toldCtr_ok rfl
  · exact asksOk pw0Ok prog0 rprog0
theorem wrapU64_is (n : Int) : 0 ≤ IntKind.u64.wrap n ∧ IntKind.u64.wrap n < 18446744073709551616 := by
  simp only [IntKind.wrap, IntKind.signed, IntKind.bits]
  simp
  omega
theorem pick_is (n m : Int) (hm : 0 < m) (hb : m ≤ 1000000) : 0 ≤ IntKind.i64.wrap ((IntKind.u64.wrap n).tmod m) ∧ IntKind.i64.wrap ((IntKind.u64.wrap n).tmod m) < m := by
  have h : 0 ≤ (IntKind.u64.wrap n).tmod m ∧ (IntKind.u64.wrap n).tmod m < m := by
    rw [Int.tmod_eq_emod_of_nonneg (wrapU64_is n).1]
    exact ⟨Int.emod_nonneg _ (by omega), Int.emod_lt_of_pos _ hm⟩
  rw [wrap64 (by omega) (by omega)]
  exact h
theorem cc_e_ok (k : K8) (ls : List Lock) (cs : List Int) (wo th : Int) (raw : Bool) : Paid (entryX F (lookC v3) 400 Tryd.f8 b8 ⟨[], .b true, []⟩ [.agg (enc7 k), .tl (T := T) 1 ls, .tl (T := T) 0 cs, .i .i64 wo, .i .i64 th, .b raw]) := by
  refine ⟨?_⟩
  rw [cc_e]
  have hA := pick_is wo 36 (by decide) (by decide)
  have hB := pick_is th 7 (by decide) (by decide)
  refine ⟨fun _ => ⟨rfl, trivial⟩, fun h1 => ⟨fun _ => ⟨rfl, trivial⟩, fun h2 => ?_⟩⟩
  have h1 : ls.length ≤ 6 := by have := of_decide_eq_false h1; omega
  have h2 : cs.length ≤ 6 := by have := of_decide_eq_false h2; omega
  generalize IntKind.i64.wrap ((IntKind.u64.wrap wo).tmod 36) = A at hA ⊢
  generalize IntKind.i64.wrap ((IntKind.u64.wrap th).tmod 7) = B at hB ⊢
  have hp : ∀ a b c d e f g m, (akD Q0).pre (Config.mk a b c d e f g m (List.replicate A.toNat (0 : Int)) ls cs (List.replicate B.toNat []), ()) := by
    intro a b c d e f g m
    refine ⟨⟨?_, fun p hp => (List.mem_replicate.1 hp).2⟩, ?_, ?_, ?_, ?_⟩
    · show (List.replicate B.toNat ([] : List Instr)).length ≤ 1000
      rw [List.length_replicate]; omega
    · show (List.replicate A.toNat (0 : Int)).length ≤ 1000
      rw [List.length_replicate]; omega
    · show ls.length ≤ 1000; omega
    · show cs.length ≤ 1000; omega
    · show (List.replicate B.toNat ([] : List Instr)).length ≤ 1000
      rw [List.length_replicate]; omega
  have a1 : 0 ≤ A ∧ A = A ∧ A * 8 ≤ 281474976710656 ∧ A ≤ 9223372036854775807 := ⟨by omega, rfl, by omega, by omega⟩
  have b1 : 0 ≤ B ∧ B = B ∧ B * 24 ≤ 281474976710656 ∧ B ≤ 9223372036854775807 := ⟨by omega, rfl, by omega, by omega⟩
  exact ⟨fun _ => ⟨fun _ => ⟨fun _ => ⟨a1, b1, hp _ _ _ _ _ _ _ _, rfl, trivial⟩, fun _ => ⟨a1, b1, hp _ _ _ _ _ _ _ _, rfl, trivial⟩⟩, fun _ => ⟨fun _ => ⟨a1, b1, hp _ _ _ _ _ _ _ _, rfl, trivial⟩, fun _ => ⟨a1, b1, hp _ _ _ _ _ _ _ _, rfl, trivial⟩⟩⟩,
    fun _ => ⟨fun _ => ⟨fun _ => ⟨a1, b1, hp _ _ _ _ _ _ _ _, rfl, trivial⟩, fun _ => ⟨a1, b1, hp _ _ _ _ _ _ _ _, rfl, trivial⟩⟩, fun _ => ⟨fun _ => ⟨a1, b1, hp _ _ _ _ _ _ _ _, rfl, trivial⟩, fun _ => ⟨a1, b1, hp _ _ _ _ _ _ _ _, rfl, trivial⟩⟩⟩⟩
theorem cc_run (k : K8) (ls : List Lock) (cs : List Int) (wo th : Int) (raw : Bool) {av : List AVal} (hA : Ers (C := cod) (away []) [.agg (enc7 k), .tl (T := T) 1 ls, .tl (T := T) 0 cs, .i .i64 wo, .i .i64 th, .b raw] av) : ∃ m H', runA S m 0 8 av [] = some (.bool true, H') :=
  law_paid (F := F) (fn := Tryd.f8) (body := b8) (args := [.agg (enc7 k), .tl (T := T) 1 ls, .tl (T := T) 0 cs, .i .i64 wo, .i .i64 th, .b raw]) codOk noExt hookLow v3Ok Tryd.func8 rfl rfl rfl 400 [] (show 6 ≤ 67 by decide) (show 67 ≤ 512 by decide) (by kernel_rfl) (cc_e_ok k ls cs wo th raw) (fun p hm => by cases hm) hA
end Go.Proofs.YtjboohjicdmidaaDoor
