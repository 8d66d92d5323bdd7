/- TextParses: its run. -/
import Derived.Test.YtbbbpnaghipfmaaGreatDoorPd
namespace Go.Proofs.YtbbbpnaghipfmaaGreatDoor
open Go.RowKit Go.Am Go.Sy
set_option linter.unusedVariables false
set_option linter.unusedSimpArgs false

theorem sm_e (p : List Ins) : Go.Sy.Tree.holds (entryX F (lookC []) 600 Tryz.f14 b14 (smF p) [.tl (T := T) 2 p, .tl (T := T) 2 p]) = ( (((↑p.length : Int) != (↑p.length : Int)) = true → false = true ∧ True) ∧ (((↑p.length
 : Int) != (↑p.length : Int)) = false → ∃ (s : Nat), p = p ∧ p = p ∧ (0 : Int) = (↑s : Int) ∧ s ≤ p.length ∧ True)) := by kernel_rfl
theorem sm_4 (p : List Ins) (k : Nat) : Go.Sy.Tree.holds (cutVC F (lookC []) 600 Tryz.f14 b14 (smF p) 4 (smC p) k) = ( (decide ((↑k : Int) < (↑p.length : Int)) = true → ((0 : Int) ≤ (↑k : Int) ∧ (↑k : Int) < (↑p.length :
 Int)) ∧ ((0 : Int) ≤ (↑k : Int) ∧ (↑k : Int) < (↑p.length : Int)) ∧ ((!((at2 p (↑k : Int)).op == (at2 p (↑k : Int)).op && ((at2 p (↑k : Int)).a == (at2 p (↑k : Int)).a && ((at2 p (↑k : Int)).b == (at2 p (↑k : Int)).b &&
 ((at2 p (↑k : Int)).c == (at2 p (↑k : Int)).c && ((at2 p (↑k : Int)).n == (at2 p (↑k : Int)).n && true)))))) = true → false = true ∧ True) ∧ ((!((at2 p (↑k : Int)).op == (at2 p (↑k : Int)).op && ((at2 p (↑k : Int)).a ==
 (at2 p (↑k : Int)).a && ((at2 p (↑k : Int)).b == (at2 p (↑k : Int)).b && ((at2 p (↑k : Int)).c == (at2 p (↑k : Int)).c && ((at2 p (↑k : Int)).n == (at2 p (↑k : Int)).n && true)))))) = false → ∃ (s : Nat), p = p ∧ p = p ∧
 IntKind.i64.wrap ((↑k : Int) + 1) = (↑s : Int) ∧ s ≤ p.length ∧ p.length - s < p.length - k ∧ True)) ∧ (decide ((↑k : Int) < (↑p.length : Int)) = false → true = true ∧ True)) := by kernel_rfl
theorem cd_3 (t : Int) : Go.Sy.Tree.holds (entryX F (lookC []) 1500 Tryz.f16 b16 ⟨[], .i .i64 3, []⟩ [.a (ch 3 [⟨-1, t⟩])]) = ( (false = true → (1 : Int) = 3 ∧ True) ∧ (false = false → (false = true → (1 : Int) = 3 ∧
 True) ∧ (false = false → (false = true → (2 : Int) = 3 ∧ True) ∧ (false = false → (false = true → (2 : Int) = 3 ∧ True) ∧ (false = false → (false = true → (3 : Int) = 3 ∧ True) ∧ (false = false → (true = true → (3 : Int)
 = 3 ∧ True) ∧ (true = false → (false = true → (4 : Int) = 3 ∧ True) ∧ (false = false → (false = true → (4 : Int) = 3 ∧ True) ∧ (false = false → (false = true → (5 : Int) = 3 ∧ True) ∧ (false = false → (false = true → (5
 : Int) = 3 ∧ True) ∧ (false = false → (false = true → (6 : Int) = 3 ∧ True) ∧ (false = false → (false = true → (6 : Int) = 3 ∧ True) ∧ (false = false → (false = true → (7 : Int) = 3 ∧ True) ∧ (false = false → (false =
 true → (7 : Int) = 3 ∧ True) ∧ (false = false → (false = true → (8 : Int) = 3 ∧ True) ∧ (false = false → (false = true → (8 : Int) = 3 ∧ True) ∧ (false = false → (false = true → (9 : Int) = 3 ∧ True) ∧ (false = false →
 (false = true → (9 : Int) = 3 ∧ True) ∧ (false = false → (false = true → (10 : Int) = 3 ∧ True) ∧ (false = false → (false = true → (10 : Int) = 3 ∧ True) ∧ (false = false → (0 : Int) = 3 ∧ True))))))))))))))))))))) := by
 kernel_rfl
theorem cd_4 (t : Int) : Go.Sy.Tree.holds (entryX F (lookC []) 1500 Tryz.f16 b16 ⟨[], .i .i64 4, []⟩ [.a (ch 4 [⟨-1, t⟩])]) = ( (false = true → (1 : Int) = 4 ∧ True) ∧ (false = false → (false = true → (1 : Int) = 4 ∧
 True) ∧ (false = false → (false = true → (2 : Int) = 4 ∧ True) ∧ (false = false → (false = true → (2 : Int) = 4 ∧ True) ∧ (false = false → (false = true → (3 : Int) = 4 ∧ True) ∧ (false = false → (false = true → (3 :
 Int) = 4 ∧ True) ∧ (false = false → (false = true → (4 : Int) = 4 ∧ True) ∧ (false = false → (true = true → (4 : Int) = 4 ∧ True) ∧ (true = false → (false = true → (5 : Int) = 4 ∧ True) ∧ (false = false → (false = true →
 (5 : Int) = 4 ∧ True) ∧ (false = false → (false = true → (6 : Int) = 4 ∧ True) ∧ (false = false → (false = true → (6 : Int) = 4 ∧ True) ∧ (false = false → (false = true → (7 : Int) = 4 ∧ True) ∧ (false = false → (false =
 true → (7 : Int) = 4 ∧ True) ∧ (false = false → (false = true → (8 : Int) = 4 ∧ True) ∧ (false = false → (false = true → (8 : Int) = 4 ∧ True) ∧ (false = false → (false = true → (9 : Int) = 4 ∧ True) ∧ (false = false →
 (false = true → (9 : Int) = 4 ∧ True) ∧ (false = false → (false = true → (10 : Int) = 4 ∧ True) ∧ (false = false → (false = true → (10 : Int) = 4 ∧ True) ∧ (false = false → (0 : Int) = 4 ∧ True))))))))))))))))))))) := by
 kernel_rfl
theorem pd_e (s : List UInt8) : Go.Sy.Tree.holds (entryX F (lookC l7) 1500 Tryz.f7 b7 ⟨[], .b true, []⟩ [.s s]) = ( s.length < 4294967281 ∧ (((parseS readO s).snd.fst == 0) = true → True ∧ (((parseS refO s).snd.fst == 0)
 = true → smD.pre ((parseS readO s).fst, (parseS refO s).fst, ()) ∧ true = true ∧ True) ∧ (((parseS refO s).snd.fst == 0) = false → false = true ∧ True)) ∧ (((parseS readO s).snd.fst == 0) = false → (((parseS readO
 s).snd.fst == 3) = true → True ∧ (((parseS refO s).snd.fst == 0) = true → false = true ∧ True) ∧ (((parseS refO s).snd.fst == 0) = false → (true = true → (true = true → ∃ (y : Int × Int), ch (3 : Int) [P.mk (-1 : Int)
 (parseS readO s).snd.snd] = ch y.fst [P.mk (-1 : Int) y.snd] ∧ cdD.pre (y, ()) ∧ ((y.fst == (parseS refO s).snd.fst) = true → (((parseS readO s).snd.snd == (parseS refO s).snd.snd) = true → (true = true → (false = true →
 true = true ∧ True) ∧ (false = false → true = true ∧ True)) ∧ (true = false → false = true ∧ True)) ∧ (((parseS readO s).snd.snd == (parseS refO s).snd.snd) = false → false = true ∧ True)) ∧ ((y.fst == (parseS refO
 s).snd.fst) = false → false = true ∧ True)) ∧ (true = false → false = true ∧ True)) ∧ (true = false → (true = true → ∃ (y : Int × Int), ch (3 : Int) [P.mk (-1 : Int) (parseS readO s).snd.snd] = ch y.fst [P.mk (-1 : Int)
 y.snd] ∧ cdD.pre (y, ()) ∧ ((y.fst == (parseS refO s).snd.fst) = true → false = true ∧ True) ∧ ((y.fst == (parseS refO s).snd.fst) = false → false = true ∧ True)) ∧ (true = false → false = true ∧ True)))) ∧ (((parseS
 readO s).snd.fst == 3) = false → True ∧ (((parseS refO s).snd.fst == 0) = true → false = true ∧ True) ∧ (((parseS refO s).snd.fst == 0) = false → (true = true → (true = true → ∃ (y : Int × Int), ch (4 : Int) [P.mk (-1 :
 Int) (parseS readO s).snd.snd] = ch y.fst [P.mk (-1 : Int) y.snd] ∧ cdD.pre (y, ()) ∧ ((y.fst == (parseS refO s).snd.fst) = true → (((parseS readO s).snd.snd == (parseS refO s).snd.snd) = true → (true = true → (false =
 true → true = true ∧ True) ∧ (false = false → true = true ∧ True)) ∧ (true = false → false = true ∧ True)) ∧ (((parseS readO s).snd.snd == (parseS refO s).snd.snd) = false → false = true ∧ True)) ∧ ((y.fst == (parseS
 refO s).snd.fst) = false → false = true ∧ True)) ∧ (true = false → false = true ∧ True)) ∧ (true = false → (true = true → ∃ (y : Int × Int), ch (4 : Int) [P.mk (-1 : Int) (parseS readO s).snd.snd] = ch y.fst [P.mk (-1 :
 Int) y.snd] ∧ cdD.pre (y, ()) ∧ ((y.fst == (parseS refO s).snd.fst) = true → false = true ∧ True) ∧ ((y.fst == (parseS refO s).snd.fst) = false → false = true ∧ True)) ∧ (true = false → false = true ∧ True)))))) := by
 kernel_rfl
theorem tp_e (s : List UInt8) (l : List Rw) (t x : Int) : Go.Sy.Tree.holds (entryX F (lookC l3) 600 Tryz.f3 b3 (tpF s l t x) [.s s, .tl (T := T) 5 l, .i .i64 t, .i .u8 x]) = ( (decide ((↑s.length : Int) > 500) = true →
 true = true ∧ True) ∧ (decide ((↑s.length : Int) > 500) = false → (decide ((↑l.length : Int) > 30) = true → true = true ∧ True) ∧ (decide ((↑l.length : Int) > 30) = false → ∃ (s_1 : Nat), s = s ∧ l = l ∧ t = t ∧ x = x ∧
 (0 : Int) = (↑s_1 : Int) ∧ (s_1 ≤ l.length ∧ l.length ≤ 30 ∧ s.length ≤ 500) ∧ True))) := by kernel_rfl
theorem tp_4 (s : List UInt8) (l : List Rw) (t x : Int) (k : Nat) : Go.Sy.Tree.holds (cutVC F (lookC l3) 600 Tryz.f3 b3 (tpF s l t x) 4 (tpC s l t x) k) = ( (decide ((↑k : Int) < (↑l.length : Int)) = true → ((0 : Int) ≤
 (↑k : Int) ∧ (↑k : Int) < (↑l.length : Int)) ∧ inD.pre (K4.mk (at5 l (↑k : Int)).k0 (at5 l (↑k : Int)).k1 (at5 l (↑k : Int)).k2 (at5 l (↑k : Int)).k3, (at5 l (↑k : Int)).n, false, ()) ∧ lnD.pre (insK l (↑k : Int), ()) ∧
 (∀ (b : UInt8), (cod.dec (4 : Nat) [SV.i IntKind.u8 (↑b.toNat : Int)]).isSome = true) ∧ (((↑k : Int) == IntKind.i64.wrap ((IntKind.u64.wrap t).tmod 30)) = true → (decide ((↑(bytK l (↑k : Int)).length : Int) > 0) = true →
 IntKind.u64.wrap (↑(bytK l (↑k : Int)).length : Int) ≠ (0 : Int) ∧ ((0 : Int) ≤ (IntKind.u64.wrap ((IntKind.u64.wrap t).tdiv 30)).tmod (IntKind.u64.wrap (↑(bytK l (↑k : Int)).length : Int)) ∧ (IntKind.u64.wrap
 ((IntKind.u64.wrap t).tdiv 30)).tmod (IntKind.u64.wrap (↑(bytK l (↑k : Int)).length : Int)) < (↑(bytK l (↑k : Int)).length : Int)) ∧ ((0 : Int) ≤ (IntKind.u64.wrap ((IntKind.u64.wrap t).tdiv 30)).tmod (IntKind.u64.wrap
 (↑(bytK l (↑k : Int)).length : Int)) ∧ (IntKind.u64.wrap ((IntKind.u64.wrap t).tdiv 30)).tmod (IntKind.u64.wrap (↑(bytK l (↑k : Int)).length : Int)) < (↑(bytK l (↑k : Int)).length : Int)) ∧ (∀ (y : T (4 : Nat)), y ∈
 (bytK l (↑k : Int)).set ((IntKind.u64.wrap ((IntKind.u64.wrap t).tdiv 30)).tmod (IntKind.u64.wrap (↑(bytK l (↑k : Int)).length : Int))).toNat x → ∃ (x : SV T), ∃ (m : Int), cod.enc (4 : Nat) y = [x] ∧ Sy.intOf x = some
 (IntKind.u8, m)) ∧ pdD.pre (List.map (byteR cod (4 : Nat)) ((bytK l (↑k : Int)).set ((IntKind.u64.wrap ((IntKind.u64.wrap t).tdiv 30)).tmod (IntKind.u64.wrap (↑(bytK l (↑k : Int)).length : Int))).toNat x), ()) ∧ (false =
 true → false = true ∧ True) ∧ (false = false → ∃ (s_1 : Nat), s = s ∧ l = l ∧ t = t ∧ x = x ∧ IntKind.i64.wrap ((↑k : Int) + 1) = (↑s_1 : Int) ∧ (s_1 ≤ l.length ∧ l.length ≤ 30 ∧ s.length ≤ 500) ∧ l.length - s_1 <
 l.length - k ∧ True)) ∧ (decide ((↑(bytK l (↑k : Int)).length : Int) > 0) = false → (∀ (y : T (4 : Nat)), y ∈ bytK l (↑k : Int) → ∃ (x : SV T), ∃ (m : Int), cod.enc (4 : Nat) y = [x] ∧ Sy.intOf x = some (IntKind.u8, m))
 ∧ pdD.pre (List.map (byteR cod (4 : Nat)) (bytK l (↑k : Int)), ()) ∧ (false = true → false = true ∧ True) ∧ (false = false → ∃ (s_1 : Nat), s = s ∧ l = l ∧ t = t ∧ x = x ∧ IntKind.i64.wrap ((↑k : Int) + 1) = (↑s_1 : Int)
 ∧ (s_1 ≤ l.length ∧ l.length ≤ 30 ∧ s.length ≤ 500) ∧ l.length - s_1 < l.length - k ∧ True))) ∧ (((↑k : Int) == IntKind.i64.wrap ((IntKind.u64.wrap t).tmod 30)) = false → (∀ (y : T (4 : Nat)), y ∈ bytK l (↑k : Int) → ∃
 (x : SV T), ∃ (m : Int), cod.enc (4 : Nat) y = [x] ∧ Sy.intOf x = some (IntKind.u8, m)) ∧ pdD.pre (List.map (byteR cod (4 : Nat)) (bytK l (↑k : Int)), ()) ∧ (false = true → false = true ∧ True) ∧ (false = false → ∃ (s_1
 : Nat), s = s ∧ l = l ∧ t = t ∧ x = x ∧ IntKind.i64.wrap ((↑k : Int) + 1) = (↑s_1 : Int) ∧ (s_1 ≤ l.length ∧ l.length ≤ 30 ∧ s.length ≤ 500) ∧ l.length - s_1 < l.length - k ∧ True))) ∧ (decide ((↑k : Int) < (↑l.length :
 Int)) = false → pdD.pre (s, ()) ∧ true = true ∧ True)) := by kernel_rfl

/-! ### Same -/
theorem sm_e_ok (p : List Ins) : Paid (entryX F (lookC []) 600 Tryz.f14 b14 (smF p) [.tl (T := T) 2 p, .tl (T := T) 2 p]) := by
  refine ⟨?_⟩
  rw [sm_e]
  exact ⟨fun h => by simp at h, fun _ => ⟨0, rfl, rfl, rfl, Nat.zero_le _, trivial⟩⟩
theorem sm_4_ok (p : List Ins) (hl : p.length ≤ 1000) (k : Nat) (hk : k ≤ p.length) : Paid (cutVC F (lookC []) 600 Tryz.f14 b14 (smF p) 4 (smC p) k) := by
  refine ⟨?_⟩
  rw [sm_4]
  refine ⟨fun h => ?_, fun _ => ⟨rfl, trivial⟩⟩
  simp only [decide_eq_true_eq] at h
  refine ⟨⟨by omega, h⟩, ⟨by omega, h⟩, fun g => by simp at g, fun _ => ⟨k + 1, rfl, rfl, ?_, by omega, by omega, trivial⟩⟩
  rw [wrap64 (by omega) (by omega)]; rfl
theorem smOk : CtrOk1 F.S 14 (mkCtr smD) :=
  mkCtr_paid (fn := Tryz.f14) (body := b14) (ctr := lookC []) codOk noExt hookLow noneOk Tryz.func14 rfl rfl rfl smD 600 (fun (x : List Ins × List Ins × Unit) => [(4, smC x.1)]) (show 2 ≤ Tryz.f14.ntmps by decide) (show Tryz.f14.ntmps ≤ 512 by decide) (by kernel_rfl) (fun _ _ => ⟨rfl, rfl⟩)
    (fun (x : List Ins × List Ins × Unit) h => by
      obtain ⟨a, b, u⟩ := x
      obtain ⟨h1, h2⟩ := h
      obtain rfl : b = a := h1
      exact sm_e_ok b) (fun (x : List Ins × List Ins × Unit) h q hm s hI => by
      simp only [List.mem_singleton] at hm
      subst hm
      exact sm_4_ok x.1 h.2 s hI)

/-! ### Code -/
theorem cd_3_ok (t : Int) : Paid (entryX F (lookC []) 1500 Tryz.f16 b16 ⟨[], .i .i64 3, []⟩ [.a (ch 3 [⟨-1, t⟩])]) := by
  refine ⟨?_⟩
  rw [cd_3]
  repeat' (first | apply And.intro | intro _)
  all_goals first
    | exact trivial
    | rfl
    | (rename_i h; cases h; done)
    | (simp_all; done)
theorem cd_4_ok (t : Int) : Paid (entryX F (lookC []) 1500 Tryz.f16 b16 ⟨[], .i .i64 4, []⟩ [.a (ch 4 [⟨-1, t⟩])]) := by
  refine ⟨?_⟩
  rw [cd_4]
  repeat' (first | apply And.intro | intro _)
  all_goals first
    | exact trivial
    | rfl
    | (rename_i h; cases h; done)
    | (simp_all; done)
theorem cdOk : CtrOk1 F.S 16 (mkCtr cdD) :=
  mkCtr_paid (fn := Tryz.f16) (body := b16) (ctr := lookC []) codOk noExt hookLow noneOk Tryz.func16 rfl rfl (by kernel_rfl) cdD 1500 (fun _ => []) (show 1 ≤ Tryz.f16.ntmps by decide) (show Tryz.f16.ntmps ≤ 512 by decide) (by kernel_rfl) (fun _ _ => ⟨rfl, rfl⟩)
    (fun (x : (Int × Int) × Unit) h => by
      obtain ⟨⟨c, t⟩, u⟩ := x
      rcases h with h | h
      · obtain rfl : c = 3 := h
        exact cd_3_ok t
      · obtain rfl : c = 4 := h
        exact cd_4_ok t) (fun x h q hm => by cases hm)

/-! ### parsed -/
theorem parseG_len (rd : List UInt8 → Option Ins) : ∀ (ls : List (List UInt8)) (i : Nat) (q : List Ins), q.length ≤ 48 → (parseG rd ls i q).1.length ≤ 48
  | [], i, q, h => h
  | l :: ls, i, q, h => by
    rw [parseG]
    split
    · exact parseG_len rd ls (i + 1) q h
    · split
      · exact Nat.zero_le _
      · split
        · exact parseG_len rd ls (i + 1) _ (by simp only [List.length_append, List.length_cons, List.length_nil]; omega)
        · exact Nat.zero_le _
theorem parseS_len (rd : List UInt8 → Option Ins) (s : List UInt8) : (parseS rd s).1.length ≤ 48 := by
  unfold parseS
  split
  · exact Nat.zero_le _
  · exact parseG_len rd _ 0 [] (Nat.zero_le _)
theorem pd_e_ok (s : List UInt8) (h : s.length < 4294967281) : Paid (entryX F (lookC l7) 1500 Tryz.f7 b7 ⟨[], .b true, []⟩ [.s s]) := by
  refine ⟨?_⟩
  rw [pd_e, read_fun]
  have hc := code_s readO s
  have hl := parseS_len readO s
  generalize parseS readO s = r at hc hl ⊢
  obtain ⟨q, c, t⟩ := r
  dsimp only at hc hl ⊢
  refine ⟨h, fun h0 => ⟨trivial, fun _ => ⟨⟨rfl, by show q.length ≤ 1000; omega⟩, rfl, trivial⟩, fun g => (by rw [h0] at g; cases g)⟩, fun h0 => ⟨fun h3 => ⟨trivial, fun g => (by rw [h0] at g; cases g), fun _ => ⟨fun _ => ⟨fun _ => ⟨(3, t), rfl, .inl rfl, fun _ => ⟨fun _ => ⟨fun _ => ⟨nofun, fun _ => ⟨rfl, trivial⟩⟩, nofun⟩, fun g => (by simp at g)⟩, fun g => ?_⟩, nofun⟩, nofun⟩⟩,
    fun h3 => ⟨trivial, fun g => (by rw [h0] at g; cases g), fun _ => ⟨fun _ => ⟨fun _ => ⟨(4, t), rfl, .inr rfl, fun _ => ⟨fun _ => ⟨fun _ => ⟨nofun, fun _ => ⟨rfl, trivial⟩⟩, nofun⟩, fun g => (by simp at g)⟩, fun g => ?_⟩, nofun⟩, nofun⟩⟩⟩⟩
  · have := eq_of_beq h3
    subst this
    simp at g
  · have g1 := ne_of_beq_false h0
    have g2 := ne_of_beq_false h3
    have g3 : (4 : Int) ≠ c := ne_of_beq_false g
    rcases hc with hc | ⟨hc, _⟩ | ⟨hc, _⟩
    · exact absurd hc g1
    · exact absurd hc g2
    · exact absurd hc.symm g3
theorem l7Ok : CtrOk F.S (lookC l7) := lookC_ok fun p h => by
  simp only [l7, List.mem_cons, List.not_mem_nil, or_false] at h
  rcases h with rfl | rfl | rfl | rfl | rfl
  · exact parOk
  · exact refParseOk
  · exact smOk
  · exact cdOk
  · exact asCtr_ok
theorem pdOk : CtrOk1 F.S 7 (mkCtr pdD) :=
  mkCtr_paid (fn := Tryz.f7) (body := b7) (ctr := lookC l7) codOk noExt hookLow l7Ok Tryz.func7 rfl rfl (by kernel_rfl) pdD 1500 (fun _ => []) (show 1 ≤ Tryz.f7.ntmps by decide) (show Tryz.f7.ntmps ≤ 512 by decide) (by kernel_rfl) (fun _ _ => ⟨rfl, rfl⟩)
    (fun (x : List UInt8 × Unit) h => pd_e_ok x.1 h) (fun x h q hm => by cases hm)

/-! ### The law -/
theorem byt_len (l : List Rw) (k : Int) : (bytK l k).length ≤ 200 := by
  have e : (bytK l k).length = (lineR (insK l k)).length := List.length_map (β := cod.T 4) (Sy.byteOf cod 4)
  exact Nat.le_trans (Nat.le_of_eq e) (lineR_len _)
theorem byt_row (y : T 4) : ∃ (x : SV T), ∃ (m : Int), cod.enc 4 y = [x] ∧ Sy.intOf x = some (IntKind.u8, m) := ⟨.i .u8 y, y, rfl, rfl⟩
theorem tp_next {s : List UInt8} {l : List Rw} {t x : Int} {k : Nat} (hk : k < l.length) (h30 : l.length ≤ 30) (h5 : s.length ≤ 500) : (false = true → false = true ∧ True) ∧ (false = false → ∃ (s_1 : Nat), s = s ∧ l = l ∧ t = t ∧ x = x ∧ IntKind.i64.wrap ((k : Int) + 1) = (s_1 : Int) ∧ (s_1 ≤ l.length ∧ l.length ≤ 30 ∧ s.length ≤ 500) ∧ l.length - s_1 < l.length - k ∧ True) :=
  ⟨nofun, fun _ => ⟨k + 1, rfl, rfl, rfl, rfl, by rw [wrap64 (by omega) (by omega)]; rfl, ⟨hk, h30, h5⟩, by omega, trivial⟩⟩
theorem tp_e_ok (s : List UInt8) (l : List Rw) (t x : Int) : Paid (entryX F (lookC l3) 600 Tryz.f3 b3 (tpF s l t x) [.s s, .tl (T := T) 5 l, .i .i64 t, .i .u8 x]) := by
  refine ⟨?_⟩
  rw [tp_e]
  refine ⟨fun _ => ⟨rfl, trivial⟩, fun h => ⟨fun _ => ⟨rfl, trivial⟩, fun h2 => ⟨0, rfl, rfl, rfl, rfl, rfl, ⟨Nat.zero_le _, ?_, ?_⟩, trivial⟩⟩⟩
  · simp only [gt_iff_lt, decide_eq_false_iff_not] at h2; omega
  · simp only [gt_iff_lt, decide_eq_false_iff_not] at h; omega
theorem tp_4_ok (s : List UInt8) (l : List Rw) (t x : Int) (k : Nat) (hk : k ≤ l.length) (h30 : l.length ≤ 30) (h5 : s.length ≤ 500) : Paid (cutVC F (lookC l3) 600 Tryz.f3 b3 (tpF s l t x) 4 (tpC s l t x) k) := by
  refine ⟨?_⟩
  rw [tp_4]
  have hb := byt_len l k
  refine ⟨fun h => ?_, fun h => ⟨by show s.length < 4294967281; omega, rfl, trivial⟩⟩
  simp only [decide_eq_true_eq] at h
  have hlt : k < l.length := by omega
  have hpre : ∀ b : List (T 4), b.length ≤ 200 → pdD.pre (List.map (byteR cod 4) b, ()) := by
    intro b hb
    have e : (List.map (byteR cod 4) b).length = b.length := List.length_map (α := cod.T 4) (byteR cod 4)
    exact Nat.lt_of_le_of_lt (Nat.le_of_eq e) (Nat.lt_of_le_of_lt hb (by decide))
  have w6 : ∀ n : Nat, n ≤ 200 → IntKind.u64.wrap (n : Int) = (n : Int) := by
    intro n hn
    simp only [IntKind.wrap, IntKind.signed, IntKind.bits]
    simp
    omega
  have hu : ∀ z : Int, 0 ≤ IntKind.u64.wrap z := by
    intro z
    simp only [IntKind.wrap, IntKind.signed, IntKind.bits]
    simp
    exact Int.emod_nonneg _ (by decide)
  generalize bytK l (k : Int) = B at hb ⊢
  rw [w6 _ hb]
  refine ⟨⟨by omega, h⟩, trivial, trivial, fun b => rfl, fun _ => ⟨fun hp => ?_, fun _ => ⟨fun y _ => byt_row y, hpre _ hb, tp_next hlt h30 h5⟩⟩, fun _ => ⟨fun y _ => byt_row y, hpre _ hb, tp_next hlt h30 h5⟩⟩
  simp only [gt_iff_lt, decide_eq_true_eq] at hp
  have hr : 0 ≤ (IntKind.u64.wrap ((IntKind.u64.wrap t).tdiv 30)).tmod (B.length : Int) ∧ (IntKind.u64.wrap ((IntKind.u64.wrap t).tdiv 30)).tmod (B.length : Int) < (B.length : Int) := by
    rw [Int.tmod_eq_emod_of_nonneg (hu _)]
    exact ⟨Int.emod_nonneg _ (by omega), Int.emod_lt_of_pos _ hp⟩
  exact ⟨by omega, hr, hr, fun y _ => byt_row y, hpre _ (by rw [List.length_set]; exact hb), tp_next hlt h30 h5⟩
theorem l3Ok : CtrOk F.S (lookC l3) := lookC_ok fun p h => by
  simp only [l3, List.mem_cons, List.not_mem_nil, or_false] at h
  rcases h with rfl | rfl | rfl | rfl
  · exact tellOk
  · exact rnOk
  · exact inOk
  · exact pdOk
set_option maxRecDepth 10000 in
theorem parses_run (s : List UInt8) (l : List Rw) (t x : Int) {av : List AVal} (hA : Ers (C := cod) (away []) [.s s, .tl (T := T) 5 l, .i .i64 t, .i .u8 x] av) : ∃ n H', runA F.S n 0 3 av [] = some (.bool true, H') :=
  law_paid (F := F) (fn := Tryz.f3) (body := b3) (args := [.s s, .tl (T := T) 5 l, .i .i64 t, .i .u8 x]) codOk noExt hookLow l3Ok Tryz.func3 rfl (by kernel_rfl) (by kernel_rfl) 600 [(4, tpC s l t x)] (show 4 ≤ Tryz.f3.ntmps by decide) (show Tryz.f3.ntmps ≤ 512 by decide) (by kernel_rfl)
    (tp_e_ok s l t x) (fun p hm k hI => by
      simp only [List.mem_singleton] at hm
      subst hm
      exact tp_4_ok s l t x k hI.1 hI.2.1 hI.2.2) hA
end Go.Proofs.YtbbbpnaghipfmaaGreatDoor
