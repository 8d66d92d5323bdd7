/- The contracts of Put and Parse are paid. -/
import Derived.Test.YtbbbpnaghipfmaaGreatDoorBc
namespace Go.Proofs.YtbbbpnaghipfmaaGreatDoor
open Go.RowKit Go.Am Go.Sy
set_option linter.unusedVariables false
set_option linter.unusedSimpArgs false

theorem put_e (u : TypeId) (a : AVal) (t p : Int) : Go.Sy.Tree.holds (entryX F (lookC l0) 200 Tryz.f18 b18 (putF u a t p) [.a (.iface u a), .i .i64 t, .i .i64 p]) = ( t = t ∧ p = p ∧ AVal.iface u a = AVal.iface u a ∧
 True) := by kernel_rfl
theorem par_e (s : List UInt8) (q : List Ins) (e : AVal) : Go.Sy.Tree.holds (entryX F (lookC l1) 200 Tryz.f8 b8 (parseF s q e) [.s s]) = ( (decide ((↑s.length : Int) > 20000) = true → ∃ (y : Int × List P), AVal.iface (144
 : TypeId) (AVal.eptr (5 : Nat) [AVal.str [(99 : UInt8), 111, 100, 101, 32, 52]]) = ch y.fst y.snd ∧ putC.pre (y, (-1 : Int), (0 : Int), ()) ∧ [] = q ∧ putZ (y, (-1 : Int), (0 : Int), ()) = e ∧ True) ∧ (decide ((↑s.length
 : Int) > 20000) = false → s.length < 4294967281 ∧ ∃ (s_1 : ParS), [] = s_1.q ∧ splitL (10 : UInt8) s = splitL (10 : UInt8) s ∧ (↑(splitL (10 : UInt8) s).length : Int) = (↑(splitL (10 : UInt8) s).length : Int) ∧ (0 : Int)
 = (↑s_1.k : Int) ∧ (s_1.k ≤ (splitL (10 : UInt8) s).length ∧ parseG readO (List.drop s_1.k (splitL (10 : UInt8) s)) s_1.k s_1.q = parseG readO (splitL (10 : UInt8) s) (0 : Nat) [] ∧ s_1.q.length ≤ 48 ∧ s.length ≤ 20000)
 ∧ True)) := by kernel_rfl
theorem par_c (s : List UInt8) (q : List Ins) (e : AVal) (k : Nat) (p : List Ins) : Go.Sy.Tree.holds (cutVC F (lookC l1) 200 Tryz.f8 b8 (parseF s q e) 5 (parseC s) ⟨k, p⟩) = ( (decide ((↑k : Int) < (↑(splitL (10 : UInt8)
 s).length : Int)) = true → ((0 : Int) ≤ (↑k : Int) ∧ (↑k : Int) < (↑(splitL (10 : UInt8) s).length : Int)) ∧ ((at3 (splitL (10 : UInt8) s) (↑k : Int) == []) = true → ∃ (s_1 : ParS), p = s_1.q ∧ splitL (10 : UInt8) s =
 splitL (10 : UInt8) s ∧ (↑(splitL (10 : UInt8) s).length : Int) = (↑(splitL (10 : UInt8) s).length : Int) ∧ IntKind.i64.wrap ((↑k : Int) + 1) = (↑s_1.k : Int) ∧ (s_1.k ≤ (splitL (10 : UInt8) s).length ∧ parseG readO
 (List.drop s_1.k (splitL (10 : UInt8) s)) s_1.k s_1.q = parseG readO (splitL (10 : UInt8) s) (0 : Nat) [] ∧ s_1.q.length ≤ 48 ∧ s.length ≤ 20000) ∧ (splitL (10 : UInt8) s).length - s_1.k < (splitL (10 : UInt8) s).length
 - k ∧ True) ∧ ((at3 (splitL (10 : UInt8) s) (↑k : Int) == []) = false → (decide ((↑p.length : Int) ≥ (48 : Int)) = true → ∃ (y : Int × List P), AVal.iface (144 : TypeId) (AVal.eptr (5 : Nat) [AVal.str [(99 : UInt8), 111,
 100, 101, 32, 52]]) = ch y.fst y.snd ∧ putC.pre (y, (-1 : Int), IntKind.i64.wrap ((↑k : Int) + 1), ()) ∧ [] = q ∧ putZ (y, (-1 : Int), IntKind.i64.wrap ((↑k : Int) + 1), ()) = e ∧ True) ∧ (decide ((↑p.length : Int) ≥ (48
 : Int)) = false → (at3 (splitL (10 : UInt8) s) (↑k : Int)).length ≤ 20000 ∧ (readOkB (at3 (splitL (10 : UInt8) s) (↑k : Int)) = true → (p.length + [Ins.mk (readI (at3 (splitL (10 : UInt8) s) (↑k : Int))).op (readI (at3
 (splitL (10 : UInt8) s) (↑k : Int))).a (readI (at3 (splitL (10 : UInt8) s) (↑k : Int))).b (readI (at3 (splitL (10 : UInt8) s) (↑k : Int))).c (readI (at3 (splitL (10 : UInt8) s) (↑k : Int))).n].length) * 40 ≤
 140737488355328 ∧ ∃ (s_1 : ParS), p ++ [Ins.mk (readI (at3 (splitL (10 : UInt8) s) (↑k : Int))).op (readI (at3 (splitL (10 : UInt8) s) (↑k : Int))).a (readI (at3 (splitL (10 : UInt8) s) (↑k : Int))).b (readI (at3 (splitL
 (10 : UInt8) s) (↑k : Int))).c (readI (at3 (splitL (10 : UInt8) s) (↑k : Int))).n] = s_1.q ∧ splitL (10 : UInt8) s = splitL (10 : UInt8) s ∧ (↑(splitL (10 : UInt8) s).length : Int) = (↑(splitL (10 : UInt8) s).length :
 Int) ∧ IntKind.i64.wrap ((↑k : Int) + 1) = (↑s_1.k : Int) ∧ (s_1.k ≤ (splitL (10 : UInt8) s).length ∧ parseG readO (List.drop s_1.k (splitL (10 : UInt8) s)) s_1.k s_1.q = parseG readO (splitL (10 : UInt8) s) (0 : Nat) []
 ∧ s_1.q.length ≤ 48 ∧ s.length ≤ 20000) ∧ (splitL (10 : UInt8) s).length - s_1.k < (splitL (10 : UInt8) s).length - k ∧ True) ∧ (readOkB (at3 (splitL (10 : UInt8) s) (↑k : Int)) = false → (true = true → ∃ (y : Int × List
 P), newV (3 : Int) = ch y.fst y.snd ∧ putC.pre (y, (-1 : Int), IntKind.i64.wrap ((↑k : Int) + 1), ()) ∧ [] = q ∧ putZ (y, (-1 : Int), IntKind.i64.wrap ((↑k : Int) + 1), ()) = e ∧ True) ∧ (true = false → (p.length +
 [Ins.mk (0 : Int) (0 : Int) (0 : Int) (0 : Int) (0 : Int)].length) * 40 ≤ 140737488355328 ∧ ∃ (s_1 : ParS), p ++ [Ins.mk (0 : Int) (0 : Int) (0 : Int) (0 : Int) (0 : Int)] = s_1.q ∧ splitL (10 : UInt8) s = splitL (10 :
 UInt8) s ∧ (↑(splitL (10 : UInt8) s).length : Int) = (↑(splitL (10 : UInt8) s).length : Int) ∧ IntKind.i64.wrap ((↑k : Int) + 1) = (↑s_1.k : Int) ∧ (s_1.k ≤ (splitL (10 : UInt8) s).length ∧ parseG readO (List.drop s_1.k
 (splitL (10 : UInt8) s)) s_1.k s_1.q = parseG readO (splitL (10 : UInt8) s) (0 : Nat) [] ∧ s_1.q.length ≤ 48 ∧ s.length ≤ 20000) ∧ (splitL (10 : UInt8) s).length - s_1.k < (splitL (10 : UInt8) s).length - k ∧ True))))) ∧
 (decide ((↑k : Int) < (↑(splitL (10 : UInt8) s).length : Int)) = false → p = q ∧ constA Value.nilIface = e ∧ True)) := by kernel_rfl

theorem l0Ok : CtrOk F.S (lookC l0) := lookC_ok fun p h => by simp [l0] at h
theorem put_ok (c : Int) (l : List P) (t p : Int) : Go.Sy.Tree.holds (entryX F (lookC l0) 200 Tryz.f18 b18 ⟨[], .iface 65 (.ptr 0 0), [.cells [.i .i64 t, .i .i64 p, .a (ch c l)]]⟩ [.a (ch c l), .i .i64 t, .i .i64 p]) := by
  obtain ⟨u, a, e, _⟩ := ch_is c l
  rw [e]
  have := put_e u a t p
  unfold putF at this
  rw [this]
  exact ⟨rfl, rfl, rfl, trivial⟩
theorem put_frz (c : Int) (l : List P) (t p : Int) (E' : Env) (n0 : Nat) (H' : Heap) (v : AVal) (hS : SimH (C := cod) E' n0 0 [some (.cells [.i .i64 t, .i .i64 p, .a (ch c l)])] H') (h : Er (C := cod) E' (.iface 65 (.ptr 0 0)) v) :
    frz n0 H' true 64 v = some (ch c (⟨t, p⟩ :: l)) := by
  refine frz_box (ys := [.int .i64 t, .int .i64 p, ch c l]) hS h ?_ ?_
  · intro xs hx
    obtain ⟨a, as1, rfl, h1, hx⟩ := hx.inv_cons
    obtain ⟨b, as2, rfl, h2, hx⟩ := hx.inv_cons
    obtain ⟨d, as3, rfl, h3, hx⟩ := hx.inv_cons
    obtain rfl := hx.inv_nil
    cases h1
    cases h2
    cases h3
    rfl
  · obtain ⟨u, a, e, hf⟩ := ch_is c l
    rw [e]
    have hi : ∀ k m, frz n0 H' false 62 (.int k m) = some (.int k m) := fun k m => by unfold frz; rfl
    simp only [frzs, hi, hf n0 H' 60]
set_option maxRecDepth 10000 in
theorem putOk : CtrOk1 F.S 18 (mkCtr putC) :=
  mkCtrP_ok (fn := Tryz.f18) (body := b18) codOk noExt hookLow l0Ok Tryz.func18 rfl rfl rfl putD putZ 200 (fun _ => []) (show 3 ≤ 15 by decide) (show 15 ≤ 512 by decide) (by kernel_rfl)
    (fun x hp => put_ok x.1.1 x.1.2 x.2.1 x.2.2.1) (fun x hp p hm => by cases hm)
    (fun x hp E' n0 H' v hS h => put_frz x.1.1 x.1.2 x.2.1 x.2.2.1 E' n0 H' v hS h)
theorem l1Ok : CtrOk F.S (lookC l1) := lookC_ok fun p h => by
  simp only [l1, List.mem_cons, List.not_mem_nil, or_false] at h
  rcases h with rfl | rfl | rfl
  · exact putOk
  · exact readOk
  · exact splitOk

/-- What Parse answers. -/
def ParseIs (s : List UInt8) (q : List Ins) (e : AVal) : Prop := (parseS readO s).1 = q ∧ errV (parseS readO s).2.1 (parseS readO s).2.2 = e
theorem par_e_ok (s : List UInt8) (h1 : s.length < 4294967281) (q : List Ins) (e : AVal) (hR : ParseIs s q e) : Paid (entryX F (lookC l1) 200 Tryz.f8 b8 (parseF s q e) [.s s]) := by
  refine ⟨?_⟩
  rw [par_e]
  obtain ⟨rfl, rfl⟩ := hR
  refine ⟨fun h => ?_, fun h => ?_⟩
  · simp only [gt_iff_lt, decide_eq_true_eq] at h
    have e : parseS readO s = ([], 4, 0) := by unfold parseS; rw [if_pos (by omega)]
    rw [e]
    exact ⟨(4, []), rfl, trivial, rfl, rfl, trivial⟩
  · exact ⟨h1, ⟨0, []⟩, rfl, rfl, rfl, rfl, ⟨Nat.zero_le _, rfl, Nat.zero_le _, by simp only [gt_iff_lt, decide_eq_false_iff_not] at h; omega⟩, trivial⟩
theorem splitL_le (c : UInt8) (s : List UInt8) : ∀ w ∈ splitL c s, w.length ≤ s.length := by
  induction s with
  | nil => intro w hw; simp [splitL] at hw; rw [hw]; exact Nat.le_refl _
  | cons b s ih =>
    intro w hw
    unfold splitL at hw
    split at hw
    · rcases List.mem_cons.1 hw with rfl | hw
      · exact Nat.zero_le _
      · have := ih w hw; rw [List.length_cons]; omega
    · split at hw
      · simp at hw; rw [hw]; simp
      · rename_i x r hx
        rcases List.mem_cons.1 hw with rfl | hw
        · have := ih x (by rw [hx]; exact List.mem_cons_self)
          rw [List.length_cons, List.length_cons]; omega
        · have := ih w (by rw [hx]; exact List.mem_cons_of_mem _ hw)
          rw [List.length_cons]; omega
theorem par_c_ok (s : List UInt8) (q : List Ins) (e : AVal) (hR : ParseIs s q e) (k : Nat) (p : List Ins) (hk : k ≤ (splitL 10 s).length) (hp : parseG readO ((splitL 10 s).drop k) k p = parseG readO (splitL 10 s) 0 []) (hq : p.length ≤ 48) (hs : s.length ≤ 20000) :
    Paid (cutVC F (lookC l1) 200 Tryz.f8 b8 (parseF s q e) 5 (parseC s) ⟨k, p⟩) := by
  refine ⟨?_⟩
  rw [par_c]
  have hl := split_len 10 s
  have e0 : parseS readO s = parseG readO (splitL 10 s) 0 [] := by unfold parseS; rw [if_neg (by omega)]
  unfold ParseIs at hR
  rw [e0] at hR
  obtain ⟨rfl, rfl⟩ := hR
  refine ⟨fun h => ?_, fun h => ?_⟩
  · simp only [decide_eq_true_eq] at h
    have hlt : k < (splitL 10 s).length := by omega
    rw [at3_get hlt]
    have hw : IntKind.wrap .i64 ((k : Int) + 1) = ((k + 1 : Nat) : Int) := by rw [wrap64 (by omega) (by omega)]; rfl
    rw [hw]
    rw [List.drop_eq_getElem_cons hlt] at hp
    have hll := splitL_le 10 s _ (List.getElem_mem hlt)
    generalize (splitL 10 s)[k] = l at hp hll ⊢
    refine ⟨⟨by omega, h⟩, fun he => ?_, fun he => ?_⟩
    · have he : l = [] := by simpa using he
      refine ⟨⟨k + 1, p⟩, rfl, rfl, rfl, rfl, ⟨(show k + 1 ≤ _ by omega), ?_, hq, hs⟩, by show _ - (k + 1) < _ - k; omega, trivial⟩
      rw [parseG, if_pos he] at hp
      exact hp
    · have he : l ≠ [] := by simpa using he
      rw [parseG, if_neg he] at hp
      refine ⟨fun hn => ?_, fun hn => ⟨by omega, fun ho => ⟨?_, ⟨k + 1, _⟩, rfl, rfl, rfl, rfl, ⟨(show k + 1 ≤ _ by omega), ?_, ?_, hs⟩, by show _ - (k + 1) < _ - k; omega, trivial⟩, fun ho => ⟨fun _ => ?_, nofun⟩⟩⟩
      · simp only [ge_iff_le, decide_eq_true_eq] at hn
        rw [if_pos (by omega)] at hp
        rw [← hp]
        exact ⟨(4, []), rfl, trivial, rfl, rfl, trivial⟩
      · simp only [List.length_cons, List.length_nil]; omega
      · simp only [ge_iff_le, decide_eq_false_iff_not] at hn
        have hr : readO l = some (readI l) := by
          unfold readOkB at ho
          unfold readI readO
          cases hr : readT (splitL 32 l) with
          | none => rw [hr] at ho; exact nomatch ho
          | some i => rfl
        rw [if_neg (by omega), hr] at hp
        exact hp
      · simp only [ge_iff_le, decide_eq_false_iff_not] at hn
        simp only [List.length_append, List.length_cons, List.length_nil]
        omega
      · simp only [ge_iff_le, decide_eq_false_iff_not] at hn
        have hr : readO l = none := by
          unfold readOkB at ho
          unfold readO
          cases hr : readT (splitL 32 l) with
          | none => rfl
          | some i => rw [hr] at ho; exact nomatch ho
        rw [if_neg (by omega), hr] at hp
        rw [← hp]
        exact ⟨(3, []), rfl, trivial, rfl, rfl, trivial⟩
  · simp only [decide_eq_false_iff_not] at h
    have hkk : k = (splitL 10 s).length := by omega
    rw [hkk, List.drop_length, parseG] at hp
    rw [← hp]
    exact ⟨rfl, rfl, trivial⟩
theorem plain2 : ∀ y : cod.T 2, (cod.enc 2 y).all plainS = true := fun y => rfl
theorem err_frz (c t : Int) : ∀ n0 H, frz n0 H true 63 (errV c t) = some (errV c t) := by
  intro n0 H
  unfold errV
  split
  · unfold frz; rfl
  · simp only [ch, frz, Option.map_some]
theorem par1Ok (s : List UInt8) (h1 : s.length < 4294967281) : CtrOk1 F.S 8 (mkCtrT (C := cod) [.str] (fun (x : List UInt8 × Unit) => x.1 = s) 2 (fun _ => (parseS readO s).1) (errV (parseS readO s).2.1 (parseS readO s).2.2)) :=
  mkCtrT_paid (fn := Tryz.f8) (body := b8) (ctr := lookC l1) codOk noExt hookLow l1Ok Tryz.func8 rfl (by kernel_rfl) (by kernel_rfl) [.str] (fun (x : List UInt8 × Unit) => x.1 = s) 2 (fun _ => (parseS readO s).1) (errV (parseS readO s).2.1 (parseS readO s).2.2) (err_frz _ _) true 0 plain2 200 (fun (x : List UInt8 × Unit) => [(5, parseC s)]) (show 1 ≤ Tryz.f8.ntmps by decide) (show Tryz.f8.ntmps ≤ 512 by decide) (by kernel_rfl)
    (fun (x : List UInt8 × Unit) h => by
      obtain ⟨x, u⟩ := x
      obtain rfl : x = s := h
      exact par_e_ok x h1 _ _ ⟨rfl, rfl⟩) (fun (x : List UInt8 × Unit) h q hm y hI => by
      simp only [List.mem_singleton] at hm
      subst hm
      exact par_c_ok s _ _ ⟨rfl, rfl⟩ y.k y.q hI.1 hI.2.1 hI.2.2.1 hI.2.2.2)
theorem code_of (rd : List UInt8 → Option Ins) : ∀ (ls : List (List UInt8)) (i : Nat) (q : List Ins), (parseG rd ls i q).2.1 = 0 ∨ ((parseG rd ls i q).2.1 = 3 ∧ (parseG rd ls i q).1 = []) ∨ ((parseG rd ls i q).2.1 = 4 ∧ (parseG rd ls i q).1 = [])
  | [], i, q => .inl rfl
  | l :: ls, i, q => by
    rw [parseG]
    split
    · exact code_of rd ls (i + 1) q
    · split
      · exact .inr (.inr ⟨rfl, rfl⟩)
      · split
        · exact code_of rd ls (i + 1) _
        · exact .inr (.inl ⟨rfl, rfl⟩)
theorem code_s (rd : List UInt8 → Option Ins) (s : List UInt8) : (parseS rd s).2.1 = 0 ∨ ((parseS rd s).2.1 = 3 ∧ (parseS rd s).1 = []) ∨ ((parseS rd s).2.1 = 4 ∧ (parseS rd s).1 = []) := by
  unfold parseS
  split
  · exact .inr (.inr ⟨rfl, rfl⟩)
  · exact code_of rd _ _ _
/-- text.Parse, at any text. -/
noncomputable def parCtr : Ctr cod := fun wlo args h K => match args with
  | [x] => match strOf x with
    | some s => .need (s.length < 4294967281) (.fork ((parseS readO s).2.1 == 0) (K (.tup [.tl (T := T) 2 (parseS readO s).1, .a .nili]) h)
        (.fork ((parseS readO s).2.1 == 3) (K (.tup [.tl (T := T) 2 [], .a (ch 3 [⟨-1, (parseS readO s).2.2⟩])]) h) (K (.tup [.tl (T := T) 2 [], .a (ch 4 [⟨-1, (parseS readO s).2.2⟩])]) h)))
    | none => .stuck "parse: what"
  | _ => .stuck "parse"
theorem parOk : CtrOk1 F.S 8 parCtr := by
  intro E lo wlo args h H K av hh hS hA
  unfold parCtr at hh
  split at hh
  · rename_i x
    split at hh
    · rename_i s hs
      obtain ⟨hl, hh⟩ := hh
      obtain ⟨a0, as1, rfl, h1, hA1⟩ := hA.inv_cons
      obtain rfl := hA1.inv_nil
      obtain rfl := strOf_ok h1 hs
      have go : (K (.tup [.tl (T := T) 2 (parseS readO s).1, .a (errV (parseS readO s).2.1 (parseS readO s).2.2)]) h).holds → Out E lo wlo h H (fun v H' => ∃ n, callA F.S (execA F.S n) lo 8 [.str s] H = some (v, H')) K :=
        fun hh => par1Ok s hl E lo wlo [.s s] h H K _ ⟨rfl, hh⟩ hS (.cons (.s _) .nil)
      have hc := code_s readO s
      rcases fork_cases hh with ⟨ho, hh⟩ | ⟨ho, hh⟩
      · refine go ?_
        rw [eq_of_beq ho]
        exact hh
      · have h0 := ne_of_beq_false ho
        rcases fork_cases hh with ⟨ho, hh⟩ | ⟨ho, hh⟩
        · refine go ?_
          have h3 := eq_of_beq ho
          rcases hc with hc | ⟨_, hq⟩ | ⟨hc, _⟩
          · exact absurd hc h0
          · rw [h3, hq]
            exact hh
          · rw [h3] at hc; exact absurd hc (by decide)
        · refine go ?_
          have h3 := ne_of_beq_false ho
          rcases hc with hc | ⟨hc, _⟩ | ⟨hc, hq⟩
          · exact absurd hc h0
          · exact absurd hc h3
          · rw [hc, hq]
            exact hh
    · exact (stuck_no hh).elim
  · exact (stuck_no hh).elim
end Go.Proofs.YtbbbpnaghipfmaaGreatDoor
