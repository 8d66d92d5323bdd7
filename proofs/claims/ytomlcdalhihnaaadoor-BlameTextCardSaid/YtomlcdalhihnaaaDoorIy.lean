/- syncopelaw1.BlameText: what its own text owes is paid. -/
import Derived.Test.YtomlcdalhihnaaaDoorIx
namespace Go.Proofs.YtomlcdalhihnaaaDoor
open Go.RowKit Go.Am Go.Sy
set_option linter.unusedVariables false

theorem bt_e (c : Int) (l : List P) : Go.Sy.Tree.holds (entryX F (lookC u5) 200 Tryd.f5 b5 (btF c l) [.i .i64 c, .tl (T := T) 1 l]) = ( (decide ((↑l.length : Int) > (20 : Int)) = true → true = true ∧ True) ∧ (decide
 ((↑l.length : Int) > (20 : Int)) = false → ∃ (s : Nat), c = c ∧ l = l ∧ [] = words (List.take s l) ∧ (0 : Int) = (↑s : Int) ∧ (s ≤ l.length ∧ l.length ≤ (20 : Nat)) ∧ True)) := by kernel_rfl
theorem bt_5 (c : Int) (l : List P) (i : Nat) : Go.Sy.Tree.holds (cutVC F (lookC u5) 200 Tryd.f5 b5 (btF c l) 5 (btC5 c l) i) = ( (decide ((↑i : Int) < (↑l.length : Int)) = true → ((0 : Int) ≤ (↑i : Int) ∧ (↑i : Int) <
 (↑l.length : Int)) ∧ decD.pre ((at1 l (↑i : Int)).t, ()) ∧ (↑([(116 : UInt8), (104 : UInt8), (114 : UInt8), (101 : UInt8), (97 : UInt8), (100 : UInt8), (32 : UInt8)].length + (decS (at1 l (↑i : Int)).t).length) : Int) ≤
 (9223372036854775807 : Int) ∧ (↑(([(116 : UInt8), (104 : UInt8), (114 : UInt8), (101 : UInt8), (97 : UInt8), (100 : UInt8), (32 : UInt8)] ++ decS (at1 l (↑i : Int)).t).length + [(44 : UInt8), (32 : UInt8), (112 : UInt8),
 (108 : UInt8), (97 : UInt8), (99 : UInt8), (101 : UInt8), (32 : UInt8)].length) : Int) ≤ (9223372036854775807 : Int) ∧ ((0 : Int) ≤ (↑i : Int) ∧ (↑i : Int) < (↑l.length : Int)) ∧ decD.pre ((at1 l (↑i : Int)).p, ()) ∧
 (↑(([(116 : UInt8), (104 : UInt8), (114 : UInt8), (101 : UInt8), (97 : UInt8), (100 : UInt8), (32 : UInt8)] ++ decS (at1 l (↑i : Int)).t ++ [(44 : UInt8), (32 : UInt8), (112 : UInt8), (108 : UInt8), (97 : UInt8), (99 :
 UInt8), (101 : UInt8), (32 : UInt8)]).length + (decS (at1 l (↑i : Int)).p).length) : Int) ≤ (9223372036854775807 : Int) ∧ (↑(([(116 : UInt8), (104 : UInt8), (114 : UInt8), (101 : UInt8), (97 : UInt8), (100 : UInt8), (32
 : UInt8)] ++ decS (at1 l (↑i : Int)).t ++ [(44 : UInt8), (32 : UInt8), (112 : UInt8), (108 : UInt8), (97 : UInt8), (99 : UInt8), (101 : UInt8), (32 : UInt8)] ++ decS (at1 l (↑i : Int)).p).length + [(58 : UInt8), (32 :
 UInt8)].length) : Int) ≤ (9223372036854775807 : Int) ∧ (↑((words (List.take i l)).length + ([(116 : UInt8), (104 : UInt8), (114 : UInt8), (101 : UInt8), (97 : UInt8), (100 : UInt8), (32 : UInt8)] ++ decS (at1 l (↑i :
 Int)).t ++ [(44 : UInt8), (32 : UInt8), (112 : UInt8), (108 : UInt8), (97 : UInt8), (99 : UInt8), (101 : UInt8), (32 : UInt8)] ++ decS (at1 l (↑i : Int)).p ++ [(58 : UInt8), (32 : UInt8)]).length) : Int) ≤
 (9223372036854775807 : Int) ∧ ∃ (s : Nat), c = c ∧ l = l ∧ words (List.take i l) ++ ([(116 : UInt8), (104 : UInt8), (114 : UInt8), (101 : UInt8), (97 : UInt8), (100 : UInt8), (32 : UInt8)] ++ decS (at1 l (↑i : Int)).t ++
 [(44 : UInt8), (32 : UInt8), (112 : UInt8), (108 : UInt8), (97 : UInt8), (99 : UInt8), (101 : UInt8), (32 : UInt8)] ++ decS (at1 l (↑i : Int)).p ++ [(58 : UInt8), (32 : UInt8)]) = words (List.take s l) ∧ IntKind.i64.wrap
 ((↑i : Int) + (1 : Int)) = (↑s : Int) ∧ (s ≤ l.length ∧ l.length ≤ (20 : Nat)) ∧ (100 : Nat) + (l.length - s) < (100 : Nat) + (l.length - i) ∧ True) ∧ (decide ((↑i : Int) < (↑l.length : Int)) = false → decD.pre
 (IntKind.i64.wrap ((1 : Int) + IntKind.i64.wrap ((IntKind.u64.wrap c).tmod (10 : Int))), ()) ∧ (↑([(99 : UInt8), (111 : UInt8), (100 : UInt8), (101 : UInt8), (32 : UInt8)].length + (decS (IntKind.i64.wrap ((1 : Int) +
 IntKind.i64.wrap ((IntKind.u64.wrap c).tmod (10 : Int))))).length) : Int) ≤ (9223372036854775807 : Int) ∧ (↑((words (List.take i l)).length + ([(99 : UInt8), (111 : UInt8), (100 : UInt8), (101 : UInt8), (32 : UInt8)] ++
 decS (IntKind.i64.wrap ((1 : Int) + IntKind.i64.wrap ((IntKind.u64.wrap c).tmod (10 : Int))))).length) : Int) ≤ (9223372036854775807 : Int) ∧ chainD.pre (IntKind.i64.wrap ((1 : Int) + IntKind.i64.wrap ((IntKind.u64.wrap
 c).tmod (10 : Int))), l, ()) ∧ ∃ (s : ErS), c = c ∧ l = l ∧ words (List.take i l) ++ ([(99 : UInt8), (111 : UInt8), (100 : UInt8), (101 : UInt8), (32 : UInt8)] ++ decS (IntKind.i64.wrap ((1 : Int) + IntKind.i64.wrap
 ((IntKind.u64.wrap c).tmod (10 : Int))))) = text (cd c) l ∧ ch (IntKind.i64.wrap ((1 : Int) + IntKind.i64.wrap ((IntKind.u64.wrap c).tmod (10 : Int)))) l = s.e ∧ (s.e = ch (cd c) l ∧ l.length ≤ (20 : Nat)) ∧ (0 : Nat) <
 (100 : Nat) + (l.length - i) ∧ True)) := by kernel_rfl
theorem bt_10n (c : Int) (l m : List P) (i : Nat) (xs : List AVal) : Go.Sy.Tree.holds (cutVC F (lookC u5) 200 Tryd.f5 b5 (btF c l) 10 (btC10 c l) ⟨.iface 119 (.eptr i xs), m⟩) = ( (decide ((↑l.length : Int) > (0 : Int)) =
 true → (true = true → false = true ∧ True) ∧ (true = false → false = true ∧ True)) ∧ (decide ((↑l.length : Int) > (0 : Int)) = false → ∃ (y : Int × List P), AVal.iface (119 : TypeId) (AVal.eptr i xs) = ch y.fst y.snd ∧
 (textD (20 : Nat)).pre (y, ()) ∧ (text y.fst y.snd == text (cd c) l) = true ∧ True)) := by kernel_rfl
theorem bt_10c (c : Int) (l m : List P) (t p : Int) (u : TypeId) (a : AVal) : Go.Sy.Tree.holds (cutVC F (lookC u5) 200 Tryd.f5 b5 (btF c l) 10 (btC10 c l) ⟨.iface 52 (.ipt [.int .i64 t, .int .i64 p, .iface u a]), m⟩) = (
 (decide ((↑l.length : Int) > (0 : Int)) = true → (false = true → false = true ∧ True) ∧ (false = false → itoaD.pre (t, ()) ∧ (↑([(116 : UInt8), (104 : UInt8), (114 : UInt8), (101 : UInt8), (97 : UInt8), (100 : UInt8),
 (32 : UInt8)].length + (decS t).length) : Int) ≤ (9223372036854775807 : Int) ∧ (↑(([(116 : UInt8), (104 : UInt8), (114 : UInt8), (101 : UInt8), (97 : UInt8), (100 : UInt8), (32 : UInt8)] ++ decS t).length + [(44 :
 UInt8), (32 : UInt8), (112 : UInt8), (108 : UInt8), (97 : UInt8), (99 : UInt8), (101 : UInt8), (32 : UInt8)].length) : Int) ≤ (9223372036854775807 : Int) ∧ itoaD.pre (p, ()) ∧ (↑(([(116 : UInt8), (104 : UInt8), (114 :
 UInt8), (101 : UInt8), (97 : UInt8), (100 : UInt8), (32 : UInt8)] ++ decS t ++ [(44 : UInt8), (32 : UInt8), (112 : UInt8), (108 : UInt8), (97 : UInt8), (99 : UInt8), (101 : UInt8), (32 : UInt8)]).length + (decS
 p).length) : Int) ≤ (9223372036854775807 : Int) ∧ (↑(([(116 : UInt8), (104 : UInt8), (114 : UInt8), (101 : UInt8), (97 : UInt8), (100 : UInt8), (32 : UInt8)] ++ decS t ++ [(44 : UInt8), (32 : UInt8), (112 : UInt8), (108
 : UInt8), (97 : UInt8), (99 : UInt8), (101 : UInt8), (32 : UInt8)] ++ decS p).length + [(58 : UInt8), (32 : UInt8)].length) : Int) ≤ (9223372036854775807 : Int) ∧ ∃ (y : Int × List P), AVal.iface u a = ch y.fst y.snd ∧
 (textD (20 : Nat)).pre (y, ()) ∧ (↑(([(116 : UInt8), (104 : UInt8), (114 : UInt8), (101 : UInt8), (97 : UInt8), (100 : UInt8), (32 : UInt8)] ++ decS t ++ [(44 : UInt8), (32 : UInt8), (112 : UInt8), (108 : UInt8), (97 :
 UInt8), (99 : UInt8), (101 : UInt8), (32 : UInt8)] ++ decS p ++ [(58 : UInt8), (32 : UInt8)]).length + (text y.fst y.snd).length) : Int) ≤ (9223372036854775807 : Int) ∧ ((![(116 : UInt8), (104 : UInt8), (114 : UInt8),
 (101 : UInt8), (97 : UInt8), (100 : UInt8), (32 : UInt8)] ++ decS t ++ [(44 : UInt8), (32 : UInt8), (112 : UInt8), (108 : UInt8), (97 : UInt8), (99 : UInt8), (101 : UInt8), (32 : UInt8)] ++ decS p ++ [(58 : UInt8), (32 :
 UInt8)] ++ text y.fst y.snd == text (cd c) l) = true → false = true ∧ True) ∧ ((![(116 : UInt8), (104 : UInt8), (114 : UInt8), (101 : UInt8), (97 : UInt8), (100 : UInt8), (32 : UInt8)] ++ decS t ++ [(44 : UInt8), (32 :
 UInt8), (112 : UInt8), (108 : UInt8), (97 : UInt8), (99 : UInt8), (101 : UInt8), (32 : UInt8)] ++ decS p ++ [(58 : UInt8), (32 : UInt8)] ++ text y.fst y.snd == text (cd c) l) = false → ∃ (y : Int × List P), AVal.iface
 (52 : TypeId) (AVal.ipt [AVal.int IntKind.i64 t, AVal.int IntKind.i64 p, AVal.iface u a]) = ch y.fst y.snd ∧ (textD (20 : Nat)).pre (y, ()) ∧ (text y.fst y.snd == text (cd c) l) = true ∧ True))) ∧ (decide ((↑l.length :
 Int) > (0 : Int)) = false → ∃ (y : Int × List P), AVal.iface (52 : TypeId) (AVal.ipt [AVal.int IntKind.i64 t, AVal.int IntKind.i64 p, AVal.iface u a]) = ch y.fst y.snd ∧ (textD (20 : Nat)).pre (y, ()) ∧ (text y.fst y.snd
 == text (cd c) l) = true ∧ True)) := by kernel_rfl

theorem cd_is (c : Int) : 1 ≤ cd c ∧ cd c ≤ 10 := by
  have h := Int.emod_nonneg (IntKind.u64.wrap c) (b := 10) (by decide)
  have h2 := Int.emod_lt_of_pos (IntKind.u64.wrap c) (b := 10) (by decide)
  have e : (IntKind.u64.wrap c).tmod 10 = IntKind.u64.wrap c % 10 := Int.tmod_eq_emod_of_nonneg (wrapU64_is c).1
  unfold cd
  rw [e, wrap64 (n := IntKind.u64.wrap c % 10) (by omega) (by omega), wrap64 (by omega) (by omega)]
  omega
def sCode : List UInt8 := [99, 111, 100, 101, 32]
theorem dec_one (c : Int) (h1 : 1 ≤ c) (h2 : c ≤ 9) : decS c = [UInt8.ofNat (48 + c.toNat)] := by
  rw [decS, if_neg (by omega), decN, mag_pos (by omega) (by omega), if_neg (by omega), digits_list 1 _ (by decide) (by simp; omega) (by simp; omega)]
  simp
  rw [Nat.mod_eq_of_lt (by omega)]
theorem dec_ten : decS 10 = [49, 48] := by
  rw [decS, if_neg (by decide), decN, mag_pos (by decide) (by decide), if_neg (by decide), digits_list 2 _ (by decide) (by decide) (by decide)]
  rfl
theorem code_text (c : Int) (h1 : 1 ≤ c) (h2 : c ≤ 10) : sCode ++ decS c = codeT c := by
  rcases (show c = 10 ∨ c ≤ 9 by omega) with rfl | h3
  · rw [dec_ten]; rfl
  · rw [dec_one c h1 h3]
    rcases (show c = 1 ∨ c = 2 ∨ c = 3 ∨ c = 4 ∨ c = 5 ∨ c = 6 ∨ c = 7 ∨ c = 8 ∨ c = 9 by omega) with rfl | rfl | rfl | rfl | rfl | rfl | rfl | rfl | rfl <;> rfl
theorem words_append : ∀ (a b : List P), words (a ++ b) = words a ++ words b
  | [], b => rfl
  | x :: a, b => by
    show word1 x ++ words (a ++ b) = word1 x ++ words a ++ words b
    rw [words_append a b, List.append_assoc]
theorem words_len : ∀ l : List P, (words l).length ≤ 60 * l.length
  | [] => Nat.le_refl _
  | x :: l => by
    have h1 := word1_len x
    have h2 := words_len l
    simp only [words, List.length_append, List.length_cons]
    omega
theorem text_words (c : Int) : ∀ l : List P, text c l = words l ++ codeT c
  | [] => rfl
  | x :: l => by
    show word1 x ++ text c l = word1 x ++ words l ++ codeT c
    rw [text_words c l, List.append_assoc]
theorem u5Ok : CtrOk F.S (lookC u5) := lookC_ok fun p h => by
  simp only [u5, List.mem_cons, List.not_mem_nil, or_false] at h
  rcases h with rfl | rfl | rfl | rfl | rfl | rfl
  · exact toldCtr_ok rfl
  · exact decOk
  · exact chainOk
  · exact asCtr_ok
  · exact it40Ok
  · exact textOk 20
theorem bt_e_ok (c : Int) (l : List P) : Paid (entryX F (lookC u5) 200 Tryd.f5 b5 (btF c l) [.i .i64 c, .tl (T := T) 1 l]) := by
  refine ⟨?_⟩
  rw [bt_e]
  refine ⟨fun _ => ⟨rfl, trivial⟩, fun h => ?_⟩
  have h : l.length ≤ 20 := by simp at h; omega
  exact ⟨0, rfl, rfl, rfl, rfl, ⟨Nat.zero_le _, h⟩, trivial⟩
theorem bt_5_ok (c : Int) (l : List P) (i : Nat) (hi : i ≤ l.length) (h20 : l.length ≤ 20) : Paid (cutVC F (lookC u5) 200 Tryd.f5 b5 (btF c l) 5 (btC5 c l) i) := by
  refine ⟨?_⟩
  rw [bt_5]
  have hw := words_len (l.take i)
  rw [List.length_take] at hw
  refine ⟨fun h => ?_, fun h => ?_⟩
  · have hi : i < l.length := by simpa using h
    have e : at1 l (i : Int) = l[i] := at1_get hi
    rw [e]
    have h1 := decS_len l[i].t
    have h2 := decS_len l[i].p
    refine ⟨⟨by omega, by omega⟩, trivial, ?_, ?_, ⟨by omega, by omega⟩, trivial, ?_, ?_, ?_, i + 1, rfl, rfl, ?_, succ64 (by omega), ⟨by omega, h20⟩, by omega, trivial⟩
    all_goals first
      | (simp only [List.length_append, List.length_cons, List.length_nil]; omega)
      | skip
    rw [List.take_succ_eq_append_getElem hi, words_append]
    simp only [words, word1, sThread, sPlace, sColon, List.append_nil]
  · have hi : i = l.length := by simp at h; omega
    subst hi
    rw [List.take_length] at hw ⊢
    have h1 := decS_len (cd c)
    have hc := cd_is c
    refine ⟨trivial, ?_, ?_, ⟨hc.1, hc.2, h20⟩, ⟨ch (cd c) l, l⟩, rfl, rfl, ?_, rfl, ⟨rfl, h20⟩, ?_, trivial⟩
    · unfold cd at h1
      simp only [List.length_cons, List.length_nil]
      omega
    · unfold cd at h1
      simp only [List.length_append, List.length_cons, List.length_nil]
      omega
    · rw [text_words, ← code_text (cd c) hc.1 hc.2]
      rfl
    · omega
theorem bt_10_ok (c : Int) (l : List P) (hl : ∀ y ∈ l, okP y) (s : ErS) (hI : s.e = ch (cd c) l) (h20 : l.length ≤ 20) : Paid (cutVC F (lookC u5) 200 Tryd.f5 b5 (btF c l) 10 (btC10 c l) s) := by
  obtain ⟨e, m⟩ := s
  replace hI : e = ch (cd c) l := hI
  cases l with
  | nil =>
    rw [ch_nil, newV] at hI
    subst hI
    refine ⟨?_⟩
    rw [bt_10n]
    exact ⟨fun h => by simp at h, fun _ => ⟨(cd c, []), rfl, ⟨Nat.zero_le _, Nat.le_refl _, hl⟩, by simp, trivial⟩⟩
  | cons x l =>
    rw [ch_cons] at hI
    obtain ⟨u, a, e1, _⟩ := ch_is (cd c) l
    rw [e1] at hI
    subst hI
    refine ⟨?_⟩
    rw [bt_10c]
    have hx := hl x List.mem_cons_self
    have hl' : ∀ y ∈ l, okP y := fun y hy => hl y (List.mem_cons_of_mem _ hy)
    simp only [List.length_cons] at h20
    have h1 := decS_len x.t
    have h2 := decS_len x.p
    have h3 := text_len (cd c) l
    have fin : ∃ (y : Int × List P), AVal.iface (52 : TypeId) (AVal.ipt [AVal.int IntKind.i64 x.t, AVal.int IntKind.i64 x.p, AVal.iface u a]) = ch y.fst y.snd ∧ (textD (20 : Nat)).pre (y, ()) ∧ (text y.fst y.snd == text (cd c) (x :: l)) = true ∧ True :=
      ⟨(cd c, x :: l), by rw [ch_cons, e1], ⟨h20, Nat.le_refl _, hl⟩, by simp, trivial⟩
    refine ⟨fun _ => ⟨nofun, fun _ => ⟨hx.1, ?_, ?_, hx.2, ?_, ?_, (cd c, l), e1.symm, ⟨by show l.length ≤ 20; omega, Nat.le_refl _, hl'⟩, ?_, ?_, fun _ => fin⟩⟩, fun h => fin⟩
    all_goals first
      | (simp only [List.length_append, List.length_cons, List.length_nil]; omega)
      | skip
    intro h
    exfalso
    simp [text, word1, sThread, sPlace, sColon] at h
theorem bt_cuts (c : Int) (l : List P) (hl : ∀ y ∈ l, okP y) : ∀ p, p ∈ [(5, btC5 c l), (10, btC10 c l)] → ∀ s, p.2.I s → Paid (cutVC F (lookC u5) 200 Tryd.f5 b5 ⟨[(5, btC5 c l), (10, btC10 c l)], .b true, []⟩ p.1 p.2 s) := by
  intro p hm s hI
  simp only [List.mem_cons, List.not_mem_nil, or_false] at hm
  rcases hm with rfl | rfl
  · exact bt_5_ok c l s hI.1 hI.2
  · exact bt_10_ok c l hl s hI.1 hI.2
theorem text_run (c : Int) (l : List P) (hl : ∀ y ∈ l, okP y) {av : List AVal} (hA : Ers (C := cod) (away []) [.i .i64 c, .tl (T := T) 1 l] av) : ∃ n H', runA S n 0 5 av [] = some (.bool true, H') :=
  law_paid (F := F) (fn := Tryd.f5) (body := b5) (args := [.i .i64 c, .tl (T := T) 1 l]) codOk noExt hookLow u5Ok Tryd.func5 rfl rfl rfl 200 [(5, btC5 c l), (10, btC10 c l)] (show 2 ≤ 77 by decide) (show 77 ≤ 512 by decide) (by kernel_rfl) (bt_e_ok c l) (bt_cuts c l hl) hA
end Go.Proofs.YtomlcdalhihnaaaDoor
