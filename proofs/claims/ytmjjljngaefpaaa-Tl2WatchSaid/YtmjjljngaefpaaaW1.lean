/- Tl2Watch: a turn, from each of its states. -/
import Derived.Test.YtmjjljngaefpaaaWf
namespace Go.Proofs.Ytmjjljngaefpaaa
open Go.RowKit Go.Am Go.Sy
set_option linter.unusedVariables false
set_option linter.unusedSimpArgs false
variable (p : List Op) (n i : Nat) (rd rs ws : List Wo) (xi : Nat) (a c bk value steps asked : Int) (W rows : List Int)
theorem tu_B : Go.Sy.Tree.holds (vcD p (dB p) ⟨n, i, rd, rs, ws, xi, a, c, bk, value, steps, asked, W, rows⟩) = ( sizeD.pre (mp1, ()) ∧ (decide ((↑(wV (↑n : Int) 0 0 0 0 0).length : Int) < 34) = true → KD i p rd value) ∧
 (decide ((↑(wV (↑n : Int) 0 0 0 0 0).length : Int) < 34) = false → stripeD.pre (mp1, hashT a, ()) ∧ badD.pre (Mw.mk (wV (↑n : Int) 0 0 0 0 0), a, ()) ∧ ((0 : Int) ≤ a ∧ a < (↑(wV (↑n : Int) 0 0 0 0 0).length : Int)) ∧
 ((0 : Int) ≤ a ∧ a < (↑(wV (↑n : Int) 0 0 0 0 0).length : Int)) ∧ ∃ (s : (oBC p).St), p = p ∧ rd = s.rd ∧ rs = s.rs ∧ ws = s.ws ∧ wV (↑n : Int) 0 0 0 0 0 = wV (↑s.n : Int) 0 0 0 0 0 ∧ wat = wat ∧ Z2 (IntKind.i64.wrap
 (steps + 1) = s.steps ∧ Q 32 ∧ filtT ws = filtT s.ws ∧ asked = s.asked ∧ Z40 (c = s.c ∧ Z48 (a = s.a ∧ hashT a = hashT s.a ∧ Q 0 ∧ AVal.int IntKind.i64 (at0 (wV (↑n : Int) 0 0 0 0 0) a) = AVal.int IntKind.i64 0 ∧ value =
 s.value ∧ Z5 ((↑i : Int) = (↑s.i : Int) ∧ Z16 ((oBC p).I (US.mk n i rd rs ws xi a c bk value steps asked W rows) s ∧ True))))))) := by kernel_rfl
theorem tu_B_ok (p : List Op) (s : US) (hI : (dB p).I s) : Paid (vcD p (dB p) s) := by
  obtain ⟨n, i, rd, rs, ws, xi, a, c, bk, value, steps, asked, W, rows⟩ := s
  obtain ⟨⟨⟨⟨hpO, hc, hi, hrd, hrs, hws, hwd, hrr⟩, hnod⟩, hi1, hi2, hd⟩, hn⟩ := hI
  have hi1 : 1 ≤ i := hi1
  have hi2 : i ≤ p.length := hi2
  have hd : isData a := hd
  have hh := hash_in hd
  have hc : c = 1 ∨ c = 2 := hc
  have hi : i ≤ p.length + 1 := hi
  have hrd : rd.length ≤ i := hrd
  have hrs : rs.length ≤ i := hrs
  have hws : ws.length ≤ i := hws
  have hwd : ∀ w ∈ ws, isData w.pl := hwd
  have hrr : ∀ w ∈ rs, 0 ≤ w.pl ∧ w.pl < 3 := hrr
  have hn : n ≤ 1 := hn
  have hv : n = 0 ∨ n = 1 := by omega
  have hB : ∀ {n xi : Nat} {a bk value steps asked : Int} {W rows : List Int}, baseI p ⟨n, i, rd, rs, ws, xi, a, c, bk, value, steps, asked, W, rows⟩ := mkBase hpO hc hi hrd hrs hws hwd hrr
  have hp8 := hpO.1
  refine ⟨?_⟩
  rw [tu_B]
  refine ⟨rfl, ?_, ?_⟩
  · intro h1
    exact absurd ((show decide ((↑(wV (↑n : Int) (0 : Int) (0 : Int) (0 : Int) (0 : Int) (0 : Int)).length : Int) < (34 : Int)) = false by kernel_rfl).symm.trans h1) (by decide)
  · intro h2
    replace h2 := of_decide_eq_false h2
    first
    | (exfalso; omega)
    | (refine ⟨(And.intro rfl (And.intro (show (0 : Int) ≤ hashT a from hh.1) (show hashT a < (3 : Int) from hh.2))), (And.intro (show (0 : Int) ≤ a from (data_lt hd).1) (show a < ((Mw.mk (wV (↑n : Int) (0 : Int) (0 : Int) (0 : Int) (0 : Int) (0 : Int))).ws.length : Int) from (data_lt hd).2)), ?_, ?_, ?_⟩
       · exact ⟨(data_lt hd).1, (data_lt hd).2⟩
       · exact ⟨(data_lt hd).1, (data_lt hd).2⟩
       · exact ⟨⟨n, i, rd, rs, ws, xi, a, c, bk, value, IntKind.i64.wrap (steps + (1 : Int)), asked, W, rows⟩, ⟨rfl, rfl, rfl, rfl, rfl, rfl, t2 ⟨rfl, rfl, rfl, rfl, t40 ⟨rfl, t48 ⟨rfl, rfl, rfl, (congrArg (AVal.int IntKind.i64) (wV_d _ _ hd)), rfl, t5 ⟨rfl, t16 ⟨⟨trivial, ⟨(mkBW hB hnod), mkRead (by omega) (by omega) hd⟩, rfl, (show 58 + 5 * (10 - i) < 59 + 5 * (10 - i) by omega)⟩, trivial⟩⟩⟩⟩⟩⟩⟩)
theorem tu_C : Go.Sy.Tree.holds (vcD p (dC p) ⟨n, i, rd, rs, ws, xi, a, c, bk, value, steps, asked, W, rows⟩) = ( sizeD.pre (mp1, ()) ∧ (decide ((↑(wV (↑n : Int) 0 0 0 0 0).length : Int) < 34) = true → KD i p rd value) ∧
 (decide ((↑(wV (↑n : Int) 0 0 0 0 0).length : Int) < 34) = false → stripeD.pre (mp1, hashT a, ()) ∧ badD.pre (Mw.mk (wV (↑n : Int) 0 0 0 0 0), (2 : Int) + hashT a, ()) ∧ ((0 : Int) ≤ 2 + hashT a ∧ (2 : Int) + hashT a <
 (↑(wV (↑n : Int) 0 0 0 0 0).length : Int)) ∧ ((0 : Int) ≤ 2 + hashT a ∧ (2 : Int) + hashT a < (↑(wV (↑n : Int) 0 0 0 0 0).length : Int)) ∧ ((at0 (wV (↑n : Int) 0 0 0 0 0) ((2 : Int) + hashT a) != 0) = true → Stuck "sum:
 which") ∧ ((at0 (wV (↑n : Int) 0 0 0 0 0) ((2 : Int) + hashT a) != 0) = false → (true = true → ∃ (s : (oCD p).St), p = p ∧ rd = s.rd ∧ rs = s.rs ∧ ws = s.ws ∧ wV (↑n : Int) 0 0 0 0 0 = wV (↑s.n : Int) 0 0 0 0 0 ∧ wat =
 wat ∧ Z2 (IntKind.i64.wrap (steps + 1) = s.steps ∧ Q 32 ∧ filtT ws = filtT s.ws ∧ asked = s.asked ∧ Z40 (c = s.c ∧ Z49 (a = s.a ∧ hashT a = hashT s.a ∧ Q 0 ∧ value = s.value ∧ Z5 ((↑i : Int) = (↑s.i : Int) ∧ Z16 ((oCD
 p).I (US.mk n i rd rs ws xi a c bk value steps asked W rows) s ∧ True)))))) ∧ (true = false → roomD.pre (Rs.mk (32 : Int) rs, hashT a, ()) ∧ hasD.pre (Rs.mk (32 : Int) rs, hashT a, ()) ∧ ((!hasB (Rs.mk (32 : Int) rs).ls
 (hashT a)) = true → (rs.length + [Wo.mk (hashT a) (0 : Int)].length) * 16 ≤ 140737488355328 ∧ (decide ((↑i : Int) > (↑p.length : Int)) = true → Stuck "sum: which") ∧ (decide ((↑i : Int) > (↑p.length : Int)) = false →
 (decide ((↑i : Int) > 0) = true → Bi i p ∧ Bi i p ∧ (((at2 p (IntKind.i64.wrap ((↑i : Int) - 1))).kd == 0) = true → Bi i p ∧ Bi i p ∧ (rd.length + [Wo.mk (at2 p (IntKind.i64.wrap ((↑i : Int) - 1))).pl (0 : Int)].length)
 * 16 ≤ 140737488355328 ∧ Stuck "sum: which") ∧ (((at2 p (IntKind.i64.wrap ((↑i : Int) - 1))).kd == 0) = false → Stuck "sum: which")) ∧ (decide ((↑i : Int) > 0) = false → Stuck "sum: which"))) ∧ ((!hasB (Rs.mk (32 : Int)
 rs).ls (hashT a)) = false → (decide ((↑i : Int) > (↑p.length : Int)) = true → Stuck "sum: which") ∧ (decide ((↑i : Int) > (↑p.length : Int)) = false → (decide ((↑i : Int) > 0) = true → Bi i p ∧ Bi i p ∧ (((at2 p
 (IntKind.i64.wrap ((↑i : Int) - 1))).kd == 0) = true → Bi i p ∧ Bi i p ∧ (rd.length + [Wo.mk (at2 p (IntKind.i64.wrap ((↑i : Int) - 1))).pl (0 : Int)].length) * 16 ≤ 140737488355328 ∧ Stuck "sum: which") ∧ (((at2 p
 (IntKind.i64.wrap ((↑i : Int) - 1))).kd == 0) = false → Stuck "sum: which")) ∧ (decide ((↑i : Int) > 0) = false → Stuck "sum: which"))))))) := by kernel_rfl
theorem tu_C_ok (p : List Op) (s : US) (hI : (dC p).I s) : Paid (vcD p (dC p) s) := by
  obtain ⟨n, i, rd, rs, ws, xi, a, c, bk, value, steps, asked, W, rows⟩ := s
  obtain ⟨⟨⟨⟨hpO, hc, hi, hrd, hrs, hws, hwd, hrr⟩, hnod⟩, hi1, hi2, hd⟩, hn⟩ := hI
  have hi1 : 1 ≤ i := hi1
  have hi2 : i ≤ p.length := hi2
  have hd : isData a := hd
  have hh := hash_in hd
  have hc : c = 1 ∨ c = 2 := hc
  have hi : i ≤ p.length + 1 := hi
  have hrd : rd.length ≤ i := hrd
  have hrs : rs.length ≤ i := hrs
  have hws : ws.length ≤ i := hws
  have hwd : ∀ w ∈ ws, isData w.pl := hwd
  have hrr : ∀ w ∈ rs, 0 ≤ w.pl ∧ w.pl < 3 := hrr
  have hn : n ≤ 1 := hn
  have hv : n = 0 ∨ n = 1 := by omega
  have hB : ∀ {n xi : Nat} {a bk value steps asked : Int} {W rows : List Int}, baseI p ⟨n, i, rd, rs, ws, xi, a, c, bk, value, steps, asked, W, rows⟩ := mkBase hpO hc hi hrd hrs hws hwd hrr
  have hp8 := hpO.1
  refine ⟨?_⟩
  rw [tu_C]
  refine ⟨rfl, ?_, ?_⟩
  · intro h1
    exact absurd ((show decide ((↑(wV (↑n : Int) (0 : Int) (0 : Int) (0 : Int) (0 : Int) (0 : Int)).length : Int) < (34 : Int)) = false by kernel_rfl).symm.trans h1) (by decide)
  · intro h2
    replace h2 := of_decide_eq_false h2
    first
    | (exfalso; omega)
    | (refine ⟨(And.intro rfl (And.intro (show (0 : Int) ≤ hashT a from hh.1) (show hashT a < (3 : Int) from hh.2))), (And.intro (show (0 : Int) ≤ (2 : Int) + hashT a from (by have := hh.1; omega)) (show (2 : Int) + hashT a < ((Mw.mk (wV (↑n : Int) (0 : Int) (0 : Int) (0 : Int) (0 : Int) (0 : Int))).ws.length : Int) from (show _ < (34 : Int) by have := hh.2; omega))), ?_, ?_, ?_, ?_⟩
       · exact ⟨(by have := hh.1; omega), (show _ < (34 : Int) by have := hh.2; omega)⟩
       · exact ⟨(by have := hh.1; omega), (show _ < (34 : Int) by have := hh.2; omega)⟩
       · intro h3
         rw [wV_s _ hh.1 hh.2] at h3
         cases h3
       · intro h4
         refine ⟨?_, ?_⟩
         · intro h5
           simp only [decide_eq_true_eq, decide_eq_false_iff_not, beq_iff_eq, beq_eq_false_iff_ne, ne_eq, gt_iff_lt, ge_iff_le, tak_len] at h5
           first
           | (exfalso; omega)
           | (exact ⟨⟨n, i, rd, rs, ws, xi, a, c, bk, value, IntKind.i64.wrap (steps + (1 : Int)), asked, W, rows⟩, ⟨rfl, rfl, rfl, rfl, rfl, rfl, t2 ⟨rfl, rfl, rfl, rfl, t40 ⟨rfl, t49 ⟨rfl, rfl, rfl, rfl, t5 ⟨rfl, t16 ⟨⟨trivial, ⟨(mkBW hB hnod), mkRead (by omega) (by omega) hd⟩, rfl, (show 57 + 5 * (10 - i) < 58 + 5 * (10 - i) by omega)⟩, trivial⟩⟩⟩⟩⟩⟩⟩)
         · intro h6
           cases h6)
theorem tu_D : Go.Sy.Tree.holds (vcD p (dD p) ⟨n, i, rd, rs, ws, xi, a, c, bk, value, steps, asked, W, rows⟩) = ( sizeD.pre (mp1, ()) ∧ (decide ((↑(wV (↑n : Int) 0 0 0 0 0).length : Int) < 34) = true → KD i p rd value) ∧
 (decide ((↑(wV (↑n : Int) 0 0 0 0 0).length : Int) < 34) = false → stripeD.pre (mp1, hashT a, ()) ∧ ((0 : Int) ≤ 0 ∧ (0 : Int) < 1) ∧ ((0 : Int) ≤ 0 ∧ (0 : Int) < 1) ∧ badD.pre (Mw.mk (wV (↑n : Int) 0 0 0 0 0), (at3 wat
 (0 : Int)).pl, ()) ∧ ((0 : Int) ≤ (at3 wat (0 : Int)).pl ∧ (at3 wat (0 : Int)).pl < (↑(wV (↑n : Int) 0 0 0 0 0).length : Int)) ∧ ((0 : Int) ≤ (at3 wat (0 : Int)).pl ∧ (at3 wat (0 : Int)).pl < (↑(wV (↑n : Int) 0 0 0 0
 0).length : Int)) ∧ ((0 : Int) ≤ 0 ∧ (0 : Int) < 1) ∧ ((0 : Int) ≤ 0 ∧ (0 : Int) < 1) ∧ ((!at0 (wV (↑n : Int) 0 0 0 0 0) (at3 wat (0 : Int)).pl == (at3 wat (0 : Int)).vl) = true → ∃ (s : (oDQ p).St), p = p ∧ rd = s.rd ∧
 rs = s.rs ∧ ws = s.ws ∧ wV (↑n : Int) 0 0 0 0 0 = wV (1 : Int) s.a (0 : Int) (0 : Int) (0 : Int) (0 : Int) ∧ wat = wat ∧ Z2 (IntKind.i64.wrap (steps + 1) = s.steps ∧ Q 32 ∧ filtT ws = filtT s.ws ∧ asked = s.asked ∧ Z50
 ((oDQ p).I (US.mk n i rd rs ws xi a c bk value steps asked W rows) s ∧ True))) ∧ ((!at0 (wV (↑n : Int) 0 0 0 0 0) (at3 wat (0 : Int)).pl == (at3 wat (0 : Int)).vl) = false → (false = true → Stuck "sum: which") ∧ (false =
 false → roomD.pre (Rs.mk (32 : Int) rs, hashT a, ()) ∧ hasD.pre (Rs.mk (32 : Int) rs, hashT a, ()) ∧ ((!hasB (Rs.mk (32 : Int) rs).ls (hashT a)) = true → (rs.length + [Wo.mk (hashT a) (0 : Int)].length) * 16 ≤
 140737488355328 ∧ (decide ((↑i : Int) > (↑p.length : Int)) = true → Stuck "sum: which") ∧ (decide ((↑i : Int) > (↑p.length : Int)) = false → (decide ((↑i : Int) > 0) = true → Bi i p ∧ Bi i p ∧ (((at2 p (IntKind.i64.wrap
 ((↑i : Int) - 1))).kd == 0) = true → Bi i p ∧ Bi i p ∧ (rd.length + [Wo.mk (at2 p (IntKind.i64.wrap ((↑i : Int) - 1))).pl (0 : Int)].length) * 16 ≤ 140737488355328 ∧ ∃ (s : (oDA p).St), p = p ∧ ws = s.ws ∧ wV (↑n : Int)
 0 0 0 0 0 = wV (↑s.n : Int) 0 0 0 0 0 ∧ wat = wat ∧ Z2 (IntKind.i64.wrap (steps + 1) = s.steps ∧ Q 32 ∧ filtT ws = filtT s.ws ∧ asked = s.asked ∧ Q 32 ∧ rs ++ [Wo.mk (hashT a) (0 : Int)] = s.rs ∧ Z8 (c = s.c ∧ Z51 ((0 :
 Int) = s.value ∧ Z5 (IntKind.i64.wrap ((↑i : Int) + 1) = (↑s.i : Int) ∧ constA (Value.bool false) = AVal.bool false ∧ Q 0 ∧ rd ++ [Wo.mk (at2 p (IntKind.i64.wrap ((↑i : Int) - 1))).pl (0 : Int)] = s.rd ∧ (oDA p).I (US.mk
 n i rd rs ws xi a c bk value steps asked W rows) s ∧ True))))) ∧ (((at2 p (IntKind.i64.wrap ((↑i : Int) - 1))).kd == 0) = false → ∃ (s : (oDA p).St), p = p ∧ ws = s.ws ∧ wV (↑n : Int) 0 0 0 0 0 = wV (↑s.n : Int) 0 0 0 0
 0 ∧ wat = wat ∧ Z2 (IntKind.i64.wrap (steps + 1) = s.steps ∧ Q 32 ∧ filtT ws = filtT s.ws ∧ asked = s.asked ∧ Q 32 ∧ rs ++ [Wo.mk (hashT a) (0 : Int)] = s.rs ∧ Z8 (c = s.c ∧ Z51 ((0 : Int) = s.value ∧ Z5
 (IntKind.i64.wrap ((↑i : Int) + 1) = (↑s.i : Int) ∧ constA (Value.bool false) = AVal.bool false ∧ Q 0 ∧ rd = s.rd ∧ (oDA p).I (US.mk n i rd rs ws xi a c bk value steps asked W rows) s ∧ True)))))) ∧ (decide ((↑i : Int) >
 0) = false → ∃ (s : (oDA p).St), p = p ∧ ws = s.ws ∧ wV (↑n : Int) 0 0 0 0 0 = wV (↑s.n : Int) 0 0 0 0 0 ∧ wat = wat ∧ Z2 (IntKind.i64.wrap (steps + 1) = s.steps ∧ Q 32 ∧ filtT ws = filtT s.ws ∧ asked = s.asked ∧ Q 32 ∧
 rs ++ [Wo.mk (hashT a) (0 : Int)] = s.rs ∧ Z8 (c = s.c ∧ Z51 ((0 : Int) = s.value ∧ Z5 (IntKind.i64.wrap ((↑i : Int) + 1) = (↑s.i : Int) ∧ constA (Value.bool false) = AVal.bool false ∧ Q 0 ∧ rd = s.rd ∧ (oDA p).I (US.mk
 n i rd rs ws xi a c bk value steps asked W rows) s ∧ True))))))) ∧ ((!hasB (Rs.mk (32 : Int) rs).ls (hashT a)) = false → (decide ((↑i : Int) > (↑p.length : Int)) = true → Stuck "sum: which") ∧ (decide ((↑i : Int) >
 (↑p.length : Int)) = false → (decide ((↑i : Int) > 0) = true → Bi i p ∧ Bi i p ∧ (((at2 p (IntKind.i64.wrap ((↑i : Int) - 1))).kd == 0) = true → Bi i p ∧ Bi i p ∧ (rd.length + [Wo.mk (at2 p (IntKind.i64.wrap ((↑i : Int)
 - 1))).pl (0 : Int)].length) * 16 ≤ 140737488355328 ∧ ∃ (s : (oDA p).St), p = p ∧ ws = s.ws ∧ wV (↑n : Int) 0 0 0 0 0 = wV (↑s.n : Int) 0 0 0 0 0 ∧ wat = wat ∧ Z2 (IntKind.i64.wrap (steps + 1) = s.steps ∧ Q 32 ∧ filtT ws
 = filtT s.ws ∧ asked = s.asked ∧ Q 32 ∧ rs = s.rs ∧ Z8 (c = s.c ∧ Z51 ((0 : Int) = s.value ∧ Z5 (IntKind.i64.wrap ((↑i : Int) + 1) = (↑s.i : Int) ∧ constA (Value.bool false) = AVal.bool false ∧ Q 0 ∧ rd ++ [Wo.mk (at2 p
 (IntKind.i64.wrap ((↑i : Int) - 1))).pl (0 : Int)] = s.rd ∧ (oDA p).I (US.mk n i rd rs ws xi a c bk value steps asked W rows) s ∧ True))))) ∧ (((at2 p (IntKind.i64.wrap ((↑i : Int) - 1))).kd == 0) = false → ∃ (s : (oDA
 p).St), p = p ∧ ws = s.ws ∧ wV (↑n : Int) 0 0 0 0 0 = wV (↑s.n : Int) 0 0 0 0 0 ∧ wat = wat ∧ Z2 (IntKind.i64.wrap (steps + 1) = s.steps ∧ Q 32 ∧ filtT ws = filtT s.ws ∧ asked = s.asked ∧ Q 32 ∧ rs = s.rs ∧ Z8 (c = s.c ∧
 Z51 ((0 : Int) = s.value ∧ Z5 (IntKind.i64.wrap ((↑i : Int) + 1) = (↑s.i : Int) ∧ constA (Value.bool false) = AVal.bool false ∧ Q 0 ∧ rd = s.rd ∧ (oDA p).I (US.mk n i rd rs ws xi a c bk value steps asked W rows) s ∧
 True)))))) ∧ (decide ((↑i : Int) > 0) = false → ∃ (s : (oDA p).St), p = p ∧ ws = s.ws ∧ wV (↑n : Int) 0 0 0 0 0 = wV (↑s.n : Int) 0 0 0 0 0 ∧ wat = wat ∧ Z2 (IntKind.i64.wrap (steps + 1) = s.steps ∧ Q 32 ∧ filtT ws =
 filtT s.ws ∧ asked = s.asked ∧ Q 32 ∧ rs = s.rs ∧ Z8 (c = s.c ∧ Z51 ((0 : Int) = s.value ∧ Z5 (IntKind.i64.wrap ((↑i : Int) + 1) = (↑s.i : Int) ∧ constA (Value.bool false) = AVal.bool false ∧ Q 0 ∧ rd = s.rd ∧ (oDA p).I
 (US.mk n i rd rs ws xi a c bk value steps asked W rows) s ∧ True))))))))))) := by kernel_rfl
theorem tu_D_ok (p : List Op) (s : US) (hI : (dD p).I s) : Paid (vcD p (dD p) s) := by
  obtain ⟨n, i, rd, rs, ws, xi, a, c, bk, value, steps, asked, W, rows⟩ := s
  obtain ⟨⟨⟨⟨hpO, hc, hi, hrd, hrs, hws, hwd, hrr⟩, hnod⟩, hi1, hi2, hd⟩, hn⟩ := hI
  have hi1 : 1 ≤ i := hi1
  have hi2 : i ≤ p.length := hi2
  have hd : isData a := hd
  have hh := hash_in hd
  have hc : c = 1 ∨ c = 2 := hc
  have hi : i ≤ p.length + 1 := hi
  have hrd : rd.length ≤ i := hrd
  have hrs : rs.length ≤ i := hrs
  have hws : ws.length ≤ i := hws
  have hwd : ∀ w ∈ ws, isData w.pl := hwd
  have hrr : ∀ w ∈ rs, 0 ≤ w.pl ∧ w.pl < 3 := hrr
  have hn : n ≤ 1 := hn
  have hv : n = 0 ∨ n = 1 := by omega
  have hB : ∀ {n xi : Nat} {a bk value steps asked : Int} {W rows : List Int}, baseI p ⟨n, i, rd, rs, ws, xi, a, c, bk, value, steps, asked, W, rows⟩ := mkBase hpO hc hi hrd hrs hws hwd hrr
  have hp8 := hpO.1
  refine ⟨?_⟩
  rw [tu_D]
  refine ⟨rfl, ?_, ?_⟩
  · intro h1
    exact absurd ((show decide ((↑(wV (↑n : Int) (0 : Int) (0 : Int) (0 : Int) (0 : Int) (0 : Int)).length : Int) < (34 : Int)) = false by kernel_rfl).symm.trans h1) (by decide)
  · intro h2
    replace h2 := of_decide_eq_false h2
    first
    | (exfalso; omega)
    | (refine ⟨(And.intro rfl (And.intro (show (0 : Int) ≤ hashT a from hh.1) (show hashT a < (3 : Int) from hh.2))), ?_, ?_, (And.intro (show (0 : Int) ≤ (at3 wat (0 : Int)).pl from (by decide)) (show (at3 wat (0 : Int)).pl < ((Mw.mk (wV (↑n : Int) (0 : Int) (0 : Int) (0 : Int) (0 : Int) (0 : Int))).ws.length : Int) from (show (9 : Int) < ((34 : Nat) : Int) by decide))), ?_, ?_, ?_, ?_, ?_, ?_⟩
       · exact ⟨(by decide), (by decide)⟩
       · exact ⟨(by decide), (by decide)⟩
       · exact ⟨(by decide), (show (9 : Int) < ((34 : Nat) : Int) by decide)⟩
       · exact ⟨(by decide), (show (9 : Int) < ((34 : Nat) : Int) by decide)⟩
       · exact ⟨(by decide), (by decide)⟩
       · exact ⟨(by decide), (by decide)⟩
       · intro h3
         have hv1 : n = 1 := by
           rcases hv with e | e
           · subst e; exact absurd ((show (!at0 (wV ((0 : Nat) : Int) (0 : Int) (0 : Int) (0 : Int) (0 : Int) (0 : Int)) (at3 wat (0 : Int)).pl == (at3 wat (0 : Int)).vl) = false by kernel_rfl).symm.trans h3) (by decide)
           · subst e; rfl
         exact ⟨⟨n, i, rd, rs, ws, xi, (0 : Int), c, bk, value, IntKind.i64.wrap (steps + (1 : Int)), asked, W, rows⟩, ⟨rfl, rfl, rfl, rfl, (by rw [show (n : Int) = 1 by omega]), rfl, t2 ⟨rfl, rfl, rfl, rfl, t50 ⟨⟨hv1, ⟨(mkBW hB hnod), trivial⟩, rfl, (show 0 < 57 + 5 * (10 - i) by omega)⟩, trivial⟩⟩⟩⟩
       · intro h4
         have hv0 : n = 0 := by
           rcases hv with e | e
           · subst e; rfl
           · subst e; exact absurd ((show (!at0 (wV ((1 : Nat) : Int) (0 : Int) (0 : Int) (0 : Int) (0 : Int) (0 : Int)) (at3 wat (0 : Int)).pl == (at3 wat (0 : Int)).vl) = true by kernel_rfl).symm.trans h4) (by decide)
         refine ⟨?_, ?_⟩
         · intro h5
           cases h5
         · intro h6
           refine ⟨(And.intro rfl (show rs.length < 32 by omega)), (show rs.length ≤ 1000 by omega), ?_, ?_⟩
           · intro h7
             refine ⟨(by simp only [List.length_cons, List.length_nil, tak_len] at *; first | omega | (have := rows_take rows hr8 xi (by omega); have := rows_len _ this; omega)), ?_, ?_⟩
             · intro h8
               replace h8 := of_decide_eq_true h8
               first
               | (exfalso; omega)
               | (exfalso; omega)
             · intro h9
               replace h9 := of_decide_eq_false h9
               first
               | (exfalso; omega)
               | (refine ⟨?_, ?_⟩
                  · intro h10
                    replace h10 := of_decide_eq_true h10
                    first
                    | (exfalso; omega)
                    | (refine ⟨?_, ?_, ?_, ?_⟩
                       · exact ⟨(by rw [wM (by omega)]; omega), (by rw [wM (by omega)]; omega)⟩
                       · exact ⟨(by rw [wM (by omega)]; omega), (by rw [wM (by omega)]; omega)⟩
                       · intro h11
                         refine ⟨?_, ?_, (by simp only [List.length_cons, List.length_nil, tak_len] at *; first | omega | (have := rows_take rows hr8 xi (by omega); have := rows_len _ this; omega)), ?_⟩
                         · exact ⟨(by rw [wM (by omega)]; omega), (by rw [wM (by omega)]; omega)⟩
                         · exact ⟨(by rw [wM (by omega)]; omega), (by rw [wM (by omega)]; omega)⟩
                         · exact ⟨⟨n, i + 1, rd ++ [Wo.mk (at2 p (IntKind.i64.wrap ((↑i : Int) - (1 : Int)))).pl (0 : Int)], rs ++ [Wo.mk (hashT a) (0 : Int)], ws, xi, a, c, bk, (0 : Int), IntKind.i64.wrap (steps + (1 : Int)), asked, W, rows⟩, ⟨rfl, rfl, rfl, rfl, t2 ⟨rfl, rfl, rfl, rfl, rfl, rfl, t8 ⟨rfl, t51 ⟨rfl, t5 ⟨(wN (by omega)), rfl, rfl, rfl, ⟨hv0, ⟨(mkBW (mkBase hpO hc (by first | omega | (simp only [List.length_append, List.length_cons, List.length_nil, List.length_set]; omega)) (by first | omega | (simp only [List.length_append, List.length_cons, List.length_nil, List.length_set]; omega)) (by first | omega | (simp only [List.length_append, List.length_cons, List.length_nil, List.length_set]; omega)) (by first | omega | (simp only [List.length_append, List.length_cons, List.length_nil, List.length_set]; omega)) hwd (mem_snoc (P := fun x => 0 ≤ x ∧ x < 3) hrr hh)) hnod), (show 1 ≤ i + 1 by omega)⟩, rfl, (show 60 + 5 * (10 - (i + 1)) < 57 + 5 * (10 - i) by omega)⟩, trivial⟩⟩⟩⟩⟩⟩
                       · intro h12
                         exact ⟨⟨n, i + 1, rd, rs ++ [Wo.mk (hashT a) (0 : Int)], ws, xi, a, c, bk, (0 : Int), IntKind.i64.wrap (steps + (1 : Int)), asked, W, rows⟩, ⟨rfl, rfl, rfl, rfl, t2 ⟨rfl, rfl, rfl, rfl, rfl, rfl, t8 ⟨rfl, t51 ⟨rfl, t5 ⟨(wN (by omega)), rfl, rfl, rfl, ⟨hv0, ⟨(mkBW (mkBase hpO hc (by first | omega | (simp only [List.length_append, List.length_cons, List.length_nil, List.length_set]; omega)) (by first | omega | (simp only [List.length_append, List.length_cons, List.length_nil, List.length_set]; omega)) (by first | omega | (simp only [List.length_append, List.length_cons, List.length_nil, List.length_set]; omega)) (by first | omega | (simp only [List.length_append, List.length_cons, List.length_nil, List.length_set]; omega)) hwd (mem_snoc (P := fun x => 0 ≤ x ∧ x < 3) hrr hh)) hnod), (show 1 ≤ i + 1 by omega)⟩, rfl, (show 60 + 5 * (10 - (i + 1)) < 57 + 5 * (10 - i) by omega)⟩, trivial⟩⟩⟩⟩⟩⟩)
                  · intro h13
                    replace h13 := of_decide_eq_false h13
                    first
                    | (exfalso; omega)
                    | (exact ⟨⟨n, i + 1, rd, rs ++ [Wo.mk (hashT a) (0 : Int)], ws, xi, a, c, bk, (0 : Int), IntKind.i64.wrap (steps + (1 : Int)), asked, W, rows⟩, ⟨rfl, rfl, rfl, rfl, t2 ⟨rfl, rfl, rfl, rfl, rfl, rfl, t8 ⟨rfl, t51 ⟨rfl, t5 ⟨(wN (by omega)), rfl, rfl, rfl, ⟨hv0, ⟨(mkBW (mkBase hpO hc (by first | omega | (simp only [List.length_append, List.length_cons, List.length_nil, List.length_set]; omega)) (by first | omega | (simp only [List.length_append, List.length_cons, List.length_nil, List.length_set]; omega)) (by first | omega | (simp only [List.length_append, List.length_cons, List.length_nil, List.length_set]; omega)) (by first | omega | (simp only [List.length_append, List.length_cons, List.length_nil, List.length_set]; omega)) hwd (mem_snoc (P := fun x => 0 ≤ x ∧ x < 3) hrr hh)) hnod), (show 1 ≤ i + 1 by omega)⟩, rfl, (show 60 + 5 * (10 - (i + 1)) < 57 + 5 * (10 - i) by omega)⟩, trivial⟩⟩⟩⟩⟩⟩))
           · intro h14
             refine ⟨?_, ?_⟩
             · intro h15
               replace h15 := of_decide_eq_true h15
               first
               | (exfalso; omega)
               | (exfalso; omega)
             · intro h16
               replace h16 := of_decide_eq_false h16
               first
               | (exfalso; omega)
               | (refine ⟨?_, ?_⟩
                  · intro h17
                    replace h17 := of_decide_eq_true h17
                    first
                    | (exfalso; omega)
                    | (refine ⟨?_, ?_, ?_, ?_⟩
                       · exact ⟨(by rw [wM (by omega)]; omega), (by rw [wM (by omega)]; omega)⟩
                       · exact ⟨(by rw [wM (by omega)]; omega), (by rw [wM (by omega)]; omega)⟩
                       · intro h18
                         refine ⟨?_, ?_, (by simp only [List.length_cons, List.length_nil, tak_len] at *; first | omega | (have := rows_take rows hr8 xi (by omega); have := rows_len _ this; omega)), ?_⟩
                         · exact ⟨(by rw [wM (by omega)]; omega), (by rw [wM (by omega)]; omega)⟩
                         · exact ⟨(by rw [wM (by omega)]; omega), (by rw [wM (by omega)]; omega)⟩
                         · exact ⟨⟨n, i + 1, rd ++ [Wo.mk (at2 p (IntKind.i64.wrap ((↑i : Int) - (1 : Int)))).pl (0 : Int)], rs, ws, xi, a, c, bk, (0 : Int), IntKind.i64.wrap (steps + (1 : Int)), asked, W, rows⟩, ⟨rfl, rfl, rfl, rfl, t2 ⟨rfl, rfl, rfl, rfl, rfl, rfl, t8 ⟨rfl, t51 ⟨rfl, t5 ⟨(wN (by omega)), rfl, rfl, rfl, ⟨hv0, ⟨(mkBW (mkBase hpO hc (by first | omega | (simp only [List.length_append, List.length_cons, List.length_nil, List.length_set]; omega)) (by first | omega | (simp only [List.length_append, List.length_cons, List.length_nil, List.length_set]; omega)) (by first | omega | (simp only [List.length_append, List.length_cons, List.length_nil, List.length_set]; omega)) (by first | omega | (simp only [List.length_append, List.length_cons, List.length_nil, List.length_set]; omega)) hwd hrr) hnod), (show 1 ≤ i + 1 by omega)⟩, rfl, (show 60 + 5 * (10 - (i + 1)) < 57 + 5 * (10 - i) by omega)⟩, trivial⟩⟩⟩⟩⟩⟩
                       · intro h19
                         exact ⟨⟨n, i + 1, rd, rs, ws, xi, a, c, bk, (0 : Int), IntKind.i64.wrap (steps + (1 : Int)), asked, W, rows⟩, ⟨rfl, rfl, rfl, rfl, t2 ⟨rfl, rfl, rfl, rfl, rfl, rfl, t8 ⟨rfl, t51 ⟨rfl, t5 ⟨(wN (by omega)), rfl, rfl, rfl, ⟨hv0, ⟨(mkBW (mkBase hpO hc (by first | omega | (simp only [List.length_append, List.length_cons, List.length_nil, List.length_set]; omega)) (by first | omega | (simp only [List.length_append, List.length_cons, List.length_nil, List.length_set]; omega)) (by first | omega | (simp only [List.length_append, List.length_cons, List.length_nil, List.length_set]; omega)) (by first | omega | (simp only [List.length_append, List.length_cons, List.length_nil, List.length_set]; omega)) hwd hrr) hnod), (show 1 ≤ i + 1 by omega)⟩, rfl, (show 60 + 5 * (10 - (i + 1)) < 57 + 5 * (10 - i) by omega)⟩, trivial⟩⟩⟩⟩⟩⟩)
                  · intro h20
                    replace h20 := of_decide_eq_false h20
                    first
                    | (exfalso; omega)
                    | (exact ⟨⟨n, i + 1, rd, rs, ws, xi, a, c, bk, (0 : Int), IntKind.i64.wrap (steps + (1 : Int)), asked, W, rows⟩, ⟨rfl, rfl, rfl, rfl, t2 ⟨rfl, rfl, rfl, rfl, rfl, rfl, t8 ⟨rfl, t51 ⟨rfl, t5 ⟨(wN (by omega)), rfl, rfl, rfl, ⟨hv0, ⟨(mkBW (mkBase hpO hc (by first | omega | (simp only [List.length_append, List.length_cons, List.length_nil, List.length_set]; omega)) (by first | omega | (simp only [List.length_append, List.length_cons, List.length_nil, List.length_set]; omega)) (by first | omega | (simp only [List.length_append, List.length_cons, List.length_nil, List.length_set]; omega)) (by first | omega | (simp only [List.length_append, List.length_cons, List.length_nil, List.length_set]; omega)) hwd hrr) hnod), (show 1 ≤ i + 1 by omega)⟩, rfl, (show 60 + 5 * (10 - (i + 1)) < 57 + 5 * (10 - i) by omega)⟩, trivial⟩⟩⟩⟩⟩⟩)))
theorem tu_E : Go.Sy.Tree.holds (vcD p (dE p) ⟨n, i, rd, rs, ws, xi, a, c, bk, value, steps, asked, W, rows⟩) = ( sizeD.pre (mp1, ()) ∧ (decide ((↑(wRv (↑n : Int) 0 2 (List.take xi rows)).length : Int) < 34) = true → KD i
 p rd value) ∧ (decide ((↑(wRv (↑n : Int) 0 2 (List.take xi rows)).length : Int) < 34) = false → ((0 : Int) ≤ (↑xi : Int) ∧ (↑xi : Int) < (↑rows.length : Int)) ∧ ((0 : Int) ≤ (↑xi : Int) ∧ (↑xi : Int) < (↑rows.length :
 Int)) ∧ stripeD.pre (mp1, at0 rows (↑xi : Int), ()) ∧ badD.pre (Mw.mk (wRv (↑n : Int) 0 2 (List.take xi rows)), (2 : Int) + at0 rows (↑xi : Int), ()) ∧ ((0 : Int) ≤ 2 + at0 rows (↑xi : Int) ∧ (2 : Int) + at0 rows (↑xi :
 Int) < (↑(wRv (↑n : Int) 0 2 (List.take xi rows)).length : Int)) ∧ ((0 : Int) ≤ 2 + at0 rows (↑xi : Int) ∧ (2 : Int) + at0 rows (↑xi : Int) < (↑(wRv (↑n : Int) 0 2 (List.take xi rows)).length : Int)) ∧ (at0 (wRv (↑n :
 Int) 0 2 (List.take xi rows)) ((2 : Int) + at0 rows (↑xi : Int)) = 0 ∨ at0 (wRv (↑n : Int) 0 2 (List.take xi rows)) ((2 : Int) + at0 rows (↑xi : Int)) = 2) ∧ ((at0 (wRv (↑n : Int) 0 2 (List.take xi rows)) ((2 : Int) +
 at0 rows (↑xi : Int)) == 0) = true → ∃ (s : (oEF p).St), p = p ∧ rd = s.rd ∧ rs = s.rs ∧ ws = s.ws ∧ wRv (↑n : Int) 0 2 (List.take xi rows) = wRv (↑s.n : Int) 0 2 (List.take s.xi s.rows) ∧ wat = wat ∧ rows = s.rows ∧
 takT (List.take xi rows) = takT (List.take s.xi s.rows) ∧ Z2 (IntKind.i64.wrap (steps + 1) = s.steps ∧ Q 32 ∧ filtT ws = filtT s.ws ∧ asked = s.asked ∧ Z40 (c = s.c ∧ Z52 ((↑xi : Int) = (↑s.xi : Int) ∧ AVal.int
 IntKind.i64 (at0 (wRv (↑n : Int) 0 2 (List.take xi rows)) ((2 : Int) + at0 rows (↑xi : Int))) = AVal.int IntKind.i64 0 ∧ value = s.value ∧ Z19 (bk = s.bk ∧ Z53 ((↑i : Int) = (↑s.i : Int) ∧ Z16 ((oEF p).I (US.mk n i rd rs
 ws xi a c bk value steps asked W rows) s ∧ True))))))) ∧ ((at0 (wRv (↑n : Int) 0 2 (List.take xi rows)) ((2 : Int) + at0 rows (↑xi : Int)) == 0) = false → (decide ((0 : Int) < (↑(takT (List.take xi rows)).length : Int))
 = true → Stuck "sum: which") ∧ (decide ((0 : Int) < (↑(takT (List.take xi rows)).length : Int)) = false → Stuck "sum: which")))) := by kernel_rfl
theorem tu_E_ok (p : List Op) (s : US) (hI : (dE p).I s) : Paid (vcD p (dE p) s) := by
  obtain ⟨n, i, rd, rs, ws, xi, a, c, bk, value, steps, asked, W, rows⟩ := s
  obtain ⟨⟨⟨⟨hpO, hc, hi, hrd, hrs, hws, hwd, hrr⟩, hnod⟩, ⟨he, hne, hrow, hbk⟩, hx⟩, hn⟩ := hI
  have he : i = p.length + 1 := he
  have hne : ws ≠ [] := hne
  have hrow : rows = rowsT (ws.map (·.pl)) := hrow
  have hbk : bk = 1 ∨ bk = 2 := hbk
  have hr8 : rows ∈ L8 := by rw [hrow]; exact rowsT_in _
  have hrl := rows_len rows hr8
  have hx : xi < rows.length := hx
  have hr := row_in (p := p) hr8 hx
  have hst := (stepW (n : Int) rows hr8 xi hx).1
  have hset := (stepW (n : Int) rows hr8 xi hx).2
  have hc : c = 1 ∨ c = 2 := hc
  have hi : i ≤ p.length + 1 := hi
  have hrd : rd.length ≤ i := hrd
  have hrs : rs.length ≤ i := hrs
  have hws : ws.length ≤ i := hws
  have hwd : ∀ w ∈ ws, isData w.pl := hwd
  have hrr : ∀ w ∈ rs, 0 ≤ w.pl ∧ w.pl < 3 := hrr
  have hn : n ≤ 1 := hn
  have hv : n = 0 ∨ n = 1 := by omega
  have hB : ∀ {n xi : Nat} {a bk value steps asked : Int} {W rows : List Int}, baseI p ⟨n, i, rd, rs, ws, xi, a, c, bk, value, steps, asked, W, rows⟩ := mkBase hpO hc hi hrd hrs hws hwd hrr
  have hp8 := hpO.1
  refine ⟨?_⟩
  rw [tu_E]
  refine ⟨rfl, ?_, ?_⟩
  · intro h1
    exact absurd ((show decide ((↑(wRv (↑n : Int) (0 : Int) (2 : Int) (List.take xi rows)).length : Int) < (34 : Int)) = false by kernel_rfl).symm.trans h1) (by decide)
  · intro h2
    replace h2 := of_decide_eq_false h2
    first
    | (exfalso; omega)
    | (refine ⟨?_, ?_, (And.intro rfl (And.intro (show (0 : Int) ≤ at0 rows (↑xi : Int) from hr.1) (show at0 rows (↑xi : Int) < (3 : Int) from hr.2))), (And.intro (show (0 : Int) ≤ (2 : Int) + at0 rows (↑xi : Int) from (by have := hr.1; omega)) (show (2 : Int) + at0 rows (↑xi : Int) < ((Mw.mk (wRv (↑n : Int) (0 : Int) (2 : Int) (List.take xi rows))).ws.length : Int) from (show _ < (34 : Int) by have := hr.2; omega))), ?_, ?_, (Or.inl hst), ?_, ?_⟩
       · exact ⟨(by omega), (by first | omega | (simp only [tak_len] at *; omega))⟩
       · exact ⟨(by omega), (by first | omega | (simp only [tak_len] at *; omega))⟩
       · exact ⟨(by have := hr.1; omega), (show _ < (34 : Int) by have := hr.2; omega)⟩
       · exact ⟨(by have := hr.1; omega), (show _ < (34 : Int) by have := hr.2; omega)⟩
       · intro h3
         exact ⟨⟨n, i, rd, rs, ws, xi, a, c, bk, value, IntKind.i64.wrap (steps + (1 : Int)), asked, W, rows⟩, ⟨rfl, rfl, rfl, rfl, rfl, rfl, rfl, rfl, t2 ⟨rfl, rfl, rfl, rfl, t40 ⟨rfl, t52 ⟨rfl, (congrArg (AVal.int IntKind.i64) (hst)), rfl, t19 ⟨rfl, t53 ⟨rfl, t16 ⟨⟨trivial, ⟨(mkBW hB hnod), ⟨(show i = p.length + 1 by omega), hne, hrow, hbk⟩, (show xi < (rows).length by omega)⟩, rfl, (show 54 - 2 * xi < 55 - 2 * xi by omega)⟩, trivial⟩⟩⟩⟩⟩⟩⟩⟩
       · intro h4
         rw [hst] at h4
         cases h4)
theorem tu_F : Go.Sy.Tree.holds (vcD p (dF p) ⟨n, i, rd, rs, ws, xi, a, c, bk, value, steps, asked, W, rows⟩) = ( sizeD.pre (mp1, ()) ∧ (decide ((↑(wRv (↑n : Int) 0 2 (List.take xi rows)).length : Int) < 34) = true → KD i
 p rd value) ∧ (decide ((↑(wRv (↑n : Int) 0 2 (List.take xi rows)).length : Int) < 34) = false → ((0 : Int) ≤ (↑xi : Int) ∧ (↑xi : Int) < (↑rows.length : Int)) ∧ ((0 : Int) ≤ (↑xi : Int) ∧ (↑xi : Int) < (↑rows.length :
 Int)) ∧ stripeD.pre (mp1, at0 rows (↑xi : Int), ()) ∧ takenD.pre ((0 : Int), (1 : Int), ()) ∧ badD.pre (Mw.mk (wRv (↑n : Int) 0 2 (List.take xi rows)), (2 : Int) + at0 rows (↑xi : Int), ()) ∧ ((0 : Int) ≤ 2 + at0 rows
 (↑xi : Int) ∧ (2 : Int) + at0 rows (↑xi : Int) < (↑(wRv (↑n : Int) 0 2 (List.take xi rows)).length : Int)) ∧ ((0 : Int) ≤ 2 + at0 rows (↑xi : Int) ∧ (2 : Int) + at0 rows (↑xi : Int) < (↑(wRv (↑n : Int) 0 2 (List.take xi
 rows)).length : Int)) ∧ ((at0 (wRv (↑n : Int) 0 2 (List.take xi rows)) ((2 : Int) + at0 rows (↑xi : Int)) == 0) = true → ((0 : Int) ≤ 2 + at0 rows (↑xi : Int) ∧ (2 : Int) + at0 rows (↑xi : Int) < (↑(wRv (↑n : Int) 0 2
 (List.take xi rows)).length : Int)) ∧ ((0 : Int) ≤ 2 + at0 rows (↑xi : Int) ∧ (2 : Int) + at0 rows (↑xi : Int) < (↑(wRv (↑n : Int) 0 2 (List.take xi rows)).length : Int)) ∧ ((!at0 (wRv (↑n : Int) 0 2 (List.take xi rows))
 ((2 : Int) + at0 rows (↑xi : Int)) == 0) = true → (decide ((0 : Int) < (↑(takT (List.take xi rows)).length : Int)) = true → Stuck "sum: which") ∧ (decide ((0 : Int) < (↑(takT (List.take xi rows)).length : Int)) = false →
 Stuck "sum: which")) ∧ ((!at0 (wRv (↑n : Int) 0 2 (List.take xi rows)) ((2 : Int) + at0 rows (↑xi : Int)) == 0) = false → ((takT (List.take xi rows)).length + [Wo.mk ((2 : Int) + at0 rows (↑xi : Int)) (0 : Int)].length)
 * 16 ≤ 140737488355328 ∧ (decide (IntKind.i64.wrap ((↑xi : Int) + 1) ≥ (↑rows.length : Int)) = true → ∃ (s : (oFG p).St), p = p ∧ rd = s.rd ∧ rs = s.rs ∧ ws = s.ws ∧ (wRv (↑n : Int) 0 2 (List.take xi rows)).set ((2 :
 Int) + at0 rows (↑xi : Int)).toNat (2 : Int) = wRv (↑s.n : Int) 0 2 s.rows ∧ wat = wat ∧ rows = s.rows ∧ Z2 (IntKind.i64.wrap (steps + 1) = s.steps ∧ Q 32 ∧ filtT ws = filtT s.ws ∧ asked = s.asked ∧ Z40 (c = s.c ∧ Z54
 (value = s.value ∧ Z19 (bk = s.bk ∧ Z20 (takT (List.take xi rows) ++ [Wo.mk ((2 : Int) + at0 rows (↑xi : Int)) (0 : Int)] = takT s.rows ∧ Qb true ∧ (↑i : Int) = (↑s.i : Int) ∧ Z16 ((oFG p).I (US.mk n i rd rs ws xi a c bk
 value steps asked W rows) s ∧ True))))))) ∧ (decide (IntKind.i64.wrap ((↑xi : Int) + 1) ≥ (↑rows.length : Int)) = false → ∃ (s : (oFE p).St), p = p ∧ rd = s.rd ∧ rs = s.rs ∧ ws = s.ws ∧ (wRv (↑n : Int) 0 2 (List.take xi
 rows)).set ((2 : Int) + at0 rows (↑xi : Int)).toNat (2 : Int) = wRv (↑s.n : Int) 0 2 (List.take s.xi s.rows) ∧ wat = wat ∧ rows = s.rows ∧ Z2 (IntKind.i64.wrap (steps + 1) = s.steps ∧ Q 32 ∧ filtT ws = filtT s.ws ∧ asked
 = s.asked ∧ Z40 (c = s.c ∧ Z55 (IntKind.i64.wrap ((↑xi : Int) + 1) = (↑s.xi : Int) ∧ value = s.value ∧ Z19 (bk = s.bk ∧ Z20 (takT (List.take xi rows) ++ [Wo.mk ((2 : Int) + at0 rows (↑xi : Int)) (0 : Int)] = takT
 (List.take s.xi s.rows) ∧ Qb true ∧ (↑i : Int) = (↑s.i : Int) ∧ Z16 ((oFE p).I (US.mk n i rd rs ws xi a c bk value steps asked W rows) s ∧ True))))))))) ∧ ((at0 (wRv (↑n : Int) 0 2 (List.take xi rows)) ((2 : Int) + at0
 rows (↑xi : Int)) == 0) = false → ((!at0 (wRv (↑n : Int) 0 2 (List.take xi rows)) ((2 : Int) + at0 rows (↑xi : Int)) == 0) = true → (decide ((0 : Int) < (↑(takT (List.take xi rows)).length : Int)) = true → Stuck "sum:
 which") ∧ (decide ((0 : Int) < (↑(takT (List.take xi rows)).length : Int)) = false → Stuck "sum: which")) ∧ ((!at0 (wRv (↑n : Int) 0 2 (List.take xi rows)) ((2 : Int) + at0 rows (↑xi : Int)) == 0) = false → ((takT
 (List.take xi rows)).length + [Wo.mk ((2 : Int) + at0 rows (↑xi : Int)) (0 : Int)].length) * 16 ≤ 140737488355328 ∧ (decide (IntKind.i64.wrap ((↑xi : Int) + 1) ≥ (↑rows.length : Int)) = true → ∃ (s : (oFG p).St), p = p ∧
 rd = s.rd ∧ rs = s.rs ∧ ws = s.ws ∧ wRv (↑n : Int) 0 2 (List.take xi rows) = wRv (↑s.n : Int) 0 2 s.rows ∧ wat = wat ∧ rows = s.rows ∧ Z2 (IntKind.i64.wrap (steps + 1) = s.steps ∧ Q 32 ∧ filtT ws = filtT s.ws ∧ asked =
 s.asked ∧ Z40 (c = s.c ∧ Z54 (value = s.value ∧ Z19 (bk = s.bk ∧ Z20 (takT (List.take xi rows) ++ [Wo.mk ((2 : Int) + at0 rows (↑xi : Int)) (0 : Int)] = takT s.rows ∧ Qb true ∧ (↑i : Int) = (↑s.i : Int) ∧ Z16 ((oFG p).I
 (US.mk n i rd rs ws xi a c bk value steps asked W rows) s ∧ True))))))) ∧ (decide (IntKind.i64.wrap ((↑xi : Int) + 1) ≥ (↑rows.length : Int)) = false → ∃ (s : (oFE p).St), p = p ∧ rd = s.rd ∧ rs = s.rs ∧ ws = s.ws ∧ wRv
 (↑n : Int) 0 2 (List.take xi rows) = wRv (↑s.n : Int) 0 2 (List.take s.xi s.rows) ∧ wat = wat ∧ rows = s.rows ∧ Z2 (IntKind.i64.wrap (steps + 1) = s.steps ∧ Q 32 ∧ filtT ws = filtT s.ws ∧ asked = s.asked ∧ Z40 (c = s.c ∧
 Z55 (IntKind.i64.wrap ((↑xi : Int) + 1) = (↑s.xi : Int) ∧ value = s.value ∧ Z19 (bk = s.bk ∧ Z20 (takT (List.take xi rows) ++ [Wo.mk ((2 : Int) + at0 rows (↑xi : Int)) (0 : Int)] = takT (List.take s.xi s.rows) ∧ Qb true
 ∧ (↑i : Int) = (↑s.i : Int) ∧ Z16 ((oFE p).I (US.mk n i rd rs ws xi a c bk value steps asked W rows) s ∧ True))))))))))) := by kernel_rfl
theorem tu_F_ok (p : List Op) (s : US) (hI : (dF p).I s) : Paid (vcD p (dF p) s) := by
  obtain ⟨n, i, rd, rs, ws, xi, a, c, bk, value, steps, asked, W, rows⟩ := s
  obtain ⟨⟨⟨⟨hpO, hc, hi, hrd, hrs, hws, hwd, hrr⟩, hnod⟩, ⟨he, hne, hrow, hbk⟩, hx⟩, hn⟩ := hI
  have he : i = p.length + 1 := he
  have hne : ws ≠ [] := hne
  have hrow : rows = rowsT (ws.map (·.pl)) := hrow
  have hbk : bk = 1 ∨ bk = 2 := hbk
  have hr8 : rows ∈ L8 := by rw [hrow]; exact rowsT_in _
  have hrl := rows_len rows hr8
  have hx : xi < rows.length := hx
  have hr := row_in (p := p) hr8 hx
  have hst := (stepW (n : Int) rows hr8 xi hx).1
  have hset := (stepW (n : Int) rows hr8 xi hx).2
  have hc : c = 1 ∨ c = 2 := hc
  have hi : i ≤ p.length + 1 := hi
  have hrd : rd.length ≤ i := hrd
  have hrs : rs.length ≤ i := hrs
  have hws : ws.length ≤ i := hws
  have hwd : ∀ w ∈ ws, isData w.pl := hwd
  have hrr : ∀ w ∈ rs, 0 ≤ w.pl ∧ w.pl < 3 := hrr
  have hn : n ≤ 1 := hn
  have hv : n = 0 ∨ n = 1 := by omega
  have hB : ∀ {n xi : Nat} {a bk value steps asked : Int} {W rows : List Int}, baseI p ⟨n, i, rd, rs, ws, xi, a, c, bk, value, steps, asked, W, rows⟩ := mkBase hpO hc hi hrd hrs hws hwd hrr
  have hp8 := hpO.1
  refine ⟨?_⟩
  rw [tu_F]
  refine ⟨rfl, ?_, ?_⟩
  · intro h1
    exact absurd ((show decide ((↑(wRv (↑n : Int) (0 : Int) (2 : Int) (List.take xi rows)).length : Int) < (34 : Int)) = false by kernel_rfl).symm.trans h1) (by decide)
  · intro h2
    replace h2 := of_decide_eq_false h2
    first
    | (exfalso; omega)
    | (refine ⟨?_, ?_, (And.intro rfl (And.intro (show (0 : Int) ≤ at0 rows (↑xi : Int) from hr.1) (show at0 rows (↑xi : Int) < (3 : Int) from hr.2))), (And.intro rfl rfl), (And.intro (show (0 : Int) ≤ (2 : Int) + at0 rows (↑xi : Int) from (by have := hr.1; omega)) (show (2 : Int) + at0 rows (↑xi : Int) < ((Mw.mk (wRv (↑n : Int) (0 : Int) (2 : Int) (List.take xi rows))).ws.length : Int) from (show _ < (34 : Int) by have := hr.2; omega))), ?_, ?_, ?_, ?_⟩
       · exact ⟨(by omega), (by first | omega | (simp only [tak_len] at *; omega))⟩
       · exact ⟨(by omega), (by first | omega | (simp only [tak_len] at *; omega))⟩
       · exact ⟨(by have := hr.1; omega), (show _ < (34 : Int) by have := hr.2; omega)⟩
       · exact ⟨(by have := hr.1; omega), (show _ < (34 : Int) by have := hr.2; omega)⟩
       · intro h3
         refine ⟨?_, ?_, ?_, ?_⟩
         · exact ⟨(by have := hr.1; omega), (show _ < (34 : Int) by have := hr.2; omega)⟩
         · exact ⟨(by have := hr.1; omega), (show _ < (34 : Int) by have := hr.2; omega)⟩
         · intro h4
           rw [hst] at h4
           cases h4
         · intro h5
           refine ⟨(by have h9 := rows_len _ (rows_take rows hr8 xi (by omega)); rw [tak_len]; simp only [List.length_cons, List.length_nil]; omega), ?_, ?_⟩
           · intro h6
             replace h6 := of_decide_eq_true h6
             rw [wN (show xi < 100000000 by omega)] at h6
             first
             | (exfalso; omega)
             | (exact ⟨⟨n, i, rd, rs, ws, xi, a, c, bk, value, IntKind.i64.wrap (steps + (1 : Int)), asked, W, rows⟩, ⟨rfl, rfl, rfl, rfl, (by rw [hset, List.take_of_length_le (by omega)]), rfl, rfl, t2 ⟨rfl, rfl, rfl, rfl, t40 ⟨rfl, t54 ⟨rfl, t19 ⟨rfl, t20 ⟨(by rw [(tak_step hx), List.take_of_length_le (by omega)]), rfl, rfl, t16 ⟨⟨trivial, ⟨(mkBW hB hnod), ⟨(show i = p.length + 1 by omega), hne, hrow, hbk⟩, trivial⟩, rfl, (show 45 < 54 - 2 * xi by omega)⟩, trivial⟩⟩⟩⟩⟩⟩⟩⟩)
           · intro h7
             replace h7 := of_decide_eq_false h7
             rw [wN (show xi < 100000000 by omega)] at h7
             first
             | (exfalso; omega)
             | (exact ⟨⟨n, i, rd, rs, ws, xi + 1, a, c, bk, value, IntKind.i64.wrap (steps + (1 : Int)), asked, W, rows⟩, ⟨rfl, rfl, rfl, rfl, hset, rfl, rfl, t2 ⟨rfl, rfl, rfl, rfl, t40 ⟨rfl, t55 ⟨(wN (by omega)), rfl, t19 ⟨rfl, t20 ⟨(tak_step hx), rfl, rfl, t16 ⟨⟨trivial, ⟨(mkBW hB hnod), ⟨(show i = p.length + 1 by omega), hne, hrow, hbk⟩, (show xi + 1 < (rows).length by omega)⟩, rfl, (show 55 - 2 * (xi + 1) < 54 - 2 * xi by omega)⟩, trivial⟩⟩⟩⟩⟩⟩⟩⟩)
       · intro h8
         rw [hst] at h8
         cases h8)
theorem tu_G : Go.Sy.Tree.holds (vcD p (dG p) ⟨n, i, rd, rs, ws, xi, a, c, bk, value, steps, asked, W, rows⟩) = ( sizeD.pre (mp1, ()) ∧ (decide ((↑(wRv (↑n : Int) 0 2 rows).length : Int) < 34) = true → KD i p rd value) ∧
 (decide ((↑(wRv (↑n : Int) 0 2 rows).length : Int) < 34) = false → mayD.pre (mp1, ()) ∧ sizeD.pre (mp1, ()) ∧ (decide ((↑(wRv (↑n : Int) 0 2 rows).length : Int) < 34) = true → Stuck "sum: which") ∧ (decide ((↑(wRv (↑n :
 Int) 0 2 rows).length : Int) < 34) = false → clockD.pre (mp1, ()) ∧ ((bk == 1) = true → badD.pre (Mw.mk (wRv (↑n : Int) 0 2 rows), (0 : Int), ()) ∧ Bk 0 (wRv (↑n : Int) 0 2 rows) ∧ Bk 0 (wRv (↑n : Int) 0 2 rows) ∧ Bk 0
 (wRv (↑n : Int) 0 2 rows) ∧ Bk 0 (wRv (↑n : Int) 0 2 rows) ∧ (decide (IntKind.i64.wrap (at0 (wRv (↑n : Int) 0 2 rows) (0 : Int) + 1) > 1000) = true → (decide ((0 : Int) < (↑(takT rows).length : Int)) = true → Stuck "sum:
 which") ∧ (decide ((0 : Int) < (↑(takT rows).length : Int)) = false → Stuck "sum: which")) ∧ (decide (IntKind.i64.wrap (at0 (wRv (↑n : Int) 0 2 rows) (0 : Int) + 1) > 1000) = false → (decide ((0 : Int) < (↑rs.length :
 Int)) = true → ((bk == 1) = true → ((!IntKind.i64.wrap (at0 (wRv (↑n : Int) 0 2 rows) (0 : Int) + 1) == 1) = true → Stuck "sum: which") ∧ ((!IntKind.i64.wrap (at0 (wRv (↑n : Int) 0 2 rows) (0 : Int) + 1) == 1) = false →
 (true = true → ∃ (s : (oGJ p).St), p = p ∧ rd = s.rd ∧ rs = s.rs ∧ ws = s.ws ∧ (wRv (↑n : Int) 0 2 rows).set (0 : Nat) (IntKind.i64.wrap (at0 (wRv (↑n : Int) 0 2 rows) (0 : Int) + 1)) = wRv (↑s.n : Int) s.a (2 : Int)
 s.rows ∧ wat = wat ∧ rows = s.rows ∧ takT rows = takT s.rows ∧ Z2 (IntKind.i64.wrap (steps + 1) = s.steps ∧ Q 32 ∧ filtT ws = filtT s.ws ∧ asked = s.asked ∧ Z40 (c = s.c ∧ Z56 (value = s.value ∧ IntKind.i64.wrap (at0
 (wRv (↑n : Int) 0 2 rows) (0 : Int) + 1) = s.a ∧ Qb true ∧ (↑i : Int) = (↑s.i : Int) ∧ Z16 ((oGJ p).I (US.mk n i rd rs ws xi a c bk value steps asked W rows) s ∧ True))))) ∧ (true = false → (decide ((0 : Int) <
 (↑ws.length : Int)) = true → Stuck "sum: which") ∧ (decide ((0 : Int) < (↑ws.length : Int)) = false → (decide ((0 : Int) ≥ (↑rows.length : Int)) = true → Stuck "sum: which") ∧ (decide ((0 : Int) ≥ (↑rows.length : Int)) =
 false → Stuck "sum: which"))))) ∧ ((bk == 1) = false → Stuck "sum: which")) ∧ (decide ((0 : Int) < (↑rs.length : Int)) = false → (true = true → ∃ (s : (oGJ p).St), p = p ∧ rd = s.rd ∧ rs = s.rs ∧ ws = s.ws ∧ (wRv (↑n :
 Int) 0 2 rows).set (0 : Nat) (IntKind.i64.wrap (at0 (wRv (↑n : Int) 0 2 rows) (0 : Int) + 1)) = wRv (↑s.n : Int) s.a (2 : Int) s.rows ∧ wat = wat ∧ rows = s.rows ∧ takT rows = takT s.rows ∧ Z2 (IntKind.i64.wrap (steps +
 1) = s.steps ∧ Q 32 ∧ filtT ws = filtT s.ws ∧ asked = s.asked ∧ Z40 (c = s.c ∧ Z56 (value = s.value ∧ IntKind.i64.wrap (at0 (wRv (↑n : Int) 0 2 rows) (0 : Int) + 1) = s.a ∧ Qb true ∧ (↑i : Int) = (↑s.i : Int) ∧ Z16 ((oGJ
 p).I (US.mk n i rd rs ws xi a c bk value steps asked W rows) s ∧ True))))) ∧ (true = false → (decide ((0 : Int) < (↑ws.length : Int)) = true → Stuck "sum: which") ∧ (decide ((0 : Int) < (↑ws.length : Int)) = false →
 (decide ((0 : Int) ≥ (↑rows.length : Int)) = true → Stuck "sum: which") ∧ (decide ((0 : Int) ≥ (↑rows.length : Int)) = false → Stuck "sum: which")))))) ∧ ((bk == 1) = false → ((bk == 3) = true → seqD.pre (mp1, ()) ∧
 badD.pre (Mw.mk (wRv (↑n : Int) 0 2 rows), (1 : Int), ()) ∧ Bk 1 (wRv (↑n : Int) 0 2 rows) ∧ Bk 1 (wRv (↑n : Int) 0 2 rows) ∧ ((bk == 2) = true → ∃ (s : (oGH p).St), p = p ∧ rd = s.rd ∧ rs = s.rs ∧ ws = s.ws ∧ wRv (↑n :
 Int) 0 2 rows = wRv (↑s.n : Int) 0 2 s.rows ∧ wat = wat ∧ rows = s.rows ∧ takT rows = takT s.rows ∧ Z2 (IntKind.i64.wrap (steps + 1) = s.steps ∧ Q 32 ∧ filtT ws = filtT s.ws ∧ asked = s.asked ∧ Z40 (c = s.c ∧ Z57 (value
 = s.value ∧ Z19 (AVal.int IntKind.i64 bk = AVal.int IntKind.i64 2 ∧ Qc 1 ∧ AVal.int IntKind.i64 (at0 (wRv (↑n : Int) 0 2 rows) (1 : Int)) = AVal.int IntKind.i64 0 ∧ Z58 ((↑i : Int) = (↑s.i : Int) ∧ Z16 ((oGH p).I (US.mk
 n i rd rs ws xi a c bk value steps asked W rows) s ∧ True))))))) ∧ ((bk == 2) = false → ((IntKind.i64.wrap (↑(BitVec.ofInt IntKind.i64.bits (at0 (wRv (↑n : Int) 0 2 rows) (1 : Int)) &&& BitVec.ofInt IntKind.i64.bits (1 :
 Int)).toNat : Int) == 0) = true → ∃ (s : (oGH p).St), p = p ∧ rd = s.rd ∧ rs = s.rs ∧ ws = s.ws ∧ wRv (↑n : Int) 0 2 rows = wRv (↑s.n : Int) 0 2 s.rows ∧ wat = wat ∧ rows = s.rows ∧ takT rows = takT s.rows ∧ Z2
 (IntKind.i64.wrap (steps + 1) = s.steps ∧ Q 32 ∧ filtT ws = filtT s.ws ∧ asked = s.asked ∧ Z40 (c = s.c ∧ Z57 (value = s.value ∧ Z19 (AVal.int IntKind.i64 bk = AVal.int IntKind.i64 2 ∧ Qc 1 ∧ AVal.int IntKind.i64 (at0
 (wRv (↑n : Int) 0 2 rows) (1 : Int)) = AVal.int IntKind.i64 0 ∧ Z58 ((↑i : Int) = (↑s.i : Int) ∧ Z16 ((oGH p).I (US.mk n i rd rs ws xi a c bk value steps asked W rows) s ∧ True))))))) ∧ ((IntKind.i64.wrap (↑(BitVec.ofInt
 IntKind.i64.bits (at0 (wRv (↑n : Int) 0 2 rows) (1 : Int)) &&& BitVec.ofInt IntKind.i64.bits (1 : Int)).toNat : Int) == 0) = false → Stuck "sum: which"))) ∧ ((bk == 3) = false → ((bk == 2) = true → badD.pre (Mw.mk (wRv
 (↑n : Int) 0 2 rows), (0 : Int), ()) ∧ Bk 0 (wRv (↑n : Int) 0 2 rows) ∧ Bk 0 (wRv (↑n : Int) 0 2 rows) ∧ ((bk == 2) = true → ∃ (s : (oGH p).St), p = p ∧ rd = s.rd ∧ rs = s.rs ∧ ws = s.ws ∧ wRv (↑n : Int) 0 2 rows = wRv
 (↑s.n : Int) 0 2 s.rows ∧ wat = wat ∧ rows = s.rows ∧ takT rows = takT s.rows ∧ Z2 (IntKind.i64.wrap (steps + 1) = s.steps ∧ Q 32 ∧ filtT ws = filtT s.ws ∧ asked = s.asked ∧ Z40 (c = s.c ∧ Z57 (value = s.value ∧ Z19
 (AVal.int IntKind.i64 bk = AVal.int IntKind.i64 2 ∧ Qc 1 ∧ AVal.int IntKind.i64 (at0 (wRv (↑n : Int) 0 2 rows) (0 : Int)) = AVal.int IntKind.i64 0 ∧ Z58 ((↑i : Int) = (↑s.i : Int) ∧ Z16 ((oGH p).I (US.mk n i rd rs ws xi
 a c bk value steps asked W rows) s ∧ True))))))) ∧ ((bk == 2) = false → ((IntKind.i64.wrap (↑(BitVec.ofInt IntKind.i64.bits (at0 (wRv (↑n : Int) 0 2 rows) (0 : Int)) &&& BitVec.ofInt IntKind.i64.bits (1 : Int)).toNat :
 Int) == 0) = true → ∃ (s : (oGH p).St), p = p ∧ rd = s.rd ∧ rs = s.rs ∧ ws = s.ws ∧ wRv (↑n : Int) 0 2 rows = wRv (↑s.n : Int) 0 2 s.rows ∧ wat = wat ∧ rows = s.rows ∧ takT rows = takT s.rows ∧ Z2 (IntKind.i64.wrap
 (steps + 1) = s.steps ∧ Q 32 ∧ filtT ws = filtT s.ws ∧ asked = s.asked ∧ Z40 (c = s.c ∧ Z57 (value = s.value ∧ Z19 (AVal.int IntKind.i64 bk = AVal.int IntKind.i64 2 ∧ Qc 1 ∧ AVal.int IntKind.i64 (at0 (wRv (↑n : Int) 0 2
 rows) (0 : Int)) = AVal.int IntKind.i64 0 ∧ Z58 ((↑i : Int) = (↑s.i : Int) ∧ Z16 ((oGH p).I (US.mk n i rd rs ws xi a c bk value steps asked W rows) s ∧ True))))))) ∧ ((IntKind.i64.wrap (↑(BitVec.ofInt IntKind.i64.bits
 (at0 (wRv (↑n : Int) 0 2 rows) (0 : Int)) &&& BitVec.ofInt IntKind.i64.bits (1 : Int)).toNat : Int) == 0) = false → Stuck "sum: which"))) ∧ ((bk == 2) = false → Stuck "sum: which")))))) := by kernel_rfl
theorem tu_G_ok (p : List Op) (s : US) (hI : (dG p).I s) : Paid (vcD p (dG p) s) := by
  obtain ⟨n, i, rd, rs, ws, xi, a, c, bk, value, steps, asked, W, rows⟩ := s
  obtain ⟨⟨⟨⟨hpO, hc, hi, hrd, hrs, hws, hwd, hrr⟩, hnod⟩, ⟨he, hne, hrow, hbk⟩, hx⟩, hn⟩ := hI
  have he : i = p.length + 1 := he
  have hne : ws ≠ [] := hne
  have hrow : rows = rowsT (ws.map (·.pl)) := hrow
  have hbk : bk = 1 ∨ bk = 2 := hbk
  have hr8 : rows ∈ L8 := by rw [hrow]; exact rowsT_in _
  have hrl := rows_len rows hr8
  have hc : c = 1 ∨ c = 2 := hc
  have hi : i ≤ p.length + 1 := hi
  have hrd : rd.length ≤ i := hrd
  have hrs : rs.length ≤ i := hrs
  have hws : ws.length ≤ i := hws
  have hwd : ∀ w ∈ ws, isData w.pl := hwd
  have hrr : ∀ w ∈ rs, 0 ≤ w.pl ∧ w.pl < 3 := hrr
  have hn : n ≤ 1 := hn
  have hv : n = 0 ∨ n = 1 := by omega
  have hB : ∀ {n xi : Nat} {a bk value steps asked : Int} {W rows : List Int}, baseI p ⟨n, i, rd, rs, ws, xi, a, c, bk, value, steps, asked, W, rows⟩ := mkBase hpO hc hi hrd hrs hws hwd hrr
  have hp8 := hpO.1
  refine ⟨?_⟩
  rw [tu_G]
  refine ⟨rfl, ?_, ?_⟩
  · intro h1
    exact absurd ((show decide ((↑(wRv (↑n : Int) (0 : Int) (2 : Int) rows).length : Int) < (34 : Int)) = false by kernel_rfl).symm.trans h1) (by decide)
  · intro h2
    replace h2 := of_decide_eq_false h2
    first
    | (exfalso; omega)
    | (refine ⟨rfl, rfl, ?_, ?_⟩
       · intro h3
         exact absurd ((show decide ((↑(wRv (↑n : Int) (0 : Int) (2 : Int) rows).length : Int) < (34 : Int)) = false by kernel_rfl).symm.trans h3) (by decide)
       · intro h4
         replace h4 := of_decide_eq_false h4
         first
         | (exfalso; omega)
         | (refine ⟨rfl, ?_, ?_⟩
            · intro h5
              replace h5 := eq_of_beq h5
              first
              | (exfalso; omega)
              | (refine ⟨(And.intro (show (0 : Int) ≤ (0 : Int) from (by decide)) (show (0 : Int) < ((Mw.mk (wRv (↑n : Int) (0 : Int) (2 : Int) rows)).ws.length : Int) from (show _ < ((34 : Nat) : Int) by decide))), ?_, ?_, ?_, ?_, ?_, ?_⟩
                 · exact ⟨(by decide), (show _ < ((34 : Nat) : Int) by decide)⟩
                 · exact ⟨(by decide), (show _ < ((34 : Nat) : Int) by decide)⟩
                 · exact ⟨(by decide), (show _ < ((34 : Nat) : Int) by decide)⟩
                 · exact ⟨(by decide), (show _ < ((34 : Nat) : Int) by decide)⟩
                 · intro h6
                   exact absurd ((show decide (IntKind.i64.wrap (at0 (wRv (↑n : Int) (0 : Int) (2 : Int) rows) (0 : Int) + (1 : Int)) > (1000 : Int)) = false by kernel_rfl).symm.trans h6) (by decide)
                 · intro h7
                   refine ⟨?_, ?_⟩
                   · intro h8
                     replace h8 := of_decide_eq_true h8
                     first
                     | (exfalso; omega)
                     | (refine ⟨?_, ?_⟩
                        · intro h9
                          replace h9 := eq_of_beq h9
                          first
                          | (exfalso; omega)
                          | (refine ⟨?_, ?_⟩
                             · intro h10
                               exact absurd ((show (!IntKind.i64.wrap (at0 (wRv (↑n : Int) (0 : Int) (2 : Int) rows) (0 : Int) + (1 : Int)) == (1 : Int)) = false by kernel_rfl).symm.trans h10) (by decide)
                             · intro h11
                               refine ⟨?_, ?_⟩
                               · intro h12
                                 simp only [decide_eq_true_eq, decide_eq_false_iff_not, beq_iff_eq, beq_eq_false_iff_ne, ne_eq, gt_iff_lt, ge_iff_le, tak_len] at h12
                                 first
                                 | (exfalso; omega)
                                 | (exact ⟨⟨n, i, rd, rs, ws, xi, IntKind.i64.wrap (at0 (wRv (↑n : Int) (0 : Int) (2 : Int) rows) (0 : Int) + (1 : Int)), c, bk, value, IntKind.i64.wrap (steps + (1 : Int)), asked, W, rows⟩, ⟨rfl, rfl, rfl, rfl, rfl, rfl, rfl, rfl, t2 ⟨rfl, rfl, rfl, rfl, t40 ⟨rfl, t56 ⟨rfl, rfl, rfl, rfl, t16 ⟨⟨trivial, ⟨(mkBW hB hnod), (show i = p.length + 1 by omega), hrow, (fun _ => rfl)⟩, rfl, (show 30 < 45 by omega)⟩, trivial⟩⟩⟩⟩⟩⟩)
                               · intro h13
                                 cases h13)
                        · intro h14
                          replace h14 := ne_of_beq_false h14
                          first
                          | (exfalso; omega)
                          | (exfalso; omega))
                   · intro h15
                     replace h15 := of_decide_eq_false h15
                     first
                     | (exfalso; omega)
                     | (refine ⟨?_, ?_⟩
                        · intro h16
                          simp only [decide_eq_true_eq, decide_eq_false_iff_not, beq_iff_eq, beq_eq_false_iff_ne, ne_eq, gt_iff_lt, ge_iff_le, tak_len] at h16
                          first
                          | (exfalso; omega)
                          | (exact ⟨⟨n, i, rd, rs, ws, xi, IntKind.i64.wrap (at0 (wRv (↑n : Int) (0 : Int) (2 : Int) rows) (0 : Int) + (1 : Int)), c, bk, value, IntKind.i64.wrap (steps + (1 : Int)), asked, W, rows⟩, ⟨rfl, rfl, rfl, rfl, rfl, rfl, rfl, rfl, t2 ⟨rfl, rfl, rfl, rfl, t40 ⟨rfl, t56 ⟨rfl, rfl, rfl, rfl, t16 ⟨⟨trivial, ⟨(mkBW hB hnod), (show i = p.length + 1 by omega), hrow, (fun _ => rfl)⟩, rfl, (show 30 < 45 by omega)⟩, trivial⟩⟩⟩⟩⟩⟩)
                        · intro h17
                          cases h17))
            · intro h18
              replace h18 := ne_of_beq_false h18
              first
              | (exfalso; omega)
              | (refine ⟨?_, ?_⟩
                 · intro h19
                   replace h19 := eq_of_beq h19
                   first
                   | (exfalso; omega)
                   | (refine ⟨rfl, (And.intro (show (0 : Int) ≤ (1 : Int) from (by decide)) (show (1 : Int) < ((Mw.mk (wRv (↑n : Int) (0 : Int) (2 : Int) rows)).ws.length : Int) from (show _ < ((34 : Nat) : Int) by decide))), ?_, ?_, ?_, ?_⟩
                      · exact ⟨(by decide), (show _ < ((34 : Nat) : Int) by decide)⟩
                      · exact ⟨(by decide), (show _ < ((34 : Nat) : Int) by decide)⟩
                      · intro h20
                        replace h20 := eq_of_beq h20
                        first
                        | (exfalso; omega)
                        | (exact ⟨⟨n, i, rd, rs, ws, xi, a, c, bk, value, IntKind.i64.wrap (steps + (1 : Int)), asked, W, rows⟩, ⟨rfl, rfl, rfl, rfl, rfl, rfl, rfl, rfl, t2 ⟨rfl, rfl, rfl, rfl, t40 ⟨rfl, t57 ⟨rfl, t19 ⟨(congrArg (AVal.int IntKind.i64) (show bk = (2 : Int) by omega)), rfl, (congrArg (AVal.int IntKind.i64) (rfl)), t58 ⟨rfl, t16 ⟨⟨trivial, ⟨(mkBW hB hnod), ⟨(show i = p.length + 1 by omega), hne, hrow, hbk⟩, trivial⟩, rfl, (show 44 < 45 by omega)⟩, trivial⟩⟩⟩⟩⟩⟩⟩⟩)
                      · intro h21
                        replace h21 := ne_of_beq_false h21
                        first
                        | (exfalso; omega)
                        | (refine ⟨?_, ?_⟩
                           · intro h22
                             exact ⟨⟨n, i, rd, rs, ws, xi, a, c, bk, value, IntKind.i64.wrap (steps + (1 : Int)), asked, W, rows⟩, ⟨rfl, rfl, rfl, rfl, rfl, rfl, rfl, rfl, t2 ⟨rfl, rfl, rfl, rfl, t40 ⟨rfl, t57 ⟨rfl, t19 ⟨(congrArg (AVal.int IntKind.i64) (show bk = (2 : Int) by omega)), rfl, (congrArg (AVal.int IntKind.i64) (rfl)), t58 ⟨rfl, t16 ⟨⟨trivial, ⟨(mkBW hB hnod), ⟨(show i = p.length + 1 by omega), hne, hrow, hbk⟩, trivial⟩, rfl, (show 44 < 45 by omega)⟩, trivial⟩⟩⟩⟩⟩⟩⟩⟩
                           · intro h23
                             exact absurd ((show (IntKind.i64.wrap (↑(BitVec.ofInt IntKind.i64.bits (at0 (wRv (↑n : Int) (0 : Int) (2 : Int) rows) (1 : Int)) &&& BitVec.ofInt IntKind.i64.bits (1 : Int)).toNat : Int) == (0 : Int)) = true by kernel_rfl).symm.trans h23) (by decide)))
                 · intro h24
                   replace h24 := ne_of_beq_false h24
                   first
                   | (exfalso; omega)
                   | (refine ⟨?_, ?_⟩
                      · intro h25
                        replace h25 := eq_of_beq h25
                        first
                        | (exfalso; omega)
                        | (refine ⟨(And.intro (show (0 : Int) ≤ (0 : Int) from (by decide)) (show (0 : Int) < ((Mw.mk (wRv (↑n : Int) (0 : Int) (2 : Int) rows)).ws.length : Int) from (show _ < ((34 : Nat) : Int) by decide))), ?_, ?_, ?_, ?_⟩
                           · exact ⟨(by decide), (show _ < ((34 : Nat) : Int) by decide)⟩
                           · exact ⟨(by decide), (show _ < ((34 : Nat) : Int) by decide)⟩
                           · intro h26
                             replace h26 := eq_of_beq h26
                             first
                             | (exfalso; omega)
                             | (exact ⟨⟨n, i, rd, rs, ws, xi, a, c, bk, value, IntKind.i64.wrap (steps + (1 : Int)), asked, W, rows⟩, ⟨rfl, rfl, rfl, rfl, rfl, rfl, rfl, rfl, t2 ⟨rfl, rfl, rfl, rfl, t40 ⟨rfl, t57 ⟨rfl, t19 ⟨(congrArg (AVal.int IntKind.i64) (show bk = (2 : Int) by omega)), rfl, (congrArg (AVal.int IntKind.i64) (rfl)), t58 ⟨rfl, t16 ⟨⟨trivial, ⟨(mkBW hB hnod), ⟨(show i = p.length + 1 by omega), hne, hrow, hbk⟩, trivial⟩, rfl, (show 44 < 45 by omega)⟩, trivial⟩⟩⟩⟩⟩⟩⟩⟩)
                           · intro h27
                             replace h27 := ne_of_beq_false h27
                             first
                             | (exfalso; omega)
                             | (refine ⟨?_, ?_⟩
                                · intro h28
                                  exact ⟨⟨n, i, rd, rs, ws, xi, a, c, bk, value, IntKind.i64.wrap (steps + (1 : Int)), asked, W, rows⟩, ⟨rfl, rfl, rfl, rfl, rfl, rfl, rfl, rfl, t2 ⟨rfl, rfl, rfl, rfl, t40 ⟨rfl, t57 ⟨rfl, t19 ⟨(congrArg (AVal.int IntKind.i64) (show bk = (2 : Int) by omega)), rfl, (congrArg (AVal.int IntKind.i64) (rfl)), t58 ⟨rfl, t16 ⟨⟨trivial, ⟨(mkBW hB hnod), ⟨(show i = p.length + 1 by omega), hne, hrow, hbk⟩, trivial⟩, rfl, (show 44 < 45 by omega)⟩, trivial⟩⟩⟩⟩⟩⟩⟩⟩
                                · intro h29
                                  exact absurd ((show (IntKind.i64.wrap (↑(BitVec.ofInt IntKind.i64.bits (at0 (wRv (↑n : Int) (0 : Int) (2 : Int) rows) (0 : Int)) &&& BitVec.ofInt IntKind.i64.bits (1 : Int)).toNat : Int) == (0 : Int)) = true by kernel_rfl).symm.trans h29) (by decide)))
                      · intro h30
                        replace h30 := ne_of_beq_false h30
                        first
                        | (exfalso; omega)
                        | (exfalso; omega)))))
theorem tu_H : Go.Sy.Tree.holds (vcD p (dH p) ⟨n, i, rd, rs, ws, xi, a, c, bk, value, steps, asked, W, rows⟩) = ( sizeD.pre (mp1, ()) ∧ (decide ((↑(wRv (↑n : Int) 0 2 rows).length : Int) < 34) = true → KD i p rd value) ∧
 (decide ((↑(wRv (↑n : Int) 0 2 rows).length : Int) < 34) = false → mayD.pre (mp1, ()) ∧ sizeD.pre (mp1, ()) ∧ (decide ((↑(wRv (↑n : Int) 0 2 rows).length : Int) < 34) = true → Stuck "sum: which") ∧ (decide ((↑(wRv (↑n :
 Int) 0 2 rows).length : Int) < 34) = false → clockD.pre (mp1, ()) ∧ badD.pre (Mw.mk (wRv (↑n : Int) 0 2 rows), (0 : Int), ()) ∧ Bk 0 (wRv (↑n : Int) 0 2 rows) ∧ Bk 0 (wRv (↑n : Int) 0 2 rows) ∧ ((at0 (wRv (↑n : Int) 0 2
 rows) (0 : Int) == 0) = true → Bk 0 (wRv (↑n : Int) 0 2 rows) ∧ Bk 0 (wRv (↑n : Int) 0 2 rows) ∧ ((at0 (wRv (↑n : Int) 0 2 rows) (0 : Int) == 0) = true → (decide ((0 : Int) < (↑rs.length : Int)) = true → ∃ (s : (oHI
 p).St), p = p ∧ rd = s.rd ∧ rs = s.rs ∧ ws = s.ws ∧ (wRv (↑n : Int) 0 2 rows).set (0 : Nat) (1 : Int) = wRv (↑s.n : Int) 1 2 s.rows ∧ wat = wat ∧ rows = s.rows ∧ takT rows = takT s.rows ∧ Z2 (IntKind.i64.wrap (steps + 1)
 = s.steps ∧ Q 32 ∧ filtT ws = filtT s.ws ∧ asked = s.asked ∧ Z40 (c = s.c ∧ Z59 ((0 : Int) = (↑s.xi : Int) ∧ value = s.value ∧ Z29 ((2 : Int) = s.bk ∧ Qb true ∧ (↑i : Int) = (↑s.i : Int) ∧ Z16 ((oHI p).I (US.mk n i rd rs
 ws xi a c bk value steps asked W rows) s ∧ True)))))) ∧ (decide ((0 : Int) < (↑rs.length : Int)) = false → (true = true → ∃ (s : (oHJ p).St), p = p ∧ rd = s.rd ∧ rs = s.rs ∧ ws = s.ws ∧ (wRv (↑n : Int) 0 2 rows).set (0 :
 Nat) (1 : Int) = wRv (↑s.n : Int) s.a (2 : Int) s.rows ∧ wat = wat ∧ rows = s.rows ∧ takT rows = takT s.rows ∧ Z2 (IntKind.i64.wrap (steps + 1) = s.steps ∧ Q 32 ∧ filtT ws = filtT s.ws ∧ asked = s.asked ∧ Z40 (c = s.c ∧
 Z56 (value = s.value ∧ (1 : Int) = s.a ∧ Qb true ∧ (↑i : Int) = (↑s.i : Int) ∧ Z16 ((oHJ p).I (US.mk n i rd rs ws xi a c bk value steps asked W rows) s ∧ True))))) ∧ (true = false → (decide ((0 : Int) < (↑ws.length :
 Int)) = true → Stuck "sum: which") ∧ (decide ((0 : Int) < (↑ws.length : Int)) = false → (decide ((0 : Int) ≥ (↑rows.length : Int)) = true → Stuck "sum: which") ∧ (decide ((0 : Int) ≥ (↑rows.length : Int)) = false → Stuck
 "sum: which"))))) ∧ ((at0 (wRv (↑n : Int) 0 2 rows) (0 : Int) == 0) = false → (decide (at0 (wRv (↑n : Int) 0 2 rows) (0 : Int) > 1000) = true → (decide ((0 : Int) < (↑(takT rows).length : Int)) = true → Stuck "sum:
 which") ∧ (decide ((0 : Int) < (↑(takT rows).length : Int)) = false → Stuck "sum: which")) ∧ (decide (at0 (wRv (↑n : Int) 0 2 rows) (0 : Int) > 1000) = false → (decide ((0 : Int) < (↑rs.length : Int)) = true → ∃ (s :
 (oHI p).St), p = p ∧ rd = s.rd ∧ rs = s.rs ∧ ws = s.ws ∧ (wRv (↑n : Int) 0 2 rows).set (0 : Nat) (1 : Int) = wRv (↑s.n : Int) 1 2 s.rows ∧ wat = wat ∧ rows = s.rows ∧ takT rows = takT s.rows ∧ Z2 (IntKind.i64.wrap (steps
 + 1) = s.steps ∧ Q 32 ∧ filtT ws = filtT s.ws ∧ asked = s.asked ∧ Z40 (c = s.c ∧ Z59 ((0 : Int) = (↑s.xi : Int) ∧ value = s.value ∧ Q 0 ∧ AVal.int IntKind.i64 (at0 (wRv (↑n : Int) 0 2 rows) (0 : Int)) = AVal.int
 IntKind.i64 1 ∧ (2 : Int) = s.bk ∧ Qb true ∧ (↑i : Int) = (↑s.i : Int) ∧ Z16 ((oHI p).I (US.mk n i rd rs ws xi a c bk value steps asked W rows) s ∧ True))))) ∧ (decide ((0 : Int) < (↑rs.length : Int)) = false → (true =
 true → ∃ (s : (oHJ p).St), p = p ∧ rd = s.rd ∧ rs = s.rs ∧ ws = s.ws ∧ (wRv (↑n : Int) 0 2 rows).set (0 : Nat) (1 : Int) = wRv (↑s.n : Int) s.a (2 : Int) s.rows ∧ wat = wat ∧ rows = s.rows ∧ takT rows = takT s.rows ∧ Z2
 (IntKind.i64.wrap (steps + 1) = s.steps ∧ Q 32 ∧ filtT ws = filtT s.ws ∧ asked = s.asked ∧ Z40 (c = s.c ∧ Z56 (value = s.value ∧ at0 (wRv (↑n : Int) 0 2 rows) (0 : Int) = s.a ∧ Qb true ∧ (↑i : Int) = (↑s.i : Int) ∧ Z16
 ((oHJ p).I (US.mk n i rd rs ws xi a c bk value steps asked W rows) s ∧ True))))) ∧ (true = false → (decide ((0 : Int) < (↑ws.length : Int)) = true → Stuck "sum: which") ∧ (decide ((0 : Int) < (↑ws.length : Int)) = false
 → (decide ((0 : Int) ≥ (↑rows.length : Int)) = true → Stuck "sum: which") ∧ (decide ((0 : Int) ≥ (↑rows.length : Int)) = false → Stuck "sum: which"))))))) ∧ ((at0 (wRv (↑n : Int) 0 2 rows) (0 : Int) == 0) = false → ((at0
 (wRv (↑n : Int) 0 2 rows) (0 : Int) == 0) = true → (decide ((0 : Int) < (↑rs.length : Int)) = true → ∃ (s : (oHI p).St), p = p ∧ rd = s.rd ∧ rs = s.rs ∧ ws = s.ws ∧ wRv (↑n : Int) 0 2 rows = wRv (↑s.n : Int) 1 2 s.rows ∧
 wat = wat ∧ rows = s.rows ∧ takT rows = takT s.rows ∧ Z2 (IntKind.i64.wrap (steps + 1) = s.steps ∧ Q 32 ∧ filtT ws = filtT s.ws ∧ asked = s.asked ∧ Z40 (c = s.c ∧ Z59 ((0 : Int) = (↑s.xi : Int) ∧ value = s.value ∧ Z29
 ((2 : Int) = s.bk ∧ Qb true ∧ (↑i : Int) = (↑s.i : Int) ∧ Z16 ((oHI p).I (US.mk n i rd rs ws xi a c bk value steps asked W rows) s ∧ True)))))) ∧ (decide ((0 : Int) < (↑rs.length : Int)) = false → (true = true → ∃ (s :
 (oHJ p).St), p = p ∧ rd = s.rd ∧ rs = s.rs ∧ ws = s.ws ∧ wRv (↑n : Int) 0 2 rows = wRv (↑s.n : Int) s.a (2 : Int) s.rows ∧ wat = wat ∧ rows = s.rows ∧ takT rows = takT s.rows ∧ Z2 (IntKind.i64.wrap (steps + 1) = s.steps
 ∧ Q 32 ∧ filtT ws = filtT s.ws ∧ asked = s.asked ∧ Z40 (c = s.c ∧ Z56 (value = s.value ∧ (1 : Int) = s.a ∧ Qb true ∧ (↑i : Int) = (↑s.i : Int) ∧ Z16 ((oHJ p).I (US.mk n i rd rs ws xi a c bk value steps asked W rows) s ∧
 True))))) ∧ (true = false → (decide ((0 : Int) < (↑ws.length : Int)) = true → Stuck "sum: which") ∧ (decide ((0 : Int) < (↑ws.length : Int)) = false → (decide ((0 : Int) ≥ (↑rows.length : Int)) = true → Stuck "sum:
 which") ∧ (decide ((0 : Int) ≥ (↑rows.length : Int)) = false → Stuck "sum: which"))))) ∧ ((at0 (wRv (↑n : Int) 0 2 rows) (0 : Int) == 0) = false → (decide (at0 (wRv (↑n : Int) 0 2 rows) (0 : Int) > 1000) = true → (decide
 ((0 : Int) < (↑(takT rows).length : Int)) = true → Stuck "sum: which") ∧ (decide ((0 : Int) < (↑(takT rows).length : Int)) = false → Stuck "sum: which")) ∧ (decide (at0 (wRv (↑n : Int) 0 2 rows) (0 : Int) > 1000) = false
 → (decide ((0 : Int) < (↑rs.length : Int)) = true → ∃ (s : (oHI p).St), p = p ∧ rd = s.rd ∧ rs = s.rs ∧ ws = s.ws ∧ wRv (↑n : Int) 0 2 rows = wRv (↑s.n : Int) 1 2 s.rows ∧ wat = wat ∧ rows = s.rows ∧ takT rows = takT
 s.rows ∧ Z2 (IntKind.i64.wrap (steps + 1) = s.steps ∧ Q 32 ∧ filtT ws = filtT s.ws ∧ asked = s.asked ∧ Z40 (c = s.c ∧ Z59 ((0 : Int) = (↑s.xi : Int) ∧ value = s.value ∧ Q 0 ∧ AVal.int IntKind.i64 (at0 (wRv (↑n : Int) 0 2
 rows) (0 : Int)) = AVal.int IntKind.i64 1 ∧ (2 : Int) = s.bk ∧ Qb true ∧ (↑i : Int) = (↑s.i : Int) ∧ Z16 ((oHI p).I (US.mk n i rd rs ws xi a c bk value steps asked W rows) s ∧ True))))) ∧ (decide ((0 : Int) < (↑rs.length
 : Int)) = false → (true = true → ∃ (s : (oHJ p).St), p = p ∧ rd = s.rd ∧ rs = s.rs ∧ ws = s.ws ∧ wRv (↑n : Int) 0 2 rows = wRv (↑s.n : Int) s.a (2 : Int) s.rows ∧ wat = wat ∧ rows = s.rows ∧ takT rows = takT s.rows ∧ Z2
 (IntKind.i64.wrap (steps + 1) = s.steps ∧ Q 32 ∧ filtT ws = filtT s.ws ∧ asked = s.asked ∧ Z40 (c = s.c ∧ Z56 (value = s.value ∧ at0 (wRv (↑n : Int) 0 2 rows) (0 : Int) = s.a ∧ Qb true ∧ (↑i : Int) = (↑s.i : Int) ∧ Z16
 ((oHJ p).I (US.mk n i rd rs ws xi a c bk value steps asked W rows) s ∧ True))))) ∧ (true = false → (decide ((0 : Int) < (↑ws.length : Int)) = true → Stuck "sum: which") ∧ (decide ((0 : Int) < (↑ws.length : Int)) = false
 → (decide ((0 : Int) ≥ (↑rows.length : Int)) = true → Stuck "sum: which") ∧ (decide ((0 : Int) ≥ (↑rows.length : Int)) = false → Stuck "sum: which")))))))))) := by kernel_rfl
theorem tu_H_ok (p : List Op) (s : US) (hI : (dH p).I s) : Paid (vcD p (dH p) s) := by
  obtain ⟨n, i, rd, rs, ws, xi, a, c, bk, value, steps, asked, W, rows⟩ := s
  obtain ⟨⟨⟨⟨hpO, hc, hi, hrd, hrs, hws, hwd, hrr⟩, hnod⟩, ⟨he, hne, hrow, hbk⟩, hx⟩, hn⟩ := hI
  have he : i = p.length + 1 := he
  have hne : ws ≠ [] := hne
  have hrow : rows = rowsT (ws.map (·.pl)) := hrow
  have hbk : bk = 1 ∨ bk = 2 := hbk
  have hr8 : rows ∈ L8 := by rw [hrow]; exact rowsT_in _
  have hrl := rows_len rows hr8
  have hc : c = 1 ∨ c = 2 := hc
  have hi : i ≤ p.length + 1 := hi
  have hrd : rd.length ≤ i := hrd
  have hrs : rs.length ≤ i := hrs
  have hws : ws.length ≤ i := hws
  have hwd : ∀ w ∈ ws, isData w.pl := hwd
  have hrr : ∀ w ∈ rs, 0 ≤ w.pl ∧ w.pl < 3 := hrr
  have hn : n ≤ 1 := hn
  have hv : n = 0 ∨ n = 1 := by omega
  have hB : ∀ {n xi : Nat} {a bk value steps asked : Int} {W rows : List Int}, baseI p ⟨n, i, rd, rs, ws, xi, a, c, bk, value, steps, asked, W, rows⟩ := mkBase hpO hc hi hrd hrs hws hwd hrr
  have hp8 := hpO.1
  refine ⟨?_⟩
  rw [tu_H]
  refine ⟨rfl, ?_, ?_⟩
  · intro h1
    exact absurd ((show decide ((↑(wRv (↑n : Int) (0 : Int) (2 : Int) rows).length : Int) < (34 : Int)) = false by kernel_rfl).symm.trans h1) (by decide)
  · intro h2
    replace h2 := of_decide_eq_false h2
    first
    | (exfalso; omega)
    | (refine ⟨rfl, rfl, ?_, ?_⟩
       · intro h3
         exact absurd ((show decide ((↑(wRv (↑n : Int) (0 : Int) (2 : Int) rows).length : Int) < (34 : Int)) = false by kernel_rfl).symm.trans h3) (by decide)
       · intro h4
         replace h4 := of_decide_eq_false h4
         first
         | (exfalso; omega)
         | (refine ⟨rfl, (And.intro (show (0 : Int) ≤ (0 : Int) from (by decide)) (show (0 : Int) < ((Mw.mk (wRv (↑n : Int) (0 : Int) (2 : Int) rows)).ws.length : Int) from (show _ < ((34 : Nat) : Int) by decide))), ?_, ?_, ?_, ?_⟩
            · exact ⟨(by decide), (show _ < ((34 : Nat) : Int) by decide)⟩
            · exact ⟨(by decide), (show _ < ((34 : Nat) : Int) by decide)⟩
            · intro h5
              refine ⟨?_, ?_, ?_, ?_⟩
              · exact ⟨(by decide), (show _ < ((34 : Nat) : Int) by decide)⟩
              · exact ⟨(by decide), (show _ < ((34 : Nat) : Int) by decide)⟩
              · intro h6
                refine ⟨?_, ?_⟩
                · intro h7
                  replace h7 := of_decide_eq_true h7
                  first
                  | (exfalso; omega)
                  | (exact ⟨⟨n, i, rd, rs, ws, 0, a, c, (2 : Int), value, IntKind.i64.wrap (steps + (1 : Int)), asked, W, rows⟩, ⟨rfl, rfl, rfl, rfl, rfl, rfl, rfl, rfl, t2 ⟨rfl, rfl, rfl, rfl, t40 ⟨rfl, t59 ⟨rfl, rfl, t29 ⟨rfl, rfl, rfl, t16 ⟨⟨trivial, ⟨(mkBW hB hnod), ⟨(show i = p.length + 1 by omega), hne, hrow, (.inr rfl)⟩, (show 0 < (rs).length by omega)⟩, rfl, (show 43 - 0 < 44 by omega)⟩, trivial⟩⟩⟩⟩⟩⟩⟩)
                · intro h8
                  replace h8 := of_decide_eq_false h8
                  first
                  | (exfalso; omega)
                  | (refine ⟨?_, ?_⟩
                     · intro h9
                       simp only [decide_eq_true_eq, decide_eq_false_iff_not, beq_iff_eq, beq_eq_false_iff_ne, ne_eq, gt_iff_lt, ge_iff_le, tak_len] at h9
                       first
                       | (exfalso; omega)
                       | (exact ⟨⟨n, i, rd, rs, ws, xi, (1 : Int), c, bk, value, IntKind.i64.wrap (steps + (1 : Int)), asked, W, rows⟩, ⟨rfl, rfl, rfl, rfl, rfl, rfl, rfl, rfl, t2 ⟨rfl, rfl, rfl, rfl, t40 ⟨rfl, t56 ⟨rfl, rfl, rfl, rfl, t16 ⟨⟨trivial, ⟨(mkBW hB hnod), (show i = p.length + 1 by omega), hrow, (fun _ => rfl)⟩, rfl, (show 30 < 44 by omega)⟩, trivial⟩⟩⟩⟩⟩⟩)
                     · intro h10
                       cases h10)
              · intro h11
                exact absurd ((show (at0 (wRv (↑n : Int) (0 : Int) (2 : Int) rows) (0 : Int) == (0 : Int)) = true by kernel_rfl).symm.trans h11) (by decide)
            · intro h12
              exact absurd ((show (at0 (wRv (↑n : Int) (0 : Int) (2 : Int) rows) (0 : Int) == (0 : Int)) = true by kernel_rfl).symm.trans h12) (by decide)))
theorem tu_I : Go.Sy.Tree.holds (vcD p (dI p) ⟨n, i, rd, rs, ws, xi, a, c, bk, value, steps, asked, W, rows⟩) = ( sizeD.pre (mp1, ()) ∧ (decide ((↑(wRv (↑n : Int) 1 2 rows).length : Int) < 34) = true → KD i p rd value) ∧
 (decide ((↑(wRv (↑n : Int) 1 2 rows).length : Int) < 34) = false → atD.pre (Rs.mk (32 : Int) rs, (↑xi : Int), ()) ∧ stripeD.pre (mp1, (at3 (Rs.mk (32 : Int) rs).ls (↑xi : Int)).pl, ()) ∧ badD.pre (Mw.mk (wRv (↑n : Int) 1
 2 rows), (2 : Int) + (at3 (Rs.mk (32 : Int) rs).ls (↑xi : Int)).pl, ()) ∧ ((0 : Int) ≤ 2 + (at3 (Rs.mk (32 : Int) rs).ls (↑xi : Int)).pl ∧ (2 : Int) + (at3 (Rs.mk (32 : Int) rs).ls (↑xi : Int)).pl < (↑(wRv (↑n : Int) 1 2
 rows).length : Int)) ∧ ((0 : Int) ≤ 2 + (at3 (Rs.mk (32 : Int) rs).ls (↑xi : Int)).pl ∧ (2 : Int) + (at3 (Rs.mk (32 : Int) rs).ls (↑xi : Int)).pl < (↑(wRv (↑n : Int) 1 2 rows).length : Int)) ∧ (at0 (wRv (↑n : Int) 1 2
 rows) ((2 : Int) + (at3 (Rs.mk (32 : Int) rs).ls (↑xi : Int)).pl) = 0 ∨ at0 (wRv (↑n : Int) 1 2 rows) ((2 : Int) + (at3 (Rs.mk (32 : Int) rs).ls (↑xi : Int)).pl) = 2) ∧ ((at0 (wRv (↑n : Int) 1 2 rows) ((2 : Int) + (at3
 (Rs.mk (32 : Int) rs).ls (↑xi : Int)).pl) == 0) = true → versionD.pre (at0 (wRv (↑n : Int) 1 2 rows) ((2 : Int) + (at3 (Rs.mk (32 : Int) rs).ls (↑xi : Int)).pl), ()) ∧ (decide (IntKind.i64.wrap ((↑xi : Int) + 1) <
 (↑rs.length : Int)) = true → ((bk == 1) = true → (true = true → ∃ (s : (oIJ p).St), p = p ∧ rd = s.rd ∧ rs = s.rs ∧ ws = s.ws ∧ wRv (↑n : Int) 1 2 rows = wRv (↑s.n : Int) s.a (2 : Int) s.rows ∧ wat = wat ∧ rows = s.rows
 ∧ takT rows = takT s.rows ∧ Z2 (IntKind.i64.wrap (steps + 1) = s.steps ∧ Q 32 ∧ filtT ws = filtT s.ws ∧ asked = s.asked ∧ Z40 (c = s.c ∧ Z56 (value = s.value ∧ (1 : Int) = s.a ∧ Qb true ∧ (↑i : Int) = (↑s.i : Int) ∧ Z16
 ((oIJ p).I (US.mk n i rd rs ws xi a c bk value steps asked W rows) s ∧ True))))) ∧ (true = false → (decide ((0 : Int) < (↑ws.length : Int)) = true → Stuck "sum: which") ∧ (decide ((0 : Int) < (↑ws.length : Int)) = false
 → (decide ((0 : Int) ≥ (↑rows.length : Int)) = true → Stuck "sum: which") ∧ (decide ((0 : Int) ≥ (↑rows.length : Int)) = false → Stuck "sum: which")))) ∧ ((bk == 1) = false → ∃ (s : (oII p).St), p = p ∧ rd = s.rd ∧ rs =
 s.rs ∧ ws = s.ws ∧ wRv (↑n : Int) 1 2 rows = wRv (↑s.n : Int) 1 2 s.rows ∧ wat = wat ∧ rows = s.rows ∧ takT rows = takT s.rows ∧ Z2 (IntKind.i64.wrap (steps + 1) = s.steps ∧ Q 32 ∧ filtT ws = filtT s.ws ∧ asked = s.asked
 ∧ Z40 (c = s.c ∧ Z60 (IntKind.i64.wrap ((↑xi : Int) + 1) = (↑s.xi : Int) ∧ value = s.value ∧ Z29 (bk = s.bk ∧ Qb true ∧ (↑i : Int) = (↑s.i : Int) ∧ Z16 ((oII p).I (US.mk n i rd rs ws xi a c bk value steps asked W rows) s
 ∧ True))))))) ∧ (decide (IntKind.i64.wrap ((↑xi : Int) + 1) < (↑rs.length : Int)) = false → (true = true → ∃ (s : (oIJ p).St), p = p ∧ rd = s.rd ∧ rs = s.rs ∧ ws = s.ws ∧ wRv (↑n : Int) 1 2 rows = wRv (↑s.n : Int) s.a (2
 : Int) s.rows ∧ wat = wat ∧ rows = s.rows ∧ takT rows = takT s.rows ∧ Z2 (IntKind.i64.wrap (steps + 1) = s.steps ∧ Q 32 ∧ filtT ws = filtT s.ws ∧ asked = s.asked ∧ Z40 (c = s.c ∧ Z56 (value = s.value ∧ (1 : Int) = s.a ∧
 Qb true ∧ (↑i : Int) = (↑s.i : Int) ∧ Z16 ((oIJ p).I (US.mk n i rd rs ws xi a c bk value steps asked W rows) s ∧ True))))) ∧ (true = false → (decide ((0 : Int) < (↑ws.length : Int)) = true → Stuck "sum: which") ∧ (decide
 ((0 : Int) < (↑ws.length : Int)) = false → (decide ((0 : Int) ≥ (↑rows.length : Int)) = true → Stuck "sum: which") ∧ (decide ((0 : Int) ≥ (↑rows.length : Int)) = false → Stuck "sum: which"))))) ∧ ((at0 (wRv (↑n : Int) 1
 2 rows) ((2 : Int) + (at3 (Rs.mk (32 : Int) rs).ls (↑xi : Int)).pl) == 0) = false → versionD.pre (at0 (wRv (↑n : Int) 1 2 rows) ((2 : Int) + (at3 (Rs.mk (32 : Int) rs).ls (↑xi : Int)).pl), ()) ∧ (decide (IntKind.i64.wrap
 ((↑xi : Int) + 1) < (↑rs.length : Int)) = true → ((bk == 1) = true → (true = true → ∃ (s : (oIJ p).St), p = p ∧ rd = s.rd ∧ rs = s.rs ∧ ws = s.ws ∧ wRv (↑n : Int) 1 2 rows = wRv (↑s.n : Int) s.a (2 : Int) s.rows ∧ wat =
 wat ∧ rows = s.rows ∧ takT rows = takT s.rows ∧ Z2 (IntKind.i64.wrap (steps + 1) = s.steps ∧ Q 32 ∧ filtT ws = filtT s.ws ∧ asked = s.asked ∧ Z40 (c = s.c ∧ Z56 (value = s.value ∧ (1 : Int) = s.a ∧ Qb true ∧ (↑i : Int) =
 (↑s.i : Int) ∧ Z16 ((oIJ p).I (US.mk n i rd rs ws xi a c bk value steps asked W rows) s ∧ True))))) ∧ (true = false → (decide ((0 : Int) < (↑ws.length : Int)) = true → Stuck "sum: which") ∧ (decide ((0 : Int) <
 (↑ws.length : Int)) = false → (decide ((0 : Int) ≥ (↑rows.length : Int)) = true → Stuck "sum: which") ∧ (decide ((0 : Int) ≥ (↑rows.length : Int)) = false → Stuck "sum: which")))) ∧ ((bk == 1) = false → ∃ (s : (oII
 p).St), p = p ∧ rd = s.rd ∧ rs = s.rs ∧ ws = s.ws ∧ wRv (↑n : Int) 1 2 rows = wRv (↑s.n : Int) 1 2 s.rows ∧ wat = wat ∧ rows = s.rows ∧ takT rows = takT s.rows ∧ Z2 (IntKind.i64.wrap (steps + 1) = s.steps ∧ Q 32 ∧ filtT
 ws = filtT s.ws ∧ asked = s.asked ∧ Z40 (c = s.c ∧ Z60 (IntKind.i64.wrap ((↑xi : Int) + 1) = (↑s.xi : Int) ∧ value = s.value ∧ Z29 (bk = s.bk ∧ Qb true ∧ (↑i : Int) = (↑s.i : Int) ∧ Z16 ((oII p).I (US.mk n i rd rs ws xi
 a c bk value steps asked W rows) s ∧ True))))))) ∧ (decide (IntKind.i64.wrap ((↑xi : Int) + 1) < (↑rs.length : Int)) = false → (true = true → ∃ (s : (oIJ p).St), p = p ∧ rd = s.rd ∧ rs = s.rs ∧ ws = s.ws ∧ wRv (↑n : Int)
 1 2 rows = wRv (↑s.n : Int) s.a (2 : Int) s.rows ∧ wat = wat ∧ rows = s.rows ∧ takT rows = takT s.rows ∧ Z2 (IntKind.i64.wrap (steps + 1) = s.steps ∧ Q 32 ∧ filtT ws = filtT s.ws ∧ asked = s.asked ∧ Z40 (c = s.c ∧ Z56
 (value = s.value ∧ (1 : Int) = s.a ∧ Qb true ∧ (↑i : Int) = (↑s.i : Int) ∧ Z16 ((oIJ p).I (US.mk n i rd rs ws xi a c bk value steps asked W rows) s ∧ True))))) ∧ (true = false → (decide ((0 : Int) < (↑ws.length : Int)) =
 true → Stuck "sum: which") ∧ (decide ((0 : Int) < (↑ws.length : Int)) = false → (decide ((0 : Int) ≥ (↑rows.length : Int)) = true → Stuck "sum: which") ∧ (decide ((0 : Int) ≥ (↑rows.length : Int)) = false → Stuck "sum:
 which"))))))) := by kernel_rfl
theorem tu_I_ok (p : List Op) (s : US) (hI : (dI p).I s) : Paid (vcD p (dI p) s) := by
  obtain ⟨n, i, rd, rs, ws, xi, a, c, bk, value, steps, asked, W, rows⟩ := s
  obtain ⟨⟨⟨⟨hpO, hc, hi, hrd, hrs, hws, hwd, hrr⟩, hnod⟩, ⟨he, hne, hrow, hbk⟩, hx⟩, hn⟩ := hI
  have he : i = p.length + 1 := he
  have hne : ws ≠ [] := hne
  have hrow : rows = rowsT (ws.map (·.pl)) := hrow
  have hbk : bk = 1 ∨ bk = 2 := hbk
  have hr8 : rows ∈ L8 := by rw [hrow]; exact rowsT_in _
  have hrl := rows_len rows hr8
  have hx : xi < rs.length := hx
  have hq : 0 ≤ (at3 (Rs.mk (32 : Int) rs).ls (xi : Int)).pl ∧ (at3 (Rs.mk (32 : Int) rs).ls (xi : Int)).pl < 3 := by show 0 ≤ (at3 rs (xi : Int)).pl ∧ (at3 rs (xi : Int)).pl < 3; rw [at3_get hx]; exact hrr _ (List.getElem_mem _)
  have hc : c = 1 ∨ c = 2 := hc
  have hi : i ≤ p.length + 1 := hi
  have hrd : rd.length ≤ i := hrd
  have hrs : rs.length ≤ i := hrs
  have hws : ws.length ≤ i := hws
  have hwd : ∀ w ∈ ws, isData w.pl := hwd
  have hrr : ∀ w ∈ rs, 0 ≤ w.pl ∧ w.pl < 3 := hrr
  have hn : n ≤ 1 := hn
  have hv : n = 0 ∨ n = 1 := by omega
  have hB : ∀ {n xi : Nat} {a bk value steps asked : Int} {W rows : List Int}, baseI p ⟨n, i, rd, rs, ws, xi, a, c, bk, value, steps, asked, W, rows⟩ := mkBase hpO hc hi hrd hrs hws hwd hrr
  have hp8 := hpO.1
  refine ⟨?_⟩
  rw [tu_I]
  refine ⟨rfl, ?_, ?_⟩
  · intro h1
    exact absurd ((show decide ((↑(wRv (↑n : Int) (1 : Int) (2 : Int) rows).length : Int) < (34 : Int)) = false by kernel_rfl).symm.trans h1) (by decide)
  · intro h2
    replace h2 := of_decide_eq_false h2
    first
    | (exfalso; omega)
    | (refine ⟨(And.intro (show (0 : Int) ≤ (↑xi : Int) by omega) (show (↑xi : Int) < (rs.length : Int) by omega)), (And.intro rfl (And.intro (show (0 : Int) ≤ (at3 (Rs.mk (32 : Int) rs).ls (↑xi : Int)).pl from hq.1) (show (at3 (Rs.mk (32 : Int) rs).ls (↑xi : Int)).pl < (3 : Int) from hq.2))), (And.intro (show (0 : Int) ≤ (2 : Int) + (at3 (Rs.mk (32 : Int) rs).ls (↑xi : Int)).pl from (by have := hq.1; omega)) (show (2 : Int) + (at3 (Rs.mk (32 : Int) rs).ls (↑xi : Int)).pl < ((Mw.mk (wRv (↑n : Int) (1 : Int) (2 : Int) rows)).ws.length : Int) from (show _ < (34 : Int) by have := hq.2; omega))), ?_, ?_, (wRv_two hq.1 hq.2 _ _ _ _), ?_, ?_⟩
       · exact ⟨(by have := hq.1; omega), (show _ < (34 : Int) by have := hq.2; omega)⟩
       · exact ⟨(by have := hq.1; omega), (show _ < (34 : Int) by have := hq.2; omega)⟩
       · intro h3
         refine ⟨(wRv_two hq.1 hq.2 _ _ _ _), ?_, ?_⟩
         · intro h4
           replace h4 := of_decide_eq_true h4
           rw [wN (show xi < 100000000 by omega)] at h4
           first
           | (exfalso; omega)
           | (refine ⟨?_, ?_⟩
              · intro h5
                replace h5 := eq_of_beq h5
                first
                | (exfalso; omega)
                | (refine ⟨?_, ?_⟩
                   · intro h6
                     simp only [decide_eq_true_eq, decide_eq_false_iff_not, beq_iff_eq, beq_eq_false_iff_ne, ne_eq, gt_iff_lt, ge_iff_le, tak_len] at h6
                     first
                     | (exfalso; omega)
                     | (exact ⟨⟨n, i, rd, rs, ws, xi, (1 : Int), c, bk, value, IntKind.i64.wrap (steps + (1 : Int)), asked, W, rows⟩, ⟨rfl, rfl, rfl, rfl, rfl, rfl, rfl, rfl, t2 ⟨rfl, rfl, rfl, rfl, t40 ⟨rfl, t56 ⟨rfl, rfl, rfl, rfl, t16 ⟨⟨trivial, ⟨(mkBW hB hnod), (show i = p.length + 1 by omega), hrow, (fun _ => rfl)⟩, rfl, (show 30 < 43 - xi by omega)⟩, trivial⟩⟩⟩⟩⟩⟩)
                   · intro h7
                     cases h7)
              · intro h8
                replace h8 := ne_of_beq_false h8
                first
                | (exfalso; omega)
                | (exact ⟨⟨n, i, rd, rs, ws, xi + 1, a, c, bk, value, IntKind.i64.wrap (steps + (1 : Int)), asked, W, rows⟩, ⟨rfl, rfl, rfl, rfl, rfl, rfl, rfl, rfl, t2 ⟨rfl, rfl, rfl, rfl, t40 ⟨rfl, t60 ⟨(wN (by omega)), rfl, t29 ⟨rfl, rfl, rfl, t16 ⟨⟨trivial, ⟨(mkBW hB hnod), ⟨(show i = p.length + 1 by omega), hne, hrow, hbk⟩, (show xi + 1 < (rs).length by omega)⟩, rfl, (show 43 - (xi + 1) < 43 - xi by omega)⟩, trivial⟩⟩⟩⟩⟩⟩⟩))
         · intro h9
           replace h9 := of_decide_eq_false h9
           rw [wN (show xi < 100000000 by omega)] at h9
           first
           | (exfalso; omega)
           | (refine ⟨?_, ?_⟩
              · intro h10
                simp only [decide_eq_true_eq, decide_eq_false_iff_not, beq_iff_eq, beq_eq_false_iff_ne, ne_eq, gt_iff_lt, ge_iff_le, tak_len] at h10
                first
                | (exfalso; omega)
                | (exact ⟨⟨n, i, rd, rs, ws, xi, (1 : Int), c, bk, value, IntKind.i64.wrap (steps + (1 : Int)), asked, W, rows⟩, ⟨rfl, rfl, rfl, rfl, rfl, rfl, rfl, rfl, t2 ⟨rfl, rfl, rfl, rfl, t40 ⟨rfl, t56 ⟨rfl, rfl, rfl, rfl, t16 ⟨⟨trivial, ⟨(mkBW hB hnod), (show i = p.length + 1 by omega), hrow, (fun _ => rfl)⟩, rfl, (show 30 < 43 - xi by omega)⟩, trivial⟩⟩⟩⟩⟩⟩)
              · intro h11
                cases h11)
       · intro h12
         refine ⟨(wRv_two hq.1 hq.2 _ _ _ _), ?_, ?_⟩
         · intro h13
           replace h13 := of_decide_eq_true h13
           rw [wN (show xi < 100000000 by omega)] at h13
           first
           | (exfalso; omega)
           | (refine ⟨?_, ?_⟩
              · intro h14
                replace h14 := eq_of_beq h14
                first
                | (exfalso; omega)
                | (refine ⟨?_, ?_⟩
                   · intro h15
                     simp only [decide_eq_true_eq, decide_eq_false_iff_not, beq_iff_eq, beq_eq_false_iff_ne, ne_eq, gt_iff_lt, ge_iff_le, tak_len] at h15
                     first
                     | (exfalso; omega)
                     | (exact ⟨⟨n, i, rd, rs, ws, xi, (1 : Int), c, bk, value, IntKind.i64.wrap (steps + (1 : Int)), asked, W, rows⟩, ⟨rfl, rfl, rfl, rfl, rfl, rfl, rfl, rfl, t2 ⟨rfl, rfl, rfl, rfl, t40 ⟨rfl, t56 ⟨rfl, rfl, rfl, rfl, t16 ⟨⟨trivial, ⟨(mkBW hB hnod), (show i = p.length + 1 by omega), hrow, (fun _ => rfl)⟩, rfl, (show 30 < 43 - xi by omega)⟩, trivial⟩⟩⟩⟩⟩⟩)
                   · intro h16
                     cases h16)
              · intro h17
                replace h17 := ne_of_beq_false h17
                first
                | (exfalso; omega)
                | (exact ⟨⟨n, i, rd, rs, ws, xi + 1, a, c, bk, value, IntKind.i64.wrap (steps + (1 : Int)), asked, W, rows⟩, ⟨rfl, rfl, rfl, rfl, rfl, rfl, rfl, rfl, t2 ⟨rfl, rfl, rfl, rfl, t40 ⟨rfl, t60 ⟨(wN (by omega)), rfl, t29 ⟨rfl, rfl, rfl, t16 ⟨⟨trivial, ⟨(mkBW hB hnod), ⟨(show i = p.length + 1 by omega), hne, hrow, hbk⟩, (show xi + 1 < (rs).length by omega)⟩, rfl, (show 43 - (xi + 1) < 43 - xi by omega)⟩, trivial⟩⟩⟩⟩⟩⟩⟩))
         · intro h18
           replace h18 := of_decide_eq_false h18
           rw [wN (show xi < 100000000 by omega)] at h18
           first
           | (exfalso; omega)
           | (refine ⟨?_, ?_⟩
              · intro h19
                simp only [decide_eq_true_eq, decide_eq_false_iff_not, beq_iff_eq, beq_eq_false_iff_ne, ne_eq, gt_iff_lt, ge_iff_le, tak_len] at h19
                first
                | (exfalso; omega)
                | (exact ⟨⟨n, i, rd, rs, ws, xi, (1 : Int), c, bk, value, IntKind.i64.wrap (steps + (1 : Int)), asked, W, rows⟩, ⟨rfl, rfl, rfl, rfl, rfl, rfl, rfl, rfl, t2 ⟨rfl, rfl, rfl, rfl, t40 ⟨rfl, t56 ⟨rfl, rfl, rfl, rfl, t16 ⟨⟨trivial, ⟨(mkBW hB hnod), (show i = p.length + 1 by omega), hrow, (fun _ => rfl)⟩, rfl, (show 30 < 43 - xi by omega)⟩, trivial⟩⟩⟩⟩⟩⟩)
              · intro h20
                cases h20))
theorem tu_J : Go.Sy.Tree.holds (vcD p (dJ p) ⟨n, i, rd, rs, ws, xi, a, c, bk, value, steps, asked, W, rows⟩) = ( sizeD.pre (mp1, ()) ∧ (decide ((↑(wRv (↑n : Int) a (2 : Int) rows).length : Int) < 34) = true → KD i p rd
 value) ∧ (decide ((↑(wRv (↑n : Int) a (2 : Int) rows).length : Int) < 34) = false → ((0 : Int) ≤ 0 ∧ (0 : Int) < 1) ∧ ((0 : Int) ≤ 0 ∧ (0 : Int) < 1) ∧ badD.pre (Mw.mk (wRv (↑n : Int) a (2 : Int) rows), (at3 wat (0 :
 Int)).pl, ()) ∧ ((0 : Int) ≤ (at3 wat (0 : Int)).pl ∧ (at3 wat (0 : Int)).pl < (↑(wRv (↑n : Int) a (2 : Int) rows).length : Int)) ∧ ((0 : Int) ≤ (at3 wat (0 : Int)).pl ∧ (at3 wat (0 : Int)).pl < (↑(wRv (↑n : Int) a (2 :
 Int) rows).length : Int)) ∧ ((0 : Int) ≤ 0 ∧ (0 : Int) < 1) ∧ ((0 : Int) ≤ 0 ∧ (0 : Int) < 1) ∧ ((!at0 (wRv (↑n : Int) a (2 : Int) rows) (at3 wat (0 : Int)).pl == (at3 wat (0 : Int)).vl) = true → (decide ((0 : Int) <
 (↑(takT rows).length : Int)) = true → ∃ (s : (oJP p).St), p = p ∧ rd = s.rd ∧ rs = s.rs ∧ ws = s.ws ∧ wRv (↑n : Int) a (2 : Int) rows = wRv (1 : Int) s.a (2 : Int) (List.drop s.xi s.rows) ∧ wat = wat ∧ takT rows = takT
 s.rows ∧ Z2 (IntKind.i64.wrap (steps + 1) = s.steps ∧ Q 32 ∧ filtT ws = filtT s.ws ∧ asked = s.asked ∧ Z61 ((0 : Int) = (↑s.xi : Int) ∧ Z62 ((oJP p).I (US.mk n i rd rs ws xi a c bk value steps asked W rows) s ∧ True))))
 ∧ (decide ((0 : Int) < (↑(takT rows).length : Int)) = false → ∃ (s : (oJP p).St), p = p ∧ rd = s.rd ∧ rs = s.rs ∧ ws = s.ws ∧ wRv (↑n : Int) a (2 : Int) rows = wRv (1 : Int) s.a (2 : Int) (List.drop s.xi s.rows) ∧ wat =
 wat ∧ takT rows = takT s.rows ∧ Z2 (IntKind.i64.wrap (steps + 1) = s.steps ∧ Q 32 ∧ filtT ws = filtT s.ws ∧ asked = s.asked ∧ Z61 ((0 : Int) = (↑s.xi : Int) ∧ Z62 ((oJP p).I (US.mk n i rd rs ws xi a c bk value steps
 asked W rows) s ∧ True))))) ∧ ((!at0 (wRv (↑n : Int) a (2 : Int) rows) (at3 wat (0 : Int)).pl == (at3 wat (0 : Int)).vl) = false → (false = true → Stuck "sum: which") ∧ (false = false → (decide ((0 : Int) < (↑ws.length :
 Int)) = true → ∃ (s : (oJK p).St), p = p ∧ rd = s.rd ∧ rs = s.rs ∧ ws = s.ws ∧ wRv (↑n : Int) a (2 : Int) rows = s.W ∧ wat = wat ∧ rows = s.rows ∧ Z2 (IntKind.i64.wrap (steps + 1) = s.steps ∧ Q 32 ∧ filtT ws = filtT s.ws
 ∧ asked = s.asked ∧ Z63 ((0 : Int) = (↑s.xi : Int) ∧ value = s.value ∧ AVal.int IntKind.i64 a = AVal.int IntKind.i64 1 ∧ (↑i : Int) = (↑s.i : Int) ∧ Z16 ((oJK p).I (US.mk n i rd rs ws xi a c bk value steps asked W rows)
 s ∧ True)))) ∧ (decide ((0 : Int) < (↑ws.length : Int)) = false → (decide ((0 : Int) ≥ (↑rows.length : Int)) = true → ∃ (s : (oJM p).St), p = p ∧ rd = s.rd ∧ rs = s.rs ∧ ws = s.ws ∧ wRv (↑n : Int) a (2 : Int) rows = s.W
 ∧ wat = wat ∧ Z2 (IntKind.i64.wrap (steps + 1) = s.steps ∧ Q 32 ∧ filtT ws = filtT s.ws ∧ asked = s.asked ∧ Z64 (value = s.value ∧ a = s.a ∧ (↑i : Int) = (↑s.i : Int) ∧ Z16 ((oJM p).I (US.mk n i rd rs ws xi a c bk value
 steps asked W rows) s ∧ True)))) ∧ (decide ((0 : Int) ≥ (↑rows.length : Int)) = false → Stuck "sum: which")))))) := by kernel_rfl
theorem tu_J_ok (p : List Op) (s : US) (hI : (dJ p).I s) : Paid (vcD p (dJ p) s) := by
  obtain ⟨n, i, rd, rs, ws, xi, a, c, bk, value, steps, asked, W, rows⟩ := s
  obtain ⟨⟨⟨⟨hpO, hc, hi, hrd, hrs, hws, hwd, hrr⟩, hnod⟩, he, hrow, hJ⟩, hn⟩ := hI
  have he : i = p.length + 1 := he
  have hrow : rows = rowsT (ws.map (·.pl)) := hrow
  have hr8 : rows ∈ L8 := by rw [hrow]; exact rowsT_in _
  have hrl := rows_len rows hr8
  have hJ1 : 0 < ws.length → a = 1 := fun h => hJ (fun e => by rw [show ws = [] from e] at h; exact absurd h (by decide))
  have hJ0 : ws.length = 0 → rows.length = 0 := fun h => by rw [hrow, rows_nil h]; rfl
  have hc : c = 1 ∨ c = 2 := hc
  have hi : i ≤ p.length + 1 := hi
  have hrd : rd.length ≤ i := hrd
  have hrs : rs.length ≤ i := hrs
  have hws : ws.length ≤ i := hws
  have hwd : ∀ w ∈ ws, isData w.pl := hwd
  have hrr : ∀ w ∈ rs, 0 ≤ w.pl ∧ w.pl < 3 := hrr
  have hn : n ≤ 1 := hn
  have hv : n = 0 ∨ n = 1 := by omega
  have hB : ∀ {n xi : Nat} {a bk value steps asked : Int} {W rows : List Int}, baseI p ⟨n, i, rd, rs, ws, xi, a, c, bk, value, steps, asked, W, rows⟩ := mkBase hpO hc hi hrd hrs hws hwd hrr
  have hp8 := hpO.1
  refine ⟨?_⟩
  rw [tu_J]
  refine ⟨rfl, ?_, ?_⟩
  · intro h1
    exact absurd ((show decide ((↑(wRv (↑n : Int) a (2 : Int) rows).length : Int) < (34 : Int)) = false by kernel_rfl).symm.trans h1) (by decide)
  · intro h2
    replace h2 := of_decide_eq_false h2
    first
    | (exfalso; omega)
    | (refine ⟨?_, ?_, (And.intro (show (0 : Int) ≤ (at3 wat (0 : Int)).pl from (by decide)) (show (at3 wat (0 : Int)).pl < ((Mw.mk (wRv (↑n : Int) a (2 : Int) rows)).ws.length : Int) from (show (9 : Int) < ((34 : Nat) : Int) by decide))), ?_, ?_, ?_, ?_, ?_, ?_⟩
       · exact ⟨(by decide), (by decide)⟩
       · exact ⟨(by decide), (by decide)⟩
       · exact ⟨(by decide), (show (9 : Int) < ((34 : Nat) : Int) by decide)⟩
       · exact ⟨(by decide), (show (9 : Int) < ((34 : Nat) : Int) by decide)⟩
       · exact ⟨(by decide), (by decide)⟩
       · exact ⟨(by decide), (by decide)⟩
       · intro h3
         have hv1 : n = 1 := by
           rcases hv with e | e
           · subst e; exact absurd ((show (!at0 (wRv ((0 : Nat) : Int) a (2 : Int) rows) (at3 wat (0 : Int)).pl == (at3 wat (0 : Int)).vl) = false by kernel_rfl).symm.trans h3) (by decide)
           · subst e; rfl
         refine ⟨?_, ?_⟩
         · intro h4
           replace h4 := of_decide_eq_true h4
           rw [tak_len] at h4
           first
           | (exfalso; omega)
           | (exact ⟨⟨n, i, rd, rs, ws, 0, a, c, bk, value, IntKind.i64.wrap (steps + (1 : Int)), asked, W, rows⟩, ⟨rfl, rfl, rfl, rfl, (by rw [show (n : Int) = 1 by omega]; rfl), rfl, rfl, t2 ⟨rfl, rfl, rfl, rfl, t61 ⟨rfl, t62 ⟨⟨hv1, ⟨(mkBW hB hnod), hr8, Nat.zero_le _⟩, rfl, (show 20 - 0 < 30 by omega)⟩, trivial⟩⟩⟩⟩⟩)
         · intro h5
           replace h5 := of_decide_eq_false h5
           rw [tak_len] at h5
           first
           | (exfalso; omega)
           | (exact ⟨⟨n, i, rd, rs, ws, 0, a, c, bk, value, IntKind.i64.wrap (steps + (1 : Int)), asked, W, rows⟩, ⟨rfl, rfl, rfl, rfl, (by rw [show (n : Int) = 1 by omega]; rfl), rfl, rfl, t2 ⟨rfl, rfl, rfl, rfl, t61 ⟨rfl, t62 ⟨⟨hv1, ⟨(mkBW hB hnod), hr8, Nat.zero_le _⟩, rfl, (show 20 - 0 < 30 by omega)⟩, trivial⟩⟩⟩⟩⟩)
       · intro h6
         have hv0 : n = 0 := by
           rcases hv with e | e
           · subst e; rfl
           · subst e; exact absurd ((show (!at0 (wRv ((1 : Nat) : Int) a (2 : Int) rows) (at3 wat (0 : Int)).pl == (at3 wat (0 : Int)).vl) = true by kernel_rfl).symm.trans h6) (by decide)
         refine ⟨?_, ?_⟩
         · intro h7
           cases h7
         · intro h8
           refine ⟨?_, ?_⟩
           · intro h9
             replace h9 := of_decide_eq_true h9
             first
             | (exfalso; omega)
             | (exact ⟨⟨n, i, rd, rs, ws, 0, a, c, bk, value, IntKind.i64.wrap (steps + (1 : Int)), asked, wRv (↑n : Int) a (2 : Int) rows, rows⟩, ⟨rfl, rfl, rfl, rfl, rfl, rfl, rfl, t2 ⟨rfl, rfl, rfl, rfl, t63 ⟨rfl, rfl, (congrArg (AVal.int IntKind.i64) (hJ1 (by omega))), rfl, t16 ⟨⟨hv0, ⟨(mkBW hB hnod), ⟨(show i = p.length + 1 by omega), (by first | rfl | exact hW | (simp only [List.length_set]; first | rfl | exact hW))⟩, (show 0 < (ws).length by omega), (And.intro hrl (rows_mem rows hr8)), (fun j hj => absurd hj (Nat.not_lt_zero j))⟩, rfl, (show 29 - 0 < 30 by omega)⟩, trivial⟩⟩⟩⟩⟩)
           · intro h10
             replace h10 := of_decide_eq_false h10
             first
             | (exfalso; omega)
             | (refine ⟨?_, ?_⟩
                · intro h11
                  replace h11 := of_decide_eq_true h11
                  first
                  | (exfalso; omega)
                  | (exact ⟨⟨n, i, rd, rs, ws, xi, a, c, bk, value, IntKind.i64.wrap (steps + (1 : Int)), asked, wRv (↑n : Int) a (2 : Int) rows, rows⟩, ⟨rfl, rfl, rfl, rfl, rfl, rfl, t2 ⟨rfl, rfl, rfl, rfl, t64 ⟨rfl, rfl, rfl, t16 ⟨⟨hv0, ⟨(mkBW hB hnod), ⟨(show i = p.length + 1 by omega), (by first | rfl | exact hW | (simp only [List.length_set]; first | rfl | exact hW))⟩, (fun j _ hj => absurd (show j < ws.length from hj) (by omega))⟩, rfl, (show 10 < 30 by omega)⟩, trivial⟩⟩⟩⟩⟩)
                · intro h12
                  replace h12 := of_decide_eq_false h12
                  first
                  | (exfalso; omega)
                  | (exfalso; omega)))
theorem tu_K : Go.Sy.Tree.holds (vcD p (dK p) ⟨n, i, rd, rs, ws, xi, a, c, bk, value, steps, asked, W, rows⟩) = ( sizeD.pre (mp1, ()) ∧ (decide ((↑(W).length : Int) < 34) = true → KD i p rd value) ∧ (decide ((↑(W).length
 : Int) < 34) = false → ws.length * 16 ≤ 140737488355328 ∧ ((0 : Int) ≤ (↑xi : Int) ∧ (↑xi : Int) < (↑ws.length : Int)) ∧ ((0 : Int) ≤ (↑xi : Int) ∧ (↑xi : Int) < (↑ws.length : Int)) ∧ badD.pre (Mw.mk (W), (at3 ws (↑xi :
 Int)).pl, ()) ∧ ((0 : Int) ≤ (at3 ws (↑xi : Int)).pl ∧ (at3 ws (↑xi : Int)).pl < (↑(W).length : Int)) ∧ ((0 : Int) ≤ (at3 ws (↑xi : Int)).pl ∧ (at3 ws (↑xi : Int)).pl < (↑(W).length : Int)) ∧ ((0 : Int) ≤ (at3 ws (↑xi :
 Int)).pl ∧ (at3 ws (↑xi : Int)).pl < (↑(W).length : Int)) ∧ ((0 : Int) ≤ (at3 ws (↑xi : Int)).pl ∧ (at3 ws (↑xi : Int)).pl < (↑(W).length : Int)) ∧ (decide (IntKind.i64.wrap ((↑xi : Int) + 1) < (↑ws.length : Int)) = true
 → ∃ (s : (oKK p).St), p = p ∧ rd = s.rd ∧ rs = s.rs ∧ ws = s.ws ∧ (W).set (at3 ws (↑xi : Int)).pl.toNat (at3 ws (↑xi : Int)).vl = s.W ∧ rows = s.rows ∧ Z2 (IntKind.i64.wrap (steps + 1) = s.steps ∧ Q 32 ∧ filtT ws = filtT
 s.ws ∧ asked = s.asked ∧ Z65 (IntKind.i64.wrap ((↑xi : Int) + 1) = (↑s.xi : Int) ∧ value = s.value ∧ Q 1 ∧ (↑i : Int) = (↑s.i : Int) ∧ Z16 ((oKK p).I (US.mk n i rd rs ws xi a c bk value steps asked W rows) s ∧ True)))) ∧
 (decide (IntKind.i64.wrap ((↑xi : Int) + 1) < (↑ws.length : Int)) = false → (decide ((0 : Int) ≥ (↑rows.length : Int)) = true → ∃ (s : (oKM p).St), p = p ∧ rd = s.rd ∧ rs = s.rs ∧ ws = s.ws ∧ (W).set (at3 ws (↑xi :
 Int)).pl.toNat (at3 ws (↑xi : Int)).vl = s.W ∧ Z2 (IntKind.i64.wrap (steps + 1) = s.steps ∧ Q 32 ∧ filtT ws = filtT s.ws ∧ asked = s.asked ∧ Z66 (value = s.value ∧ (1 : Int) = s.a ∧ (↑i : Int) = (↑s.i : Int) ∧ Z16 ((oKM
 p).I (US.mk n i rd rs ws xi a c bk value steps asked W rows) s ∧ True)))) ∧ (decide ((0 : Int) ≥ (↑rows.length : Int)) = false → ∃ (s : (oKL p).St), p = p ∧ rd = s.rd ∧ rs = s.rs ∧ ws = s.ws ∧ (W).set (at3 ws (↑xi :
 Int)).pl.toNat (at3 ws (↑xi : Int)).vl = s.W ∧ rows = s.rows ∧ Z2 (IntKind.i64.wrap (steps + 1) = s.steps ∧ Q 32 ∧ filtT ws = filtT s.ws ∧ asked = s.asked ∧ Z67 ((0 : Int) = (↑s.xi : Int) ∧ value = s.value ∧ Q 1 ∧ (↑i :
 Int) = (↑s.i : Int) ∧ Z16 ((oKL p).I (US.mk n i rd rs ws xi a c bk value steps asked W rows) s ∧ True))))))) := by kernel_rfl
theorem tu_K_ok (p : List Op) (s : US) (hI : (dK p).I s) : Paid (vcD p (dK p) s) := by
  obtain ⟨n, i, rd, rs, ws, xi, a, c, bk, value, steps, asked, W, rows⟩ := s
  obtain ⟨⟨⟨⟨hpO, hc, hi, hrd, hrs, hws, hwd, hrr⟩, hnod⟩, ⟨he, hW⟩, hx⟩, hn⟩ := hI
  have he : i = p.length + 1 := he
  have hW : W.length = 34 := hW
  obtain ⟨hx, hrin, hdone⟩ := hx
  have hrl : rows.length ≤ 3 := hrin.1
  have hx : xi < ws.length := hx
  have hv : isData (at3 ws (xi : Int)).pl := by rw [at3_get hx]; exact hwd _ (List.getElem_mem _)
  have hdone : DoneL xi ws W := hdone
  have hc : c = 1 ∨ c = 2 := hc
  have hi : i ≤ p.length + 1 := hi
  have hrd : rd.length ≤ i := hrd
  have hrs : rs.length ≤ i := hrs
  have hws : ws.length ≤ i := hws
  have hwd : ∀ w ∈ ws, isData w.pl := hwd
  have hrr : ∀ w ∈ rs, 0 ≤ w.pl ∧ w.pl < 3 := hrr
  have hn : n ≤ 1 := hn
  have hvn : n = 0 ∨ n = 1 := by omega
  have hB : ∀ {n xi : Nat} {a bk value steps asked : Int} {W rows : List Int}, baseI p ⟨n, i, rd, rs, ws, xi, a, c, bk, value, steps, asked, W, rows⟩ := mkBase hpO hc hi hrd hrs hws hwd hrr
  have hp8 := hpO.1
  refine ⟨?_⟩
  rw [tu_K]
  refine ⟨rfl, ?_, ?_⟩
  · intro h1
    replace h1 := of_decide_eq_true h1
    first
    | (exfalso; omega)
    | (refine ⟨?_, ?_⟩
       · intro h2
         replace h2 := of_decide_eq_true h2
         first
         | (exfalso; omega)
         | (exfalso; omega)
       · intro h3
         replace h3 := of_decide_eq_false h3
         first
         | (exfalso; omega)
         | (refine ⟨?_, ?_⟩
            · intro h4
              replace h4 := of_decide_eq_true h4
              first
              | (exfalso; omega)
              | (refine ⟨?_, ?_, ?_, ?_⟩
                 · exact ⟨(by rw [wM (by omega)]; omega), (by rw [wM (by omega)]; omega)⟩
                 · exact ⟨(by rw [wM (by omega)]; omega), (by rw [wM (by omega)]; omega)⟩
                 · intro h5
                   refine ⟨?_, ?_, (by simp only [List.length_cons, List.length_nil, tak_len] at *; first | omega | (have := rows_take rows hr8 xi (by omega); have := rows_len _ this; omega)), ?_⟩
                   · exact ⟨(by rw [wM (by omega)]; omega), (by rw [wM (by omega)]; omega)⟩
                   · exact ⟨(by rw [wM (by omega)]; omega), (by rw [wM (by omega)]; omega)⟩
                   · exfalso; omega
                 · intro h6
                   exfalso; omega)
            · intro h7
              replace h7 := of_decide_eq_false h7
              first
              | (exfalso; omega)
              | (exfalso; omega)))
  · intro h8
    replace h8 := of_decide_eq_false h8
    first
    | (exfalso; omega)
    | (refine ⟨(show ws.length * (16 : Nat) ≤ (140737488355328 : Nat) by omega), ?_, ?_, (And.intro (show (0 : Int) ≤ (at3 ws (↑xi : Int)).pl from (data_lt hv).1) (show (at3 ws (↑xi : Int)).pl < ((Mw.mk (W)).ws.length : Int) from (by rw [hW]; exact (data_lt hv).2))), ?_, ?_, ?_, ?_, ?_, ?_⟩
       · exact ⟨(by omega), (by first | omega | (simp only [tak_len] at *; omega))⟩
       · exact ⟨(by omega), (by first | omega | (simp only [tak_len] at *; omega))⟩
       · exact ⟨(data_lt hv).1, (by rw [hW]; exact (data_lt hv).2)⟩
       · exact ⟨(data_lt hv).1, (by rw [hW]; exact (data_lt hv).2)⟩
       · exact ⟨(data_lt hv).1, (by rw [hW]; exact (data_lt hv).2)⟩
       · exact ⟨(data_lt hv).1, (by rw [hW]; exact (data_lt hv).2)⟩
       · intro h9
         replace h9 := of_decide_eq_true h9
         rw [wN (show xi < 100000000 by omega)] at h9
         first
         | (exfalso; omega)
         | (exact ⟨⟨n, i, rd, rs, ws, xi + 1, a, c, bk, value, IntKind.i64.wrap (steps + (1 : Int)), asked, (W).set (at3 ws (↑xi : Int)).pl.toNat (at3 ws (↑xi : Int)).vl, rows⟩, ⟨rfl, rfl, rfl, rfl, rfl, rfl, t2 ⟨rfl, rfl, rfl, rfl, t65 ⟨(wN (by omega)), rfl, rfl, rfl, t16 ⟨⟨trivial, ⟨(mkBW hB hnod), ⟨(show i = p.length + 1 by omega), (by first | rfl | exact hW | (simp only [List.length_set]; first | rfl | exact hW))⟩, (show xi + 1 < (ws).length by omega), hrin, (done_step hW hwd hnod hdone hx)⟩, rfl, (show 29 - (xi + 1) < 29 - xi by omega)⟩, trivial⟩⟩⟩⟩⟩)
       · intro h10
         replace h10 := of_decide_eq_false h10
         rw [wN (show xi < 100000000 by omega)] at h10
         first
         | (exfalso; omega)
         | (refine ⟨?_, ?_⟩
            · intro h11
              replace h11 := of_decide_eq_true h11
              first
              | (exfalso; omega)
              | (exact ⟨⟨n, i, rd, rs, ws, xi, (1 : Int), c, bk, value, IntKind.i64.wrap (steps + (1 : Int)), asked, (W).set (at3 ws (↑xi : Int)).pl.toNat (at3 ws (↑xi : Int)).vl, rows⟩, ⟨rfl, rfl, rfl, rfl, rfl, t2 ⟨rfl, rfl, rfl, rfl, t66 ⟨rfl, rfl, rfl, t16 ⟨⟨trivial, ⟨(mkBW hB hnod), ⟨(show i = p.length + 1 by omega), (by first | rfl | exact hW | (simp only [List.length_set]; first | rfl | exact hW))⟩, (done_all (done_step hW hwd hnod hdone hx) (show ws.length ≤ xi + 1 by omega))⟩, rfl, (show 10 < 29 - xi by omega)⟩, trivial⟩⟩⟩⟩⟩)
            · intro h12
              replace h12 := of_decide_eq_false h12
              first
              | (exfalso; omega)
              | (exact ⟨⟨n, i, rd, rs, ws, 0, a, c, bk, value, IntKind.i64.wrap (steps + (1 : Int)), asked, (W).set (at3 ws (↑xi : Int)).pl.toNat (at3 ws (↑xi : Int)).vl, rows⟩, ⟨rfl, rfl, rfl, rfl, rfl, rfl, t2 ⟨rfl, rfl, rfl, rfl, t67 ⟨rfl, rfl, rfl, rfl, t16 ⟨⟨trivial, ⟨(mkBW hB hnod), ⟨(show i = p.length + 1 by omega), (by first | rfl | exact hW | (simp only [List.length_set]; first | rfl | exact hW))⟩, (show 0 < (rows).length by omega), hrin, (done_all (done_step hW hwd hnod hdone hx) (show ws.length ≤ xi + 1 by omega))⟩, rfl, (show 18 - 0 < 29 - xi by omega)⟩, trivial⟩⟩⟩⟩⟩)))
theorem tu_L : Go.Sy.Tree.holds (vcD p (dL p) ⟨n, i, rd, rs, ws, xi, a, c, bk, value, steps, asked, W, rows⟩) = ( sizeD.pre (mp1, ()) ∧ (decide ((↑(W).length : Int) < 34) = true → KD i p rd value) ∧ (decide ((↑(W).length
 : Int) < 34) = false → ((0 : Int) ≤ (↑xi : Int) ∧ (↑xi : Int) < (↑rows.length : Int)) ∧ ((0 : Int) ≤ (↑xi : Int) ∧ (↑xi : Int) < (↑rows.length : Int)) ∧ stripeD.pre (mp1, at0 rows (↑xi : Int), ()) ∧ freeD.pre ((1 : Int),
 ()) ∧ badD.pre (Mw.mk (W), (2 : Int) + at0 rows (↑xi : Int), ()) ∧ ((0 : Int) ≤ 2 + at0 rows (↑xi : Int) ∧ (2 : Int) + at0 rows (↑xi : Int) < (↑(W).length : Int)) ∧ ((0 : Int) ≤ 2 + at0 rows (↑xi : Int) ∧ (2 : Int) + at0
 rows (↑xi : Int) < (↑(W).length : Int)) ∧ ((0 : Int) ≤ 2 + at0 rows (↑xi : Int) ∧ (2 : Int) + at0 rows (↑xi : Int) < (↑(W).length : Int)) ∧ ((0 : Int) ≤ 2 + at0 rows (↑xi : Int) ∧ (2 : Int) + at0 rows (↑xi : Int) <
 (↑(W).length : Int)) ∧ (decide (IntKind.i64.wrap ((↑xi : Int) + 1) ≥ (↑rows.length : Int)) = true → ∃ (s : (oLM p).St), p = p ∧ rd = s.rd ∧ rs = s.rs ∧ ws = s.ws ∧ (W).set ((2 : Int) + at0 rows (↑xi : Int)).toNat (16 :
 Int) = s.W ∧ Z2 (IntKind.i64.wrap (steps + 1) = s.steps ∧ Q 32 ∧ filtT ws = filtT s.ws ∧ asked = s.asked ∧ Z66 (value = s.value ∧ (1 : Int) = s.a ∧ (↑i : Int) = (↑s.i : Int) ∧ Z16 ((oLM p).I (US.mk n i rd rs ws xi a c bk
 value steps asked W rows) s ∧ True)))) ∧ (decide (IntKind.i64.wrap ((↑xi : Int) + 1) ≥ (↑rows.length : Int)) = false → ∃ (s : (oLL p).St), p = p ∧ rd = s.rd ∧ rs = s.rs ∧ ws = s.ws ∧ (W).set ((2 : Int) + at0 rows (↑xi :
 Int)).toNat (16 : Int) = s.W ∧ rows = s.rows ∧ Z2 (IntKind.i64.wrap (steps + 1) = s.steps ∧ Q 32 ∧ filtT ws = filtT s.ws ∧ asked = s.asked ∧ Z68 (IntKind.i64.wrap ((↑xi : Int) + 1) = (↑s.xi : Int) ∧ value = s.value ∧ Q 1
 ∧ (↑i : Int) = (↑s.i : Int) ∧ Z16 ((oLL p).I (US.mk n i rd rs ws xi a c bk value steps asked W rows) s ∧ True)))))) := by kernel_rfl
theorem tu_L_ok (p : List Op) (s : US) (hI : (dL p).I s) : Paid (vcD p (dL p) s) := by
  obtain ⟨n, i, rd, rs, ws, xi, a, c, bk, value, steps, asked, W, rows⟩ := s
  obtain ⟨⟨⟨⟨hpO, hc, hi, hrd, hrs, hws, hwd, hrr⟩, hnod⟩, ⟨he, hW⟩, hx⟩, hn⟩ := hI
  have he : i = p.length + 1 := he
  have hW : W.length = 34 := hW
  obtain ⟨hx, hrin, hdone⟩ := hx
  have hrl : rows.length ≤ 3 := hrin.1
  have hx : xi < rows.length := hx
  have hr : 0 ≤ at0 rows (xi : Int) ∧ at0 rows (xi : Int) < 3 := by rw [at0_get hx]; exact hrin.2 _ (List.getElem_mem _)
  have hdone : DoneL 100 ws W := hdone
  have hc : c = 1 ∨ c = 2 := hc
  have hi : i ≤ p.length + 1 := hi
  have hrd : rd.length ≤ i := hrd
  have hrs : rs.length ≤ i := hrs
  have hws : ws.length ≤ i := hws
  have hwd : ∀ w ∈ ws, isData w.pl := hwd
  have hrr : ∀ w ∈ rs, 0 ≤ w.pl ∧ w.pl < 3 := hrr
  have hn : n ≤ 1 := hn
  have hv : n = 0 ∨ n = 1 := by omega
  have hB : ∀ {n xi : Nat} {a bk value steps asked : Int} {W rows : List Int}, baseI p ⟨n, i, rd, rs, ws, xi, a, c, bk, value, steps, asked, W, rows⟩ := mkBase hpO hc hi hrd hrs hws hwd hrr
  have hp8 := hpO.1
  refine ⟨?_⟩
  rw [tu_L]
  refine ⟨rfl, ?_, ?_⟩
  · intro h1
    replace h1 := of_decide_eq_true h1
    first
    | (exfalso; omega)
    | (refine ⟨?_, ?_⟩
       · intro h2
         replace h2 := of_decide_eq_true h2
         first
         | (exfalso; omega)
         | (exfalso; omega)
       · intro h3
         replace h3 := of_decide_eq_false h3
         first
         | (exfalso; omega)
         | (refine ⟨?_, ?_⟩
            · intro h4
              replace h4 := of_decide_eq_true h4
              first
              | (exfalso; omega)
              | (refine ⟨?_, ?_, ?_, ?_⟩
                 · exact ⟨(by rw [wM (by omega)]; omega), (by rw [wM (by omega)]; omega)⟩
                 · exact ⟨(by rw [wM (by omega)]; omega), (by rw [wM (by omega)]; omega)⟩
                 · intro h5
                   refine ⟨?_, ?_, (by simp only [List.length_cons, List.length_nil, tak_len] at *; first | omega | (have := rows_take rows hr8 xi (by omega); have := rows_len _ this; omega)), ?_⟩
                   · exact ⟨(by rw [wM (by omega)]; omega), (by rw [wM (by omega)]; omega)⟩
                   · exact ⟨(by rw [wM (by omega)]; omega), (by rw [wM (by omega)]; omega)⟩
                   · exfalso; omega
                 · intro h6
                   exfalso; omega)
            · intro h7
              replace h7 := of_decide_eq_false h7
              first
              | (exfalso; omega)
              | (exfalso; omega)))
  · intro h8
    replace h8 := of_decide_eq_false h8
    first
    | (exfalso; omega)
    | (refine ⟨?_, ?_, (And.intro rfl (And.intro (show (0 : Int) ≤ at0 rows (↑xi : Int) from hr.1) (show at0 rows (↑xi : Int) < (3 : Int) from hr.2))), rfl, (And.intro (show (0 : Int) ≤ (2 : Int) + at0 rows (↑xi : Int) from (by have := hr.1; omega)) (show (2 : Int) + at0 rows (↑xi : Int) < ((Mw.mk (W)).ws.length : Int) from (by rw [hW]; have := hr.2; omega))), ?_, ?_, ?_, ?_, ?_, ?_⟩
       · exact ⟨(by omega), (by first | omega | (simp only [tak_len] at *; omega))⟩
       · exact ⟨(by omega), (by first | omega | (simp only [tak_len] at *; omega))⟩
       · exact ⟨(by have := hr.1; omega), (by rw [hW]; have := hr.2; omega)⟩
       · exact ⟨(by have := hr.1; omega), (by rw [hW]; have := hr.2; omega)⟩
       · exact ⟨(by have := hr.1; omega), (by rw [hW]; have := hr.2; omega)⟩
       · exact ⟨(by have := hr.1; omega), (by rw [hW]; have := hr.2; omega)⟩
       · intro h9
         replace h9 := of_decide_eq_true h9
         rw [wN (show xi < 100000000 by omega)] at h9
         first
         | (exfalso; omega)
         | (exact ⟨⟨n, i, rd, rs, ws, xi, (1 : Int), c, bk, value, IntKind.i64.wrap (steps + (1 : Int)), asked, (W).set ((2 : Int) + at0 rows (↑xi : Int)).toNat (16 : Int), rows⟩, ⟨rfl, rfl, rfl, rfl, rfl, t2 ⟨rfl, rfl, rfl, rfl, t66 ⟨rfl, rfl, rfl, t16 ⟨⟨trivial, ⟨(mkBW hB hnod), ⟨(show i = p.length + 1 by omega), (by first | rfl | exact hW | (simp only [List.length_set]; first | rfl | exact hW))⟩, (done_free hW hwd hdone hr.2 _)⟩, rfl, (show 10 < 18 - xi by omega)⟩, trivial⟩⟩⟩⟩⟩)
       · intro h10
         replace h10 := of_decide_eq_false h10
         rw [wN (show xi < 100000000 by omega)] at h10
         first
         | (exfalso; omega)
         | (exact ⟨⟨n, i, rd, rs, ws, xi + 1, a, c, bk, value, IntKind.i64.wrap (steps + (1 : Int)), asked, (W).set ((2 : Int) + at0 rows (↑xi : Int)).toNat (16 : Int), rows⟩, ⟨rfl, rfl, rfl, rfl, rfl, rfl, t2 ⟨rfl, rfl, rfl, rfl, t68 ⟨(wN (by omega)), rfl, rfl, rfl, t16 ⟨⟨trivial, ⟨(mkBW hB hnod), ⟨(show i = p.length + 1 by omega), (by first | rfl | exact hW | (simp only [List.length_set]; first | rfl | exact hW))⟩, (show xi + 1 < (rows).length by omega), hrin, (done_free hW hwd hdone hr.2 _)⟩, rfl, (show 18 - (xi + 1) < 18 - xi by omega)⟩, trivial⟩⟩⟩⟩⟩))
theorem tu_M : Go.Sy.Tree.holds (vcD p (dM p) ⟨n, i, rd, rs, ws, xi, a, c, bk, value, steps, asked, W, rows⟩) = ( sizeD.pre (mp1, ()) ∧ (decide ((↑(W).length : Int) < 34) = true → (decide ((↑i : Int) > (↑p.length : Int))
 = true → ∃ (s : (oMN p).St), p = p ∧ rd = s.rd ∧ rs = s.rs ∧ ws = s.ws ∧ W = s.W ∧ Z2 (steps = s.steps ∧ Q 32 ∧ filtT ws = filtT s.ws ∧ asked = s.asked ∧ Z69 (AVal.int IntKind.i64 4 = AVal.int IntKind.i64 0 ∧ value =
 s.value ∧ (↑i : Int) = (↑s.i : Int) ∧ constA (Value.bool false) = AVal.bool false ∧ Qc 1 ∧ (oMN p).I (US.mk n i rd rs ws xi a c bk value steps asked W rows) s ∧ True))) ∧ (decide ((↑i : Int) > (↑p.length : Int)) = false
 → (decide ((↑i : Int) > 0) = true → Bi i p ∧ Bi i p ∧ (((at2 p (IntKind.i64.wrap ((↑i : Int) - 1))).kd == 0) = true → Bi i p ∧ Bi i p ∧ (rd.length + [Wo.mk (at2 p (IntKind.i64.wrap ((↑i : Int) - 1))).pl value].length) *
 16 ≤ 140737488355328 ∧ Stuck "sum: which") ∧ (((at2 p (IntKind.i64.wrap ((↑i : Int) - 1))).kd == 0) = false → Stuck "sum: which")) ∧ (decide ((↑i : Int) > 0) = false → Stuck "sum: which"))) ∧ (decide ((↑(W).length : Int)
 < 34) = false → threadD.pre (mp1, (1 : Int), (0 : Int), ()) ∧ badD.pre (Mw.mk (W), (13 : Int), ()) ∧ Bk 13 (W) ∧ Bk 13 (W) ∧ Bk 13 (W) ∧ Bk 13 (W) ∧ (decide ((↑ws.length : Int) > 0) = true → (decide ((↑i : Int) >
 (↑p.length : Int)) = true → ∃ (s : (oMN p).St), p = p ∧ rd = s.rd ∧ rs = s.rs ∧ ws = s.ws ∧ (W).set (13 : Nat) (0 : Int) = s.W ∧ Z2 (IntKind.i64.wrap (steps + 1) = s.steps ∧ Q 32 ∧ filtT ws = filtT s.ws ∧ asked = s.asked
 ∧ Z70 (value = s.value ∧ (↑i : Int) = (↑s.i : Int) ∧ constA (Value.bool false) = AVal.bool false ∧ Qc 1 ∧ (oMN p).I (US.mk n i rd rs ws xi a c bk value steps asked W rows) s ∧ True))) ∧ (decide ((↑i : Int) > (↑p.length :
 Int)) = false → (decide ((↑i : Int) > 0) = true → Bi i p ∧ Bi i p ∧ (((at2 p (IntKind.i64.wrap ((↑i : Int) - 1))).kd == 0) = true → Bi i p ∧ Bi i p ∧ (rd.length + [Wo.mk (at2 p (IntKind.i64.wrap ((↑i : Int) - 1))).pl
 value].length) * 16 ≤ 140737488355328 ∧ Stuck "sum: which") ∧ (((at2 p (IntKind.i64.wrap ((↑i : Int) - 1))).kd == 0) = false → Stuck "sum: which")) ∧ (decide ((↑i : Int) > 0) = false → Stuck "sum: which"))) ∧ (decide
 ((↑ws.length : Int) > 0) = false → (decide ((↑i : Int) > (↑p.length : Int)) = true → ∃ (s : (oMN p).St), p = p ∧ rd = s.rd ∧ rs = s.rs ∧ ws = s.ws ∧ (W).set (13 : Nat) (0 : Int) = s.W ∧ Z2 (IntKind.i64.wrap (steps + 1) =
 s.steps ∧ Q 32 ∧ filtT ws = filtT s.ws ∧ asked = s.asked ∧ Z70 (value = s.value ∧ (↑i : Int) = (↑s.i : Int) ∧ constA (Value.bool false) = AVal.bool false ∧ Qc 1 ∧ (oMN p).I (US.mk n i rd rs ws xi a c bk value steps asked
 W rows) s ∧ True))) ∧ (decide ((↑i : Int) > (↑p.length : Int)) = false → (decide ((↑i : Int) > 0) = true → Bi i p ∧ Bi i p ∧ (((at2 p (IntKind.i64.wrap ((↑i : Int) - 1))).kd == 0) = true → Bi i p ∧ Bi i p ∧ (rd.length +
 [Wo.mk (at2 p (IntKind.i64.wrap ((↑i : Int) - 1))).pl value].length) * 16 ≤ 140737488355328 ∧ Stuck "sum: which") ∧ (((at2 p (IntKind.i64.wrap ((↑i : Int) - 1))).kd == 0) = false → Stuck "sum: which")) ∧ (decide ((↑i :
 Int) > 0) = false → Stuck "sum: which"))))) := by kernel_rfl
theorem tu_M_ok (p : List Op) (s : US) (hI : (dM p).I s) : Paid (vcD p (dM p) s) := by
  obtain ⟨n, i, rd, rs, ws, xi, a, c, bk, value, steps, asked, W, rows⟩ := s
  obtain ⟨⟨⟨⟨hpO, hc, hi, hrd, hrs, hws, hwd, hrr⟩, hnod⟩, ⟨he, hW⟩, hx⟩, hn⟩ := hI
  have he : i = p.length + 1 := he
  have hW : W.length = 34 := hW
  have hdone : DoneL 100 ws W := hx
  have hc : c = 1 ∨ c = 2 := hc
  have hi : i ≤ p.length + 1 := hi
  have hrd : rd.length ≤ i := hrd
  have hrs : rs.length ≤ i := hrs
  have hws : ws.length ≤ i := hws
  have hwd : ∀ w ∈ ws, isData w.pl := hwd
  have hrr : ∀ w ∈ rs, 0 ≤ w.pl ∧ w.pl < 3 := hrr
  have hn : n ≤ 1 := hn
  have hv : n = 0 ∨ n = 1 := by omega
  have hB : ∀ {n xi : Nat} {a bk value steps asked : Int} {W rows : List Int}, baseI p ⟨n, i, rd, rs, ws, xi, a, c, bk, value, steps, asked, W, rows⟩ := mkBase hpO hc hi hrd hrs hws hwd hrr
  have hp8 := hpO.1
  refine ⟨?_⟩
  rw [tu_M]
  refine ⟨rfl, ?_, ?_⟩
  · intro h1
    replace h1 := of_decide_eq_true h1
    first
    | (exfalso; omega)
    | (refine ⟨?_, ?_⟩
       · intro h2
         replace h2 := of_decide_eq_true h2
         first
         | (exfalso; omega)
         | (exact ⟨⟨n, i, rd, rs, ws, xi, a, c, bk, value, steps, asked, W, rows⟩, ⟨rfl, rfl, rfl, rfl, rfl, t2 ⟨rfl, rfl, rfl, rfl, t69 ⟨(by exfalso; omega), rfl, rfl, rfl, rfl, ⟨trivial, ⟨(mkBW hB hnod), ⟨(show i = p.length + 1 by omega), (by first | rfl | exact hW | (simp only [List.length_set]; first | rfl | exact hW))⟩, (done_low hW hwd hdone _ (by decide))⟩, rfl, (show 0 < 10 by omega)⟩, trivial⟩⟩⟩⟩)
       · intro h3
         replace h3 := of_decide_eq_false h3
         first
         | (exfalso; omega)
         | (refine ⟨?_, ?_⟩
            · intro h4
              replace h4 := of_decide_eq_true h4
              first
              | (exfalso; omega)
              | (refine ⟨?_, ?_, ?_, ?_⟩
                 · exact ⟨(by rw [wM (by omega)]; omega), (by rw [wM (by omega)]; omega)⟩
                 · exact ⟨(by rw [wM (by omega)]; omega), (by rw [wM (by omega)]; omega)⟩
                 · intro h5
                   refine ⟨?_, ?_, (by simp only [List.length_cons, List.length_nil, tak_len] at *; first | omega | (have := rows_take rows hr8 xi (by omega); have := rows_len _ this; omega)), ?_⟩
                   · exact ⟨(by rw [wM (by omega)]; omega), (by rw [wM (by omega)]; omega)⟩
                   · exact ⟨(by rw [wM (by omega)]; omega), (by rw [wM (by omega)]; omega)⟩
                   · exfalso; omega
                 · intro h6
                   exfalso; omega)
            · intro h7
              replace h7 := of_decide_eq_false h7
              first
              | (exfalso; omega)
              | (exfalso; omega)))
  · intro h8
    replace h8 := of_decide_eq_false h8
    first
    | (exfalso; omega)
    | (refine ⟨(And.intro rfl (And.intro rfl rfl)), (And.intro (show (0 : Int) ≤ (13 : Int) from (by decide)) (show (13 : Int) < ((Mw.mk (W)).ws.length : Int) from (by rw [hW]; decide))), ?_, ?_, ?_, ?_, ?_, ?_⟩
       · exact ⟨(by decide), (by rw [hW]; decide)⟩
       · exact ⟨(by decide), (by rw [hW]; decide)⟩
       · exact ⟨(by decide), (by rw [hW]; decide)⟩
       · exact ⟨(by decide), (by rw [hW]; decide)⟩
       · intro h9
         replace h9 := of_decide_eq_true h9
         first
         | (exfalso; omega)
         | (refine ⟨?_, ?_⟩
            · intro h10
              replace h10 := of_decide_eq_true h10
              first
              | (exfalso; omega)
              | (exact ⟨⟨n, i, rd, rs, ws, xi, a, c, bk, value, IntKind.i64.wrap (steps + (1 : Int)), asked, (W).set (13 : Nat) (0 : Int), rows⟩, ⟨rfl, rfl, rfl, rfl, rfl, t2 ⟨rfl, rfl, rfl, rfl, t70 ⟨rfl, rfl, rfl, rfl, ⟨trivial, ⟨(mkBW hB hnod), ⟨(show i = p.length + 1 by omega), (by first | rfl | exact hW | (simp only [List.length_set]; first | rfl | exact hW))⟩, (done_low hW hwd hdone _ (by decide))⟩, rfl, (show 0 < 10 by omega)⟩, trivial⟩⟩⟩⟩)
            · intro h11
              replace h11 := of_decide_eq_false h11
              first
              | (exfalso; omega)
              | (refine ⟨?_, ?_⟩
                 · intro h12
                   replace h12 := of_decide_eq_true h12
                   first
                   | (exfalso; omega)
                   | (refine ⟨?_, ?_, ?_, ?_⟩
                      · exact ⟨(by rw [wM (by omega)]; omega), (by rw [wM (by omega)]; omega)⟩
                      · exact ⟨(by rw [wM (by omega)]; omega), (by rw [wM (by omega)]; omega)⟩
                      · intro h13
                        refine ⟨?_, ?_, (by simp only [List.length_cons, List.length_nil, tak_len] at *; first | omega | (have := rows_take rows hr8 xi (by omega); have := rows_len _ this; omega)), ?_⟩
                        · exact ⟨(by rw [wM (by omega)]; omega), (by rw [wM (by omega)]; omega)⟩
                        · exact ⟨(by rw [wM (by omega)]; omega), (by rw [wM (by omega)]; omega)⟩
                        · exfalso; omega
                      · intro h14
                        exfalso; omega)
                 · intro h15
                   replace h15 := of_decide_eq_false h15
                   first
                   | (exfalso; omega)
                   | (exfalso; omega)))
       · intro h16
         replace h16 := of_decide_eq_false h16
         first
         | (exfalso; omega)
         | (refine ⟨?_, ?_⟩
            · intro h17
              replace h17 := of_decide_eq_true h17
              first
              | (exfalso; omega)
              | (exact ⟨⟨n, i, rd, rs, ws, xi, a, c, bk, value, IntKind.i64.wrap (steps + (1 : Int)), asked, (W).set (13 : Nat) (0 : Int), rows⟩, ⟨rfl, rfl, rfl, rfl, rfl, t2 ⟨rfl, rfl, rfl, rfl, t70 ⟨rfl, rfl, rfl, rfl, ⟨trivial, ⟨(mkBW hB hnod), ⟨(show i = p.length + 1 by omega), (by first | rfl | exact hW | (simp only [List.length_set]; first | rfl | exact hW))⟩, (done_low hW hwd hdone _ (by decide))⟩, rfl, (show 0 < 10 by omega)⟩, trivial⟩⟩⟩⟩)
            · intro h18
              replace h18 := of_decide_eq_false h18
              first
              | (exfalso; omega)
              | (refine ⟨?_, ?_⟩
                 · intro h19
                   replace h19 := of_decide_eq_true h19
                   first
                   | (exfalso; omega)
                   | (refine ⟨?_, ?_, ?_, ?_⟩
                      · exact ⟨(by rw [wM (by omega)]; omega), (by rw [wM (by omega)]; omega)⟩
                      · exact ⟨(by rw [wM (by omega)]; omega), (by rw [wM (by omega)]; omega)⟩
                      · intro h20
                        refine ⟨?_, ?_, (by simp only [List.length_cons, List.length_nil, tak_len] at *; first | omega | (have := rows_take rows hr8 xi (by omega); have := rows_len _ this; omega)), ?_⟩
                        · exact ⟨(by rw [wM (by omega)]; omega), (by rw [wM (by omega)]; omega)⟩
                        · exact ⟨(by rw [wM (by omega)]; omega), (by rw [wM (by omega)]; omega)⟩
                        · exfalso; omega
                      · intro h21
                        exfalso; omega)
                 · intro h22
                   replace h22 := of_decide_eq_false h22
                   first
                   | (exfalso; omega)
                   | (exfalso; omega))))
theorem tu_P : Go.Sy.Tree.holds (vcD p (dP p) ⟨n, i, rd, rs, ws, xi, a, c, bk, value, steps, asked, W, rows⟩) = ( sizeD.pre (mp1, ()) ∧ (decide ((↑(wRv (1 : Int) a (2 : Int) (List.drop xi rows)).length : Int) < 34) = true
 → Stuck "binop") ∧ (decide ((↑(wRv (1 : Int) a (2 : Int) (List.drop xi rows)).length : Int) < 34) = false → (decide ((↑xi : Int) < (↑(takT rows).length : Int)) = true → ((0 : Int) ≤ (↑xi : Int) ∧ (↑xi : Int) < (↑(takT
 rows).length : Int)) ∧ ((0 : Int) ≤ (↑xi : Int) ∧ (↑xi : Int) < (↑(takT rows).length : Int)) ∧ ((0 : Int) ≤ (↑xi : Int) ∧ (↑xi : Int) < (↑(takT rows).length : Int)) ∧ ((0 : Int) ≤ (↑xi : Int) ∧ (↑xi : Int) < (↑(takT
 rows).length : Int)) ∧ badD.pre (Mw.mk (wRv (1 : Int) a (2 : Int) (List.drop xi rows)), (at3 (takT rows) (↑xi : Int)).pl, ()) ∧ ((0 : Int) ≤ (at3 (takT rows) (↑xi : Int)).pl ∧ (at3 (takT rows) (↑xi : Int)).pl < (↑(wRv (1
 : Int) a (2 : Int) (List.drop xi rows)).length : Int)) ∧ ((0 : Int) ≤ (at3 (takT rows) (↑xi : Int)).pl ∧ (at3 (takT rows) (↑xi : Int)).pl < (↑(wRv (1 : Int) a (2 : Int) (List.drop xi rows)).length : Int)) ∧ ((0 : Int) ≤
 (at3 (takT rows) (↑xi : Int)).pl ∧ (at3 (takT rows) (↑xi : Int)).pl < (↑(wRv (1 : Int) a (2 : Int) (List.drop xi rows)).length : Int)) ∧ ((0 : Int) ≤ (at3 (takT rows) (↑xi : Int)).pl ∧ (at3 (takT rows) (↑xi : Int)).pl <
 (↑(wRv (1 : Int) a (2 : Int) (List.drop xi rows)).length : Int)) ∧ (decide (IntKind.i64.wrap ((↑xi : Int) + 1) < (↑(takT rows).length : Int)) = true → ∃ (s : (oPP p).St), p = p ∧ rd = s.rd ∧ rs = s.rs ∧ ws = s.ws ∧ (wRv
 (1 : Int) a (2 : Int) (List.drop xi rows)).set (at3 (takT rows) (↑xi : Int)).pl.toNat (at3 (takT rows) (↑xi : Int)).vl = wRv (1 : Int) s.a (2 : Int) (List.drop s.xi s.rows) ∧ takT rows = takT s.rows ∧ Z2
 (IntKind.i64.wrap (steps + 1) = s.steps ∧ Q 32 ∧ filtT ws = filtT s.ws ∧ asked = s.asked ∧ Z71 (IntKind.i64.wrap ((↑xi : Int) + 1) = (↑s.xi : Int) ∧ Z72 ((oPP p).I (US.mk n i rd rs ws xi a c bk value steps asked W rows)
 s ∧ True)))) ∧ (decide (IntKind.i64.wrap ((↑xi : Int) + 1) < (↑(takT rows).length : Int)) = false → ∃ (s : (oPP p).St), p = p ∧ rd = s.rd ∧ rs = s.rs ∧ ws = s.ws ∧ (wRv (1 : Int) a (2 : Int) (List.drop xi rows)).set (at3
 (takT rows) (↑xi : Int)).pl.toNat (at3 (takT rows) (↑xi : Int)).vl = wRv (1 : Int) s.a (2 : Int) (List.drop s.xi s.rows) ∧ takT rows = takT s.rows ∧ Z2 (IntKind.i64.wrap (steps + 1) = s.steps ∧ Q 32 ∧ filtT ws = filtT
 s.ws ∧ asked = s.asked ∧ Z71 (IntKind.i64.wrap ((↑xi : Int) + 1) = (↑s.xi : Int) ∧ Z72 ((oPP p).I (US.mk n i rd rs ws xi a c bk value steps asked W rows) s ∧ True))))) ∧ (decide ((↑xi : Int) < (↑(takT rows).length :
 Int)) = false → threadD.pre (mp1, (1 : Int), (0 : Int), ()) ∧ badD.pre (Mw.mk (wRv (1 : Int) a (2 : Int) (List.drop xi rows)), (13 : Int), ()) ∧ Bk 13 (wRv (1 : Int) a (2 : Int) (List.drop xi rows)) ∧ Bk 13 (wRv (1 :
 Int) a (2 : Int) (List.drop xi rows)) ∧ Bk 13 (wRv (1 : Int) a (2 : Int) (List.drop xi rows)) ∧ Bk 13 (wRv (1 : Int) a (2 : Int) (List.drop xi rows)) ∧ (decide ((↑xi : Int) < (↑(takT rows).length : Int)) = true → ∃ (s :
 (oPP p).St), p = p ∧ rd = s.rd ∧ rs = s.rs ∧ ws = s.ws ∧ (wRv (1 : Int) a (2 : Int) (List.drop xi rows)).set (13 : Nat) (0 : Int) = wRv (1 : Int) s.a (2 : Int) (List.drop s.xi s.rows) ∧ takT rows = takT s.rows ∧ Z2
 (IntKind.i64.wrap (steps + 1) = s.steps ∧ Q 32 ∧ filtT ws = filtT s.ws ∧ asked = s.asked ∧ Z71 ((↑xi : Int) = (↑s.xi : Int) ∧ Z73 (constA (Value.bool false) = AVal.bool true ∧ Z16 ((oPP p).I (US.mk n i rd rs ws xi a c bk
 value steps asked W rows) s ∧ True))))) ∧ (decide ((↑xi : Int) < (↑(takT rows).length : Int)) = false → ∃ (s : (oPQ p).St), p = p ∧ rd = s.rd ∧ rs = s.rs ∧ ws = s.ws ∧ (wRv (1 : Int) a (2 : Int) (List.drop xi rows)).set
 (13 : Nat) (0 : Int) = wV (1 : Int) s.a (0 : Int) (0 : Int) (0 : Int) (0 : Int) ∧ Z2 (IntKind.i64.wrap (steps + 1) = s.steps ∧ Q 32 ∧ filtT ws = filtT s.ws ∧ asked = s.asked ∧ Z74 ((oPQ p).I (US.mk n i rd rs ws xi a c bk
 value steps asked W rows) s ∧ True)))))) := by kernel_rfl
theorem tu_P_ok (p : List Op) (s : US) (hI : (dP p).I s) : Paid (vcD p (dP p) s) := by
  obtain ⟨n, i, rd, rs, ws, xi, a, c, bk, value, steps, asked, W, rows⟩ := s
  obtain ⟨⟨⟨⟨hpO, hc, hi, hrd, hrs, hws, hwd, hrr⟩, hnod⟩, hT, hx⟩, hn⟩ := hI
  have hT : rows ∈ L8 := hT
  have hx : xi ≤ rows.length := hx
  have hrl := rows_len rows hT
  have hc : c = 1 ∨ c = 2 := hc
  have hi : i ≤ p.length + 1 := hi
  have hrd : rd.length ≤ i := hrd
  have hrs : rs.length ≤ i := hrs
  have hws : ws.length ≤ i := hws
  have hwd : ∀ w ∈ ws, isData w.pl := hwd
  have hrr : ∀ w ∈ rs, 0 ≤ w.pl ∧ w.pl < 3 := hrr
  have hn : n ≤ 1 := hn
  have hv : n = 0 ∨ n = 1 := by omega
  have hB : ∀ {n xi : Nat} {a bk value steps asked : Int} {W rows : List Int}, baseI p ⟨n, i, rd, rs, ws, xi, a, c, bk, value, steps, asked, W, rows⟩ := mkBase hpO hc hi hrd hrs hws hwd hrr
  have hp8 := hpO.1
  refine ⟨?_⟩
  rw [tu_P]
  refine ⟨rfl, ?_, ?_⟩
  · intro h1
    exact absurd ((show decide ((↑(wRv (1 : Int) a (2 : Int) (List.drop xi rows)).length : Int) < (34 : Int)) = false by kernel_rfl).symm.trans h1) (by decide)
  · intro h2
    replace h2 := of_decide_eq_false h2
    first
    | (exfalso; omega)
    | (refine ⟨?_, ?_⟩
       · intro h3
         replace h3 := of_decide_eq_true h3
         rw [tak_len] at h3
         first
         | (exfalso; omega)
         | (have hb := backW 1 a rows hT xi (by omega)
            have hg := hb.1
            have hback := hb.2
            refine ⟨?_, ?_, ?_, ?_, (And.intro (show (0 : Int) ≤ (at3 (takT rows) (↑xi : Int)).pl from hg.1) (show (at3 (takT rows) (↑xi : Int)).pl < ((Mw.mk (wRv (1 : Int) a (2 : Int) (List.drop xi rows))).ws.length : Int) from (show _ < (34 : Int) from hg.2))), ?_, ?_, ?_, ?_, ?_, ?_⟩
            · exact ⟨(by omega), (by first | omega | (simp only [tak_len] at *; omega))⟩
            · exact ⟨(by omega), (by first | omega | (simp only [tak_len] at *; omega))⟩
            · exact ⟨(by omega), (by first | omega | (simp only [tak_len] at *; omega))⟩
            · exact ⟨(by omega), (by first | omega | (simp only [tak_len] at *; omega))⟩
            · exact ⟨hg.1, (show _ < (34 : Int) from hg.2)⟩
            · exact ⟨hg.1, (show _ < (34 : Int) from hg.2)⟩
            · exact ⟨hg.1, (show _ < (34 : Int) from hg.2)⟩
            · exact ⟨hg.1, (show _ < (34 : Int) from hg.2)⟩
            · intro h4
              replace h4 := of_decide_eq_true h4
              rw [tak_len] at h4
              rw [wN (show xi < 100000000 by omega)] at h4
              first
              | (exfalso; omega)
              | (exact ⟨⟨n, i, rd, rs, ws, xi + 1, a, c, bk, value, IntKind.i64.wrap (steps + (1 : Int)), asked, W, rows⟩, ⟨rfl, rfl, rfl, rfl, hback, rfl, t2 ⟨rfl, rfl, rfl, rfl, t71 ⟨(wN (by omega)), t72 ⟨⟨trivial, ⟨(mkBW hB hnod), hT, (show xi + 1 ≤ rows.length by omega)⟩, rfl, (show 20 - (xi + 1) < 20 - xi by omega)⟩, trivial⟩⟩⟩⟩⟩)
            · intro h5
              replace h5 := of_decide_eq_false h5
              rw [tak_len] at h5
              rw [wN (show xi < 100000000 by omega)] at h5
              first
              | (exfalso; omega)
              | (exact ⟨⟨n, i, rd, rs, ws, xi + 1, a, c, bk, value, IntKind.i64.wrap (steps + (1 : Int)), asked, W, rows⟩, ⟨rfl, rfl, rfl, rfl, hback, rfl, t2 ⟨rfl, rfl, rfl, rfl, t71 ⟨(wN (by omega)), t72 ⟨⟨trivial, ⟨(mkBW hB hnod), hT, (show xi + 1 ≤ rows.length by omega)⟩, rfl, (show 20 - (xi + 1) < 20 - xi by omega)⟩, trivial⟩⟩⟩⟩⟩))
       · intro h6
         replace h6 := of_decide_eq_false h6
         rw [tak_len] at h6
         first
         | (exfalso; omega)
         | (refine ⟨(And.intro rfl (And.intro rfl rfl)), (And.intro (show (0 : Int) ≤ (13 : Int) from (by decide)) (show (13 : Int) < ((Mw.mk (wRv (1 : Int) a (2 : Int) (List.drop xi rows))).ws.length : Int) from (show _ < ((34 : Nat) : Int) by decide))), ?_, ?_, ?_, ?_, ?_, ?_⟩
            · exact ⟨(by decide), (show _ < ((34 : Nat) : Int) by decide)⟩
            · exact ⟨(by decide), (show _ < ((34 : Nat) : Int) by decide)⟩
            · exact ⟨(by decide), (show _ < ((34 : Nat) : Int) by decide)⟩
            · exact ⟨(by decide), (show _ < ((34 : Nat) : Int) by decide)⟩
            · intro h7
              replace h7 := of_decide_eq_true h7
              rw [tak_len] at h7
              first
              | (exfalso; omega)
              | (have hb := backW 1 a rows hT xi (by omega)
                 have hg := hb.1
                 have hback := hb.2
                 exact ⟨⟨n, i, rd, rs, ws, xi, a, c, bk, value, IntKind.i64.wrap (steps + (1 : Int)), asked, W, rows⟩, ⟨rfl, rfl, rfl, rfl, (by exfalso; omega), rfl, t2 ⟨rfl, rfl, rfl, rfl, t71 ⟨rfl, t73 ⟨rfl, t16 ⟨⟨trivial, ⟨(mkBW hB hnod), hT, (show xi ≤ rows.length by omega)⟩, rfl, (show 20 - xi < 20 - xi by omega)⟩, trivial⟩⟩⟩⟩⟩⟩)
            · intro h8
              replace h8 := of_decide_eq_false h8
              rw [tak_len] at h8
              first
              | (exfalso; omega)
              | (exact ⟨⟨n, i, rd, rs, ws, xi, a, c, bk, value, IntKind.i64.wrap (steps + (1 : Int)), asked, W, rows⟩, ⟨rfl, rfl, rfl, rfl, (endW _ _ (by omega)), t2 ⟨rfl, rfl, rfl, rfl, t74 ⟨⟨trivial, ⟨(mkBW hB hnod), trivial⟩, rfl, (show 0 < 20 - xi by omega)⟩, trivial⟩⟩⟩⟩)))
end Go.Proofs.Ytmjjljngaefpaaa
