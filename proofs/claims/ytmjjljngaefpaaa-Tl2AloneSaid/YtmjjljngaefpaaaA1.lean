/- Tl2Alone: its loops, one step each. -/
import Derived.Test.YtmjjljngaefpaaaAf
namespace Go.Proofs.Ytmjjljngaefpaaa
open Go.RowKit Go.Am Go.Sy
set_option linter.unusedVariables false
set_option linter.unusedSimpArgs false
variable (l p : List Op) (cl : Int) (n i : Nat) (rd rs ws : List Wo) (xi : Nat) (a c bk value steps asked : Int) (W rows : List Int)
theorem al_e (l p : List Op) (cl : Int) : Go.Sy.Tree.holds (entryS F (lookC (lA p)) 3000 Try.f6 b6 (fA l p cl) selA [.i .i64 cl, .tl (T := T) 2 l]) = ( (decide ((↑l.length : Int) > 8) = true → true = true ∧ True) ∧
 (decide ((↑l.length : Int) > 8) = false → ∃ (s : Nat), cl = cl ∧ l = l ∧ Z0 ([(0 : Int), (0 : Int), (0 : Int), (0 : Int), (0 : Int), (0 : Int), (0 : Int), (0 : Int), (0 : Int), (0 : Int), (0 : Int), (0 : Int), (0 : Int),
 (0 : Int), (0 : Int), (0 : Int), (0 : Int), (0 : Int), (0 : Int), (0 : Int), (0 : Int), (0 : Int), (0 : Int), (0 : Int), (0 : Int), (0 : Int), (0 : Int), (0 : Int), (0 : Int), (0 : Int), (0 : Int), (0 : Int), (0 : Int),
 (0 : Int)] = w0 ∧ Z1 ([] = List.map opT (List.take s l) ∧ (0 : Int) = (↑s : Int) ∧ (s ≤ l.length ∧ l.length ≤ 8) ∧ True)))) := by kernel_rfl
theorem al_e_ok (l p : List Op) (cl : Int) : Paid (entryS F (lookC (lA p)) 3000 Try.f6 b6 (fA l p cl) selA [.i .i64 cl, .tl (T := T) 2 l]) := by
  refine ⟨?_⟩
  rw [al_e]
  refine ⟨?_, ?_⟩
  · intro h1
    replace h1 := of_decide_eq_true h1
    first
    | (exfalso; omega)
    | (exact ⟨rfl, trivial⟩)
  · intro h2
    replace h2 := of_decide_eq_false h2
    first
    | (exfalso; omega)
    | (exact ⟨0, ⟨rfl, rfl, t0 ⟨rfl, t1 ⟨rfl, rfl, ⟨(by omega), (by omega)⟩, trivial⟩⟩⟩⟩)
theorem al_9 (l p : List Op) (cl : Int) (k : Nat) : Go.Sy.Tree.holds (cA l p cl 10 (planA l cl) k) = ( (decide ((↑k : Int) < (↑l.length : Int)) = true → ((0 : Int) ≤ (↑k : Int) ∧ (↑k : Int) < (↑l.length : Int)) ∧ ((0 :
 Int) ≤ (↑k : Int) ∧ (↑k : Int) < (↑l.length : Int)) ∧ ((0 : Int) ≤ (↑k : Int) ∧ (↑k : Int) < (↑l.length : Int)) ∧ ((List.map opT (List.take k l)).length + [Op.mk (IntKind.i64.wrap ((IntKind.u64.wrap (at2 l (↑k :
 Int)).kd).tmod 2)) (IntKind.i64.wrap ((IntKind.u64.wrap (at2 l (↑k : Int)).pl).tmod 4)) (at2 l (↑k : Int)).vl].length) * 24 ≤ 140737488355328 ∧ ∃ (s : Nat), cl = cl ∧ l = l ∧ Z2 (w0 = w0 ∧ Z1 (List.map opT (List.take k
 l) ++ [Op.mk (IntKind.i64.wrap ((IntKind.u64.wrap (at2 l (↑k : Int)).kd).tmod 2)) (IntKind.i64.wrap ((IntKind.u64.wrap (at2 l (↑k : Int)).pl).tmod 4)) (at2 l (↑k : Int)).vl] = List.map opT (List.take s l) ∧
 IntKind.i64.wrap ((↑k : Int) + 1) = (↑s : Int) ∧ (s ≤ l.length ∧ l.length ≤ 8) ∧ (3000000 : Nat) - s < 3000000 - k ∧ True))) ∧ (decide ((↑k : Int) < (↑l.length : Int)) = false → threadD.pre (mp1, (1 : Int), (0 : Int),
 ()) ∧ (decide (IntKind.i64.wrap ((1 : Int) + IntKind.i64.wrap ((IntKind.u64.wrap cl).tmod 2)) < 1) = true → false = true ∧ True) ∧ (decide (IntKind.i64.wrap ((1 : Int) + IntKind.i64.wrap ((IntKind.u64.wrap cl).tmod 2)) <
 1) = false → (decide (IntKind.i64.wrap ((1 : Int) + IntKind.i64.wrap ((IntKind.u64.wrap cl).tmod 2)) > 2) = true → false = true ∧ True) ∧ (decide (IntKind.i64.wrap ((1 : Int) + IntKind.i64.wrap ((IntKind.u64.wrap
 cl).tmod 2)) > 2) = false → ∃ (s : US), Z2 (w0 = w0 ∧ (0 : Int) = s.steps ∧ Z3 (IntKind.i64.wrap ((1 : Int) + IntKind.i64.wrap ((IntKind.u64.wrap cl).tmod 2)) = s.c ∧ Qc 1000 ∧ AVal.int IntKind.i64 (bif false then if
 (bif true then if (32 : Int) < 0 then (0 : Int) else (32 : Int) else if (0 : Int) < 32 then (0 : Int) else (32 : Int)) < 32 then (32 : Int) else bif true then if (32 : Int) < 0 then (0 : Int) else (32 : Int) else if (0 :
 Int) < 32 then (0 : Int) else (32 : Int) else if (32 : Int) < bif true then if (32 : Int) < 0 then (0 : Int) else (32 : Int) else if (0 : Int) < 32 then (0 : Int) else (32 : Int) then (32 : Int) else bif true then if (32
 : Int) < 0 then (0 : Int) else (32 : Int) else if (0 : Int) < 32 then (0 : Int) else (32 : Int)) = AVal.int IntKind.i64 32 ∧ [] = s.rs ∧ AVal.int IntKind.i64 (bif false then if (bif true then if (32 : Int) < 0 then (0 :
 Int) else (32 : Int) else if (0 : Int) < 32 then (0 : Int) else (32 : Int)) < 32 then (32 : Int) else bif true then if (32 : Int) < 0 then (0 : Int) else (32 : Int) else if (0 : Int) < 32 then (0 : Int) else (32 : Int)
 else if (32 : Int) < bif true then if (32 : Int) < 0 then (0 : Int) else (32 : Int) else if (0 : Int) < 32 then (0 : Int) else (32 : Int) then (32 : Int) else bif true then if (32 : Int) < 0 then (0 : Int) else (32 :
 Int) else if (0 : Int) < 32 then (0 : Int) else (32 : Int)) = AVal.int IntKind.i64 32 ∧ [] = s.ws ∧ (0 : Int) = filtT s.ws ∧ (0 : Int) = s.asked ∧ Z4 ((0 : Int) = s.value ∧ Z5 (List.map opT (List.take k l) = p ∧ Z6 ([] =
 s.rd ∧ (0 : Int) = (↑s.n : Int) ∧ ((fun (s : US) => baseW p s ∧ (fun (s : US) => s.i = 0) s) s ∧ s.n + (fun (s : US) => 121) s ≤ 200) ∧ (1000000 : Nat) - s.n < 3000000 - k ∧ True))))))))) := by kernel_rfl
theorem al_9_ok (l : List Op) (cl : Int) (k : Nat) (hI : k ≤ l.length ∧ l.length ≤ 8) : Paid (cA l (l.map opT) cl 10 (planA l cl) k) := by
  obtain ⟨hk, h8⟩ := hI
  have hcl := cl_le cl
  refine ⟨?_⟩
  rw [al_9]
  refine ⟨?_, ?_⟩
  · intro h1
    replace h1 := of_decide_eq_true h1
    first
    | (exfalso; omega)
    | (refine ⟨?_, ?_, ?_, (by simp only [List.length_map, List.length_take, List.length_cons, List.length_nil]; omega), ?_⟩
       · exact ⟨(by omega), (by first | omega | (simp only [tak_len] at *; omega))⟩
       · exact ⟨(by omega), (by first | omega | (simp only [tak_len] at *; omega))⟩
       · exact ⟨(by omega), (by first | omega | (simp only [tak_len] at *; omega))⟩
       · exact ⟨k + 1, ⟨rfl, rfl, t2 ⟨rfl, t1 ⟨(take_opT (by omega)), (wN (by omega)), ⟨(by omega), (by omega)⟩, (by omega), trivial⟩⟩⟩⟩)
  · intro h2
    replace h2 := of_decide_eq_false h2
    first
    | (exfalso; omega)
    | (refine ⟨(And.intro rfl (And.intro rfl rfl)), ?_, ?_⟩
       · intro h3
         replace h3 := of_decide_eq_true h3
         first
         | (exfalso; omega)
         | (exact ⟨(by exfalso; omega), trivial⟩)
       · intro h4
         replace h4 := of_decide_eq_false h4
         first
         | (exfalso; omega)
         | (refine ⟨?_, ?_⟩
            · intro h5
              replace h5 := of_decide_eq_true h5
              first
              | (exfalso; omega)
              | (exact ⟨(by exfalso; omega), trivial⟩)
            · intro h6
              replace h6 := of_decide_eq_false h6
              first
              | (exfalso; omega)
              | (exact ⟨⟨0, 0, [], [], [], 0, 0, IntKind.i64.wrap ((1 : Int) + IntKind.i64.wrap ((IntKind.u64.wrap cl).tmod (2 : Int))), 0, (0 : Int), (0 : Int), (0 : Int), [], []⟩, (t2 ⟨rfl, rfl, t3 ⟨rfl, rfl, (by kernel_rfl), rfl, (by kernel_rfl), rfl, rfl, rfl, t4 ⟨rfl, t5 ⟨(by rw [List.take_of_length_le (by omega)]), t6 ⟨rfl, rfl, ⟨⟨(mkBW (mkBase (plan_map l h8) (cl_le cl) (by first | omega | (simp only [List.length_append, List.length_cons, List.length_nil, List.length_set]; omega)) (by first | omega | (simp only [List.length_append, List.length_cons, List.length_nil, List.length_set]; omega)) (by first | omega | (simp only [List.length_append, List.length_cons, List.length_nil, List.length_set]; omega)) (by first | omega | (simp only [List.length_append, List.length_cons, List.length_nil, List.length_set]; omega)) (fun x hx => by cases hx) (fun x hx => by cases hx)) (show (List.map (·.pl) ([] : List Wo)).Nodup from List.nodup_nil)), (show (0) = (0 : Nat) by omega)⟩, (show (0) + ((121 : Nat)) ≤ 200 by omega)⟩, (show (1000000 : Nat) - (0) < (3000000 : Nat) - k by omega), trivial⟩⟩⟩⟩⟩)⟩)))
theorem al_k1 : Go.Sy.Tree.holds (cA l p cl 18 (q1 p) ⟨n, i, rd, rs, ws, xi, a, c, bk, value, steps, asked, W, rows⟩) = ( (decide ((↑n : Int) < 200) = true → sizeD.pre (mp1, ()) ∧ (false = true → (decide ((0 : Int) >
 (↑p.length : Int)) = true → ∃ (s : US), Z2 (w0 = s.W ∧ steps = s.steps ∧ Z7 ([] = s.rs ∧ Q 32 ∧ [] = s.ws ∧ (0 : Int) = filtT s.ws ∧ (0 : Int) = s.asked ∧ constA (Value.slice none (0 : Nat) (0 : Nat)) = AVal.nils ∧
 constA (Value.int IntKind.i64 (1 : Int)) = AVal.int IntKind.i64 2 ∧ constA (Value.int IntKind.i64 (1 : Int)) = AVal.int IntKind.i64 0 ∧ (0 : Int) = s.value ∧ (0 : Int) = s.a ∧ (0 : Int) = s.a ∧ p = p ∧ (0 : Int) = (↑s.i
 : Int) ∧ constA (Value.bool false) = AVal.bool false ∧ Qc 1 ∧ rd = s.rd ∧ IntKind.i64.wrap ((↑n : Int) + 1) = (↑s.n : Int) ∧ ((fun (s : US) => baseW p s ∧ (s.i = p.length + 1 ∧ s.W.length = 34) ∧ doneI s) s ∧ s.n + (fun
 (s : US) => 0) s ≤ 200) ∧ (1000000 : Nat) - s.n < 1000000 - n ∧ True))) ∧ (decide ((0 : Int) > (↑p.length : Int)) = false → Stuck "sel: none")) ∧ (false = false → clockD.pre (mp1, ()) ∧ badD.pre (Mw.mk w0, (0 : Int), ())
 ∧ Bl 0 ∧ Bl 0 ∧ (decide ((0 : Int) > (↑p.length : Int)) = true → ∃ (s : US), Z2 (w0 = s.W ∧ IntKind.i64.wrap (steps + 1) = s.steps ∧ Z7 ([] = s.rs ∧ Q 32 ∧ [] = s.ws ∧ (0 : Int) = filtT s.ws ∧ (0 : Int) = s.asked ∧
 constA (Value.slice none (0 : Nat) (0 : Nat)) = AVal.nils ∧ constA (Value.int IntKind.i64 (1 : Int)) = AVal.int IntKind.i64 2 ∧ Qc 0 ∧ (0 : Int) = s.value ∧ at0 w0 (0 : Int) = s.a ∧ (0 : Int) = s.a ∧ p = p ∧ (0 : Int) =
 (↑s.i : Int) ∧ constA (Value.bool false) = AVal.bool false ∧ Qc 1 ∧ rd = s.rd ∧ IntKind.i64.wrap ((↑n : Int) + 1) = (↑s.n : Int) ∧ ((fun (s : US) => baseW p s ∧ (s.i = p.length + 1 ∧ s.W.length = 34) ∧ doneI s) s ∧ s.n +
 (fun (s : US) => 0) s ≤ 200) ∧ (1000000 : Nat) - s.n < 1000000 - n ∧ True))) ∧ (decide ((0 : Int) > (↑p.length : Int)) = false → ∃ (s : US), Z2 (w0 = w0 ∧ IntKind.i64.wrap (steps + 1) = s.steps ∧ Z8 (c = s.c ∧ Z9 ([] =
 s.rs ∧ Q 32 ∧ [] = s.ws ∧ (0 : Int) = filtT s.ws ∧ (0 : Int) = s.asked ∧ constA (Value.slice none (0 : Nat) (0 : Nat)) = AVal.nils ∧ Z10 ((0 : Int) = s.value ∧ AVal.int IntKind.i64 (at0 w0 (0 : Int)) = AVal.int
 IntKind.i64 0 ∧ Z11 (constA (Value.slice none (0 : Nat) (0 : Nat)) = AVal.nils ∧ constA (Value.slice none (0 : Nat) (0 : Nat)) = AVal.nils ∧ constA (Value.bool false) = AVal.bool false ∧ p = p ∧ (1 : Int) = (↑s.i : Int)
 ∧ constA (Value.bool false) = AVal.bool false ∧ Q 0 ∧ rd = s.rd ∧ IntKind.i64.wrap ((↑n : Int) + 1) = (↑s.n : Int) ∧ ((fun (s : US) => baseW p s ∧ (fun (s : US) => 1 ≤ s.i) s) s ∧ s.n + (fun (s : US) => 60 + 5 * ((10 :
 Nat) - s.i)) s ≤ 200) ∧ (1000000 : Nat) - s.n < 1000000 - n ∧ True)))))))) ∧ (decide ((↑n : Int) < 200) = false → keysD.pre (Rs.mk (32 : Int) rs, ()) ∧ ws.length * 16 ≤ 140737488355328 ∧ ∃ (s : US), Z2 (w0 = s.W ∧ steps
 = s.steps ∧ AVal.int IntKind.i64 0 = AVal.int IntKind.i64 2 ∧ (0 : Int) = s.a ∧ (0 : Int) = s.a ∧ AVal.int IntKind.i64 0 = AVal.int IntKind.i64 1 ∧ ws = s.ws ∧ Qc 0 ∧ putI (0 : Nat) s ∧ (1000 : Nat) < 1000000 - n ∧
 True))) := by kernel_rfl
theorem al_k1_ok (l p : List Op) (cl : Int) (s : US) (hI : (q1 p).I s) : Paid (cA l p cl 18 (q1 p) s) := by
  obtain ⟨n, i, rd, rs, ws, xi, a, c, bk, value, steps, asked, W, rows⟩ := s
  obtain ⟨⟨⟨⟨hpO, hc, hi, hrd, hrs, hws, hwd, hrr⟩, hnod⟩, hI⟩, hn⟩ := hI
  have hi0 : i = 0 := hI
  have hc : c = 1 ∨ c = 2 := hc
  have hi : i ≤ p.length + 1 := hi
  have hrd : rd.length ≤ i := hrd
  have hrs : rs.length ≤ i := hrs
  have hws : ws.length ≤ i := hws
  have hwd : ∀ w ∈ ws, isData w.pl := hwd
  have hrr : ∀ w ∈ rs, 0 ≤ w.pl ∧ w.pl < 3 := hrr
  have hn : n + (121) ≤ 200 := hn
  have hp8 := hpO.1
  have hn2 : n < 200 := by omega
  have hB : ∀ {n xi : Nat} {a bk value steps asked : Int} {W rows : List Int}, baseI p ⟨n, i, rd, rs, ws, xi, a, c, bk, value, steps, asked, W, rows⟩ := mkBase hpO hc hi hrd hrs hws hwd hrr
  refine ⟨?_⟩
  rw [al_k1]
  refine ⟨?_, ?_⟩
  · intro h1
    replace h1 := of_decide_eq_true h1
    first
    | (exfalso; omega)
    | (refine ⟨rfl, ?_, ?_⟩
       · intro h2
         cases h2
       · intro h3
         refine ⟨rfl, (And.intro (show (0 : Int) ≤ (0 : Int) from (by decide)) (show (0 : Int) < ((Mw.mk (wT (0 : Int) (0 : Int) (0 : Int) (0 : Int) (0 : Int))).ws.length : Int) from (show _ < ((34 : Nat) : Int) by decide))), ?_, ?_, ?_, ?_⟩
         · exact ⟨(by decide), (by decide)⟩
         · exact ⟨(by decide), (by decide)⟩
         · intro h4
           replace h4 := of_decide_eq_true h4
           first
           | (exfalso; omega)
           | (exact ⟨⟨n + 1, 0, rd, [], [], xi, (0 : Int), c, bk, (0 : Int), IntKind.i64.wrap (steps + (1 : Int)), (0 : Int), wT (0 : Int) (0 : Int) (0 : Int) (0 : Int) (0 : Int), rows⟩, (t2 ⟨rfl, rfl, t7 ⟨rfl, rfl, rfl, rfl, rfl, rfl, rfl, rfl, rfl, rfl, rfl, rfl, rfl, rfl, rfl, rfl, (wN (by omega)), ⟨(by exfalso; omega), (show (n + 1) + ((0 : Nat)) ≤ 200 by omega)⟩, (mA hn2), trivial⟩⟩)⟩)
         · intro h5
           replace h5 := of_decide_eq_false h5
           first
           | (exfalso; omega)
           | (exact ⟨⟨n + 1, 1, rd, [], [], xi, a, c, bk, (0 : Int), IntKind.i64.wrap (steps + (1 : Int)), (0 : Int), W, rows⟩, (t2 ⟨rfl, rfl, t8 ⟨rfl, t9 ⟨rfl, rfl, rfl, rfl, rfl, rfl, t10 ⟨rfl, (congrArg (AVal.int IntKind.i64) (rfl)), t11 ⟨rfl, rfl, rfl, rfl, rfl, rfl, rfl, rfl, (wN (by omega)), ⟨⟨(mkBW (mkBase hpO hc (by first | omega | (simp only [List.length_append, List.length_cons, List.length_nil, List.length_set]; omega)) (by first | omega | (simp only [List.length_append, List.length_cons, List.length_nil, List.length_set]; omega)) (by first | omega | (simp only [List.length_append, List.length_cons, List.length_nil, List.length_set]; omega)) (by first | omega | (simp only [List.length_append, List.length_cons, List.length_nil, List.length_set]; omega)) (fun x hx => by cases hx) (fun x hx => by cases hx)) (show (List.map (·.pl) ([] : List Wo)).Nodup from List.nodup_nil)), (show (1 : Nat) ≤ (1) by omega)⟩, (show (n + 1) + ((60 : Nat) + (5 : Nat) * ((10 : Nat) - (1))) ≤ 200 by omega)⟩, (mA hn2), trivial⟩⟩⟩⟩⟩)⟩))
  · intro h6
    exact absurd (of_decide_eq_false h6) (by omega)
theorem al_k2 : Go.Sy.Tree.holds (cA l p cl 18 (q2 p) ⟨n, i, rd, rs, ws, xi, a, c, bk, value, steps, asked, W, rows⟩) = ( (decide ((↑n : Int) < 200) = true → sizeD.pre (mp1, ()) ∧ (false = true → (decide ((0 : Int) >
 (↑p.length : Int)) = true → ∃ (s : US), Z2 (w0 = s.W ∧ steps = s.steps ∧ Z7 (rs = s.rs ∧ Q 32 ∧ ws = s.ws ∧ filtT ws = filtT s.ws ∧ asked = s.asked ∧ Qn ∧ AVal.int IntKind.i64 1 = AVal.int IntKind.i64 2 ∧ AVal.int
 IntKind.i64 1 = AVal.int IntKind.i64 0 ∧ value = s.value ∧ (0 : Int) = s.a ∧ (0 : Int) = s.a ∧ p = p ∧ (0 : Int) = (↑s.i : Int) ∧ constA (Value.bool false) = AVal.bool false ∧ Qc 1 ∧ rd = s.rd ∧ IntKind.i64.wrap ((↑n :
 Int) + 1) = (↑s.n : Int) ∧ ((fun (s : US) => baseW p s ∧ (s.i = p.length + 1 ∧ s.W.length = 34) ∧ doneI s) s ∧ s.n + (fun (s : US) => 0) s ≤ 200) ∧ (1000000 : Nat) - s.n < 1000000 - n ∧ True))) ∧ (decide ((0 : Int) >
 (↑p.length : Int)) = false → Stuck "sel: none")) ∧ (false = false → clockD.pre (mp1, ()) ∧ badD.pre (Mw.mk w0, (0 : Int), ()) ∧ Bl 0 ∧ Bl 0 ∧ (decide ((0 : Int) > (↑p.length : Int)) = true → ∃ (s : US), Z2 (w0 = s.W ∧
 IntKind.i64.wrap (steps + 1) = s.steps ∧ Z7 (rs = s.rs ∧ Q 32 ∧ ws = s.ws ∧ filtT ws = filtT s.ws ∧ asked = s.asked ∧ Qn ∧ AVal.int IntKind.i64 1 = AVal.int IntKind.i64 2 ∧ Qc 0 ∧ value = s.value ∧ at0 w0 (0 : Int) = s.a
 ∧ (0 : Int) = s.a ∧ p = p ∧ (0 : Int) = (↑s.i : Int) ∧ constA (Value.bool false) = AVal.bool false ∧ Qc 1 ∧ rd = s.rd ∧ IntKind.i64.wrap ((↑n : Int) + 1) = (↑s.n : Int) ∧ ((fun (s : US) => baseW p s ∧ (s.i = p.length + 1
 ∧ s.W.length = 34) ∧ doneI s) s ∧ s.n + (fun (s : US) => 0) s ≤ 200) ∧ (1000000 : Nat) - s.n < 1000000 - n ∧ True))) ∧ (decide ((0 : Int) > (↑p.length : Int)) = false → ∃ (s : US), Z2 (w0 = w0 ∧ IntKind.i64.wrap (steps +
 1) = s.steps ∧ Z8 (c = s.c ∧ Z9 (rs = s.rs ∧ Q 32 ∧ ws = s.ws ∧ filtT ws = filtT s.ws ∧ asked = s.asked ∧ Z12 (value = s.value ∧ AVal.int IntKind.i64 (at0 w0 (0 : Int)) = AVal.int IntKind.i64 0 ∧ Z13 (p = p ∧ (1 : Int) =
 (↑s.i : Int) ∧ constA (Value.bool false) = AVal.bool false ∧ Q 0 ∧ rd = s.rd ∧ IntKind.i64.wrap ((↑n : Int) + 1) = (↑s.n : Int) ∧ ((fun (s : US) => baseW p s ∧ (fun (s : US) => 1 ≤ s.i) s) s ∧ s.n + (fun (s : US) => 60 +
 5 * ((10 : Nat) - s.i)) s ≤ 200) ∧ (1000000 : Nat) - s.n < 1000000 - n ∧ True)))))))) ∧ (decide ((↑n : Int) < 200) = false → keysD.pre (Rs.mk (32 : Int) rs, ()) ∧ ws.length * 16 ≤ 140737488355328 ∧ ∃ (s : US), Z2 (w0 =
 s.W ∧ steps = s.steps ∧ AVal.int IntKind.i64 1 = AVal.int IntKind.i64 2 ∧ (0 : Int) = s.a ∧ (0 : Int) = s.a ∧ AVal.int IntKind.i64 0 = AVal.int IntKind.i64 1 ∧ ws = s.ws ∧ Qc 0 ∧ putI (0 : Nat) s ∧ (1000 : Nat) < 1000000
 - n ∧ True))) := by kernel_rfl
theorem al_k2_ok (l p : List Op) (cl : Int) (s : US) (hI : (q2 p).I s) : Paid (cA l p cl 18 (q2 p) s) := by
  obtain ⟨n, i, rd, rs, ws, xi, a, c, bk, value, steps, asked, W, rows⟩ := s
  obtain ⟨⟨⟨⟨hpO, hc, hi, hrd, hrs, hws, hwd, hrr⟩, hnod⟩, hI⟩, hn⟩ := hI
  have hi0 : i = 0 := hI
  have hc : c = 1 ∨ c = 2 := hc
  have hi : i ≤ p.length + 1 := hi
  have hrd : rd.length ≤ i := hrd
  have hrs : rs.length ≤ i := hrs
  have hws : ws.length ≤ i := hws
  have hwd : ∀ w ∈ ws, isData w.pl := hwd
  have hrr : ∀ w ∈ rs, 0 ≤ w.pl ∧ w.pl < 3 := hrr
  have hn : n + (120) ≤ 200 := hn
  have hp8 := hpO.1
  have hn2 : n < 200 := by omega
  have hB : ∀ {n xi : Nat} {a bk value steps asked : Int} {W rows : List Int}, baseI p ⟨n, i, rd, rs, ws, xi, a, c, bk, value, steps, asked, W, rows⟩ := mkBase hpO hc hi hrd hrs hws hwd hrr
  refine ⟨?_⟩
  rw [al_k2]
  refine ⟨?_, ?_⟩
  · intro h1
    replace h1 := of_decide_eq_true h1
    first
    | (exfalso; omega)
    | (refine ⟨rfl, ?_, ?_⟩
       · intro h2
         cases h2
       · intro h3
         refine ⟨rfl, (And.intro (show (0 : Int) ≤ (0 : Int) from (by decide)) (show (0 : Int) < ((Mw.mk (wT (0 : Int) (0 : Int) (0 : Int) (0 : Int) (0 : Int))).ws.length : Int) from (show _ < ((34 : Nat) : Int) by decide))), ?_, ?_, ?_, ?_⟩
         · exact ⟨(by decide), (by decide)⟩
         · exact ⟨(by decide), (by decide)⟩
         · intro h4
           replace h4 := of_decide_eq_true h4
           first
           | (exfalso; omega)
           | (omega)
         · intro h5
           replace h5 := of_decide_eq_false h5
           first
           | (exfalso; omega)
           | (exact ⟨⟨n + 1, 1, rd, rs, ws, xi, a, c, bk, value, IntKind.i64.wrap (steps + (1 : Int)), asked, W, rows⟩, (t2 ⟨rfl, rfl, t8 ⟨rfl, t9 ⟨rfl, rfl, rfl, rfl, rfl, t12 ⟨rfl, (congrArg (AVal.int IntKind.i64) (rfl)), t13 ⟨rfl, rfl, rfl, rfl, rfl, (wN (by omega)), ⟨⟨(mkBW (mkBase hpO hc (by first | omega | (simp only [List.length_append, List.length_cons, List.length_nil, List.length_set]; omega)) (by first | omega | (simp only [List.length_append, List.length_cons, List.length_nil, List.length_set]; omega)) (by first | omega | (simp only [List.length_append, List.length_cons, List.length_nil, List.length_set]; omega)) (by first | omega | (simp only [List.length_append, List.length_cons, List.length_nil, List.length_set]; omega)) hwd hrr) hnod), (show (1 : Nat) ≤ (1) by omega)⟩, (show (n + 1) + ((60 : Nat) + (5 : Nat) * ((10 : Nat) - (1))) ≤ 200 by omega)⟩, (mA hn2), trivial⟩⟩⟩⟩⟩)⟩))
  · intro h6
    exact absurd (of_decide_eq_false h6) (by omega)
theorem al_k4_ok (l p : List Op) (cl : Int) (s : US) (hI : (q4 p).I s) : Paid (cA l p cl 18 (q4 p) s) := hI.1.2.elim
theorem al_k5 : Go.Sy.Tree.holds (cA l p cl 18 (q5 p) ⟨n, i, rd, rs, ws, xi, a, c, bk, value, steps, asked, W, rows⟩) = ( (decide ((↑n : Int) < 200) = true → sizeD.pre (mp1, ()) ∧ (false = true → (decide ((↑i : Int) >
 (↑p.length : Int)) = true → ∃ (s : US), Z2 (w0 = s.W ∧ steps = s.steps ∧ Z7 (rs = s.rs ∧ Q 32 ∧ ws = s.ws ∧ filtT ws = filtT s.ws ∧ asked = s.asked ∧ Qn ∧ AVal.int IntKind.i64 1 = AVal.int IntKind.i64 2 ∧ AVal.int
 IntKind.i64 2 = AVal.int IntKind.i64 0 ∧ value = s.value ∧ (0 : Int) = s.a ∧ (0 : Int) = s.a ∧ p = p ∧ (↑i : Int) = (↑s.i : Int) ∧ constA (Value.bool false) = AVal.bool false ∧ Qc 1 ∧ rd = s.rd ∧ IntKind.i64.wrap ((↑n :
 Int) + 1) = (↑s.n : Int) ∧ ((fun (s : US) => baseW p s ∧ (s.i = p.length + 1 ∧ s.W.length = 34) ∧ doneI s) s ∧ s.n + (fun (s : US) => 0) s ≤ 200) ∧ (1000000 : Nat) - s.n < 1000000 - n ∧ True))) ∧ (decide ((↑i : Int) >
 (↑p.length : Int)) = false → (decide ((↑i : Int) > 0) = true → Bi i p ∧ Bi i p ∧ (((at2 p (IntKind.i64.wrap ((↑i : Int) - 1))).kd == 0) = true → Bi i p ∧ Bi i p ∧ (rd.length + [Wo.mk (at2 p (IntKind.i64.wrap ((↑i : Int)
 - 1))).pl value].length) * 16 ≤ 140737488355328 ∧ Stuck "sel: none") ∧ (((at2 p (IntKind.i64.wrap ((↑i : Int) - 1))).kd == 0) = false → Stuck "sel: none")) ∧ (decide ((↑i : Int) > 0) = false → Stuck "sel: none"))) ∧
 (false = false → stripeD.pre (mp1, hashT a, ()) ∧ badD.pre (Mw.mk w0, a, ()) ∧ ((0 : Int) ≤ a ∧ a < 34) ∧ ((0 : Int) ≤ a ∧ a < 34) ∧ ∃ (s : US), Z2 (w0 = w0 ∧ IntKind.i64.wrap (steps + 1) = s.steps ∧ Z8 (c = s.c ∧ Z9 (rs
 = s.rs ∧ Q 32 ∧ ws = s.ws ∧ filtT ws = filtT s.ws ∧ asked = s.asked ∧ Z17 (a = s.a ∧ hashT a = hashT s.a ∧ Q 0 ∧ AVal.int IntKind.i64 (at0 w0 a) = AVal.int IntKind.i64 0 ∧ value = s.value ∧ Z5 (p = p ∧ (↑i : Int) = (↑s.i
 : Int) ∧ Z16 (rd = s.rd ∧ IntKind.i64.wrap ((↑n : Int) + 1) = (↑s.n : Int) ∧ ((fun (s : US) => baseW p s ∧ readI p s) s ∧ s.n + (fun (s : US) => 57 + 5 * ((10 : Nat) - s.i)) s ≤ 200) ∧ (1000000 : Nat) - s.n < 1000000 - n
 ∧ True)))))))) ∧ (decide ((↑n : Int) < 200) = false → keysD.pre (Rs.mk (32 : Int) rs, ()) ∧ ws.length * 16 ≤ 140737488355328 ∧ ∃ (s : US), Z2 (w0 = s.W ∧ steps = s.steps ∧ AVal.int IntKind.i64 1 = AVal.int IntKind.i64 2
 ∧ (0 : Int) = s.a ∧ (0 : Int) = s.a ∧ AVal.int IntKind.i64 0 = AVal.int IntKind.i64 1 ∧ ws = s.ws ∧ Qc 0 ∧ putI (0 : Nat) s ∧ (1000 : Nat) < 1000000 - n ∧ True))) := by kernel_rfl
theorem al_k5_ok (l p : List Op) (cl : Int) (s : US) (hI : (q5 p).I s) : Paid (cA l p cl 18 (q5 p) s) := by
  obtain ⟨n, i, rd, rs, ws, xi, a, c, bk, value, steps, asked, W, rows⟩ := s
  obtain ⟨⟨⟨⟨hpO, hc, hi, hrd, hrs, hws, hwd, hrr⟩, hnod⟩, hI⟩, hn⟩ := hI
  obtain ⟨hi1, hi2, hd⟩ := hI
  have hi1 : 1 ≤ i := hi1
  have hi2 : i ≤ p.length := hi2
  have hd : isData a := hd
  have hh := hash_in hd
  have hc : c = 1 ∨ c = 2 := hc
  have hi : i ≤ p.length + 1 := hi
  have hrd : rd.length ≤ i := hrd
  have hrs : rs.length ≤ i := hrs
  have hws : ws.length ≤ i := hws
  have hwd : ∀ w ∈ ws, isData w.pl := hwd
  have hrr : ∀ w ∈ rs, 0 ≤ w.pl ∧ w.pl < 3 := hrr
  have hn : n + (58 + 5 * (10 - i)) ≤ 200 := hn
  have hp8 := hpO.1
  have hn2 : n < 200 := by omega
  have hB : ∀ {n xi : Nat} {a bk value steps asked : Int} {W rows : List Int}, baseI p ⟨n, i, rd, rs, ws, xi, a, c, bk, value, steps, asked, W, rows⟩ := mkBase hpO hc hi hrd hrs hws hwd hrr
  refine ⟨?_⟩
  rw [al_k5]
  refine ⟨?_, ?_⟩
  · intro h1
    replace h1 := of_decide_eq_true h1
    first
    | (exfalso; omega)
    | (refine ⟨rfl, ?_, ?_⟩
       · intro h2
         cases h2
       · intro h3
         refine ⟨(And.intro rfl (And.intro (show (0 : Int) ≤ hashT a from hh.1) (show hashT a < (3 : Int) from hh.2))), (And.intro (show (0 : Int) ≤ a from (data_lt hd).1) (show a < ((Mw.mk (wT (0 : Int) (0 : Int) (0 : Int) (0 : Int) (0 : Int))).ws.length : Int) from (data_lt hd).2)), ?_, ?_, ?_⟩
         · exact ⟨(data_lt hd).1, (data_lt hd).2⟩
         · exact ⟨(data_lt hd).1, (data_lt hd).2⟩
         · exact ⟨⟨n + 1, i, rd, rs, ws, xi, a, c, bk, value, IntKind.i64.wrap (steps + (1 : Int)), asked, W, rows⟩, (t2 ⟨rfl, rfl, t8 ⟨rfl, t9 ⟨rfl, rfl, rfl, rfl, rfl, t17 ⟨rfl, rfl, rfl, (congrArg (AVal.int IntKind.i64) (w0_d hd)), rfl, t5 ⟨rfl, rfl, t16 ⟨rfl, (wN (by omega)), ⟨⟨(mkBW hB hnod), (mkRead (by omega) (by omega) hd)⟩, (show (n + 1) + ((57 : Nat) + (5 : Nat) * ((10 : Nat) - (i))) ≤ 200 by omega)⟩, (mA hn2), trivial⟩⟩⟩⟩⟩⟩)⟩)
  · intro h4
    exact absurd (of_decide_eq_false h4) (by omega)
theorem al_k6 : Go.Sy.Tree.holds (cA l p cl 18 (q6 p) ⟨n, i, rd, rs, ws, xi, a, c, bk, value, steps, asked, W, rows⟩) = ( (decide ((↑n : Int) < 200) = true → sizeD.pre (mp1, ()) ∧ (false = true → (decide ((↑i : Int) >
 (↑p.length : Int)) = true → ∃ (s : US), Z2 (w0 = s.W ∧ steps = s.steps ∧ Z7 (rs = s.rs ∧ Q 32 ∧ ws = s.ws ∧ filtT ws = filtT s.ws ∧ asked = s.asked ∧ Qn ∧ AVal.int IntKind.i64 1 = AVal.int IntKind.i64 2 ∧ AVal.int
 IntKind.i64 2 = AVal.int IntKind.i64 0 ∧ value = s.value ∧ (0 : Int) = s.a ∧ (0 : Int) = s.a ∧ p = p ∧ (↑i : Int) = (↑s.i : Int) ∧ constA (Value.bool false) = AVal.bool false ∧ Qc 1 ∧ rd = s.rd ∧ IntKind.i64.wrap ((↑n :
 Int) + 1) = (↑s.n : Int) ∧ ((fun (s : US) => baseW p s ∧ (s.i = p.length + 1 ∧ s.W.length = 34) ∧ doneI s) s ∧ s.n + (fun (s : US) => 0) s ≤ 200) ∧ (1000000 : Nat) - s.n < 1000000 - n ∧ True))) ∧ (decide ((↑i : Int) >
 (↑p.length : Int)) = false → (decide ((↑i : Int) > 0) = true → Bi i p ∧ Bi i p ∧ (((at2 p (IntKind.i64.wrap ((↑i : Int) - 1))).kd == 0) = true → Bi i p ∧ Bi i p ∧ (rd.length + [Wo.mk (at2 p (IntKind.i64.wrap ((↑i : Int)
 - 1))).pl value].length) * 16 ≤ 140737488355328 ∧ Stuck "sel: none") ∧ (((at2 p (IntKind.i64.wrap ((↑i : Int) - 1))).kd == 0) = false → Stuck "sel: none")) ∧ (decide ((↑i : Int) > 0) = false → Stuck "sel: none"))) ∧
 (false = false → stripeD.pre (mp1, hashT a, ()) ∧ badD.pre (Mw.mk w0, (2 : Int) + hashT a, ()) ∧ ((0 : Int) ≤ 2 + hashT a ∧ (2 : Int) + hashT a < 34) ∧ ((0 : Int) ≤ 2 + hashT a ∧ (2 : Int) + hashT a < 34) ∧ ((at0 w0 ((2
 : Int) + hashT a) != 0) = true → Stuck "sel: none") ∧ ((at0 w0 ((2 : Int) + hashT a) != 0) = false → roomD.pre (Rs.mk (32 : Int) rs, hashT a, ()) ∧ hasD.pre (Rs.mk (32 : Int) rs, hashT a, ()) ∧ ((!hasB (Rs.mk (32 : Int)
 rs).ls (hashT a)) = true → (rs.length + [Wo.mk (hashT a) (0 : Int)].length) * 16 ≤ 140737488355328 ∧ (decide ((↑i : Int) > (↑p.length : Int)) = true → ∃ (s : US), Z2 (w0 = s.W ∧ IntKind.i64.wrap (steps + 1) = s.steps ∧
 Z7 (rs ++ [Wo.mk (hashT a) (0 : Int)] = s.rs ∧ Q 32 ∧ ws = s.ws ∧ filtT ws = filtT s.ws ∧ asked = s.asked ∧ Qn ∧ AVal.int IntKind.i64 1 = AVal.int IntKind.i64 2 ∧ Qc 0 ∧ (0 : Int) = s.value ∧ (0 : Int) = s.a ∧ (0 : Int)
 = s.a ∧ p = p ∧ (↑i : Int) = (↑s.i : Int) ∧ constA (Value.bool false) = AVal.bool false ∧ Qc 1 ∧ rd = s.rd ∧ IntKind.i64.wrap ((↑n : Int) + 1) = (↑s.n : Int) ∧ ((fun (s : US) => baseW p s ∧ (s.i = p.length + 1 ∧
 s.W.length = 34) ∧ doneI s) s ∧ s.n + (fun (s : US) => 0) s ≤ 200) ∧ (1000000 : Nat) - s.n < 1000000 - n ∧ True))) ∧ (decide ((↑i : Int) > (↑p.length : Int)) = false → (decide ((↑i : Int) > 0) = true → Bi i p ∧ Bi i p ∧
 (((at2 p (IntKind.i64.wrap ((↑i : Int) - 1))).kd == 0) = true → Bi i p ∧ Bi i p ∧ (rd.length + [Wo.mk (at2 p (IntKind.i64.wrap ((↑i : Int) - 1))).pl (0 : Int)].length) * 16 ≤ 140737488355328 ∧ ∃ (s : US), Z2 (w0 = w0 ∧
 IntKind.i64.wrap (steps + 1) = s.steps ∧ Z8 (c = s.c ∧ Z9 (rs ++ [Wo.mk (hashT a) (0 : Int)] = s.rs ∧ Q 32 ∧ ws = s.ws ∧ filtT ws = filtT s.ws ∧ asked = s.asked ∧ Z12 ((0 : Int) = s.value ∧ Z5 (p = p ∧ IntKind.i64.wrap
 ((↑i : Int) + 1) = (↑s.i : Int) ∧ constA (Value.bool false) = AVal.bool false ∧ Q 0 ∧ rd ++ [Wo.mk (at2 p (IntKind.i64.wrap ((↑i : Int) - 1))).pl (0 : Int)] = s.rd ∧ IntKind.i64.wrap ((↑n : Int) + 1) = (↑s.n : Int) ∧
 ((fun (s : US) => baseW p s ∧ (fun (s : US) => 1 ≤ s.i) s) s ∧ s.n + (fun (s : US) => 60 + 5 * ((10 : Nat) - s.i)) s ≤ 200) ∧ (1000000 : Nat) - s.n < 1000000 - n ∧ True)))))) ∧ (((at2 p (IntKind.i64.wrap ((↑i : Int) -
 1))).kd == 0) = false → ∃ (s : US), Z2 (w0 = w0 ∧ IntKind.i64.wrap (steps + 1) = s.steps ∧ Z8 (c = s.c ∧ Z9 (rs ++ [Wo.mk (hashT a) (0 : Int)] = s.rs ∧ Q 32 ∧ ws = s.ws ∧ filtT ws = filtT s.ws ∧ asked = s.asked ∧ Z12 ((0
 : Int) = s.value ∧ Z5 (p = p ∧ IntKind.i64.wrap ((↑i : Int) + 1) = (↑s.i : Int) ∧ constA (Value.bool false) = AVal.bool false ∧ Q 0 ∧ rd = s.rd ∧ IntKind.i64.wrap ((↑n : Int) + 1) = (↑s.n : Int) ∧ ((fun (s : US) => baseW
 p s ∧ (fun (s : US) => 1 ≤ s.i) s) s ∧ s.n + (fun (s : US) => 60 + 5 * ((10 : Nat) - s.i)) s ≤ 200) ∧ (1000000 : Nat) - s.n < 1000000 - n ∧ True))))))) ∧ (decide ((↑i : Int) > 0) = false → ∃ (s : US), Z2 (w0 = w0 ∧
 IntKind.i64.wrap (steps + 1) = s.steps ∧ Z8 (c = s.c ∧ Z9 (rs ++ [Wo.mk (hashT a) (0 : Int)] = s.rs ∧ Q 32 ∧ ws = s.ws ∧ filtT ws = filtT s.ws ∧ asked = s.asked ∧ Z12 ((0 : Int) = s.value ∧ Z5 (p = p ∧ IntKind.i64.wrap
 ((↑i : Int) + 1) = (↑s.i : Int) ∧ constA (Value.bool false) = AVal.bool false ∧ Q 0 ∧ rd = s.rd ∧ IntKind.i64.wrap ((↑n : Int) + 1) = (↑s.n : Int) ∧ ((fun (s : US) => baseW p s ∧ (fun (s : US) => 1 ≤ s.i) s) s ∧ s.n +
 (fun (s : US) => 60 + 5 * ((10 : Nat) - s.i)) s ≤ 200) ∧ (1000000 : Nat) - s.n < 1000000 - n ∧ True)))))))) ∧ ((!hasB (Rs.mk (32 : Int) rs).ls (hashT a)) = false → (decide ((↑i : Int) > (↑p.length : Int)) = true → ∃ (s :
 US), Z2 (w0 = s.W ∧ IntKind.i64.wrap (steps + 1) = s.steps ∧ Z7 (rs = s.rs ∧ Q 32 ∧ ws = s.ws ∧ filtT ws = filtT s.ws ∧ asked = s.asked ∧ Qn ∧ AVal.int IntKind.i64 1 = AVal.int IntKind.i64 2 ∧ Qc 0 ∧ (0 : Int) = s.value
 ∧ (0 : Int) = s.a ∧ (0 : Int) = s.a ∧ p = p ∧ (↑i : Int) = (↑s.i : Int) ∧ constA (Value.bool false) = AVal.bool false ∧ Qc 1 ∧ rd = s.rd ∧ IntKind.i64.wrap ((↑n : Int) + 1) = (↑s.n : Int) ∧ ((fun (s : US) => baseW p s ∧
 (s.i = p.length + 1 ∧ s.W.length = 34) ∧ doneI s) s ∧ s.n + (fun (s : US) => 0) s ≤ 200) ∧ (1000000 : Nat) - s.n < 1000000 - n ∧ True))) ∧ (decide ((↑i : Int) > (↑p.length : Int)) = false → (decide ((↑i : Int) > 0) =
 true → Bi i p ∧ Bi i p ∧ (((at2 p (IntKind.i64.wrap ((↑i : Int) - 1))).kd == 0) = true → Bi i p ∧ Bi i p ∧ (rd.length + [Wo.mk (at2 p (IntKind.i64.wrap ((↑i : Int) - 1))).pl (0 : Int)].length) * 16 ≤ 140737488355328 ∧ ∃
 (s : US), Z2 (w0 = w0 ∧ IntKind.i64.wrap (steps + 1) = s.steps ∧ Z8 (c = s.c ∧ Z9 (rs = s.rs ∧ Q 32 ∧ ws = s.ws ∧ filtT ws = filtT s.ws ∧ asked = s.asked ∧ Z12 ((0 : Int) = s.value ∧ Z5 (p = p ∧ IntKind.i64.wrap ((↑i :
 Int) + 1) = (↑s.i : Int) ∧ constA (Value.bool false) = AVal.bool false ∧ Q 0 ∧ rd ++ [Wo.mk (at2 p (IntKind.i64.wrap ((↑i : Int) - 1))).pl (0 : Int)] = s.rd ∧ IntKind.i64.wrap ((↑n : Int) + 1) = (↑s.n : Int) ∧ ((fun (s :
 US) => baseW p s ∧ (fun (s : US) => 1 ≤ s.i) s) s ∧ s.n + (fun (s : US) => 60 + 5 * ((10 : Nat) - s.i)) s ≤ 200) ∧ (1000000 : Nat) - s.n < 1000000 - n ∧ True)))))) ∧ (((at2 p (IntKind.i64.wrap ((↑i : Int) - 1))).kd == 0)
 = false → ∃ (s : US), Z2 (w0 = w0 ∧ IntKind.i64.wrap (steps + 1) = s.steps ∧ Z8 (c = s.c ∧ Z9 (rs = s.rs ∧ Q 32 ∧ ws = s.ws ∧ filtT ws = filtT s.ws ∧ asked = s.asked ∧ Z12 ((0 : Int) = s.value ∧ Z5 (p = p ∧
 IntKind.i64.wrap ((↑i : Int) + 1) = (↑s.i : Int) ∧ constA (Value.bool false) = AVal.bool false ∧ Q 0 ∧ rd = s.rd ∧ IntKind.i64.wrap ((↑n : Int) + 1) = (↑s.n : Int) ∧ ((fun (s : US) => baseW p s ∧ (fun (s : US) => 1 ≤
 s.i) s) s ∧ s.n + (fun (s : US) => 60 + 5 * ((10 : Nat) - s.i)) s ≤ 200) ∧ (1000000 : Nat) - s.n < 1000000 - n ∧ True))))))) ∧ (decide ((↑i : Int) > 0) = false → ∃ (s : US), Z2 (w0 = w0 ∧ IntKind.i64.wrap (steps + 1) =
 s.steps ∧ Z8 (c = s.c ∧ Z9 (rs = s.rs ∧ Q 32 ∧ ws = s.ws ∧ filtT ws = filtT s.ws ∧ asked = s.asked ∧ Z12 ((0 : Int) = s.value ∧ Z5 (p = p ∧ IntKind.i64.wrap ((↑i : Int) + 1) = (↑s.i : Int) ∧ constA (Value.bool false) =
 AVal.bool false ∧ Q 0 ∧ rd = s.rd ∧ IntKind.i64.wrap ((↑n : Int) + 1) = (↑s.n : Int) ∧ ((fun (s : US) => baseW p s ∧ (fun (s : US) => 1 ≤ s.i) s) s ∧ s.n + (fun (s : US) => 60 + 5 * ((10 : Nat) - s.i)) s ≤ 200) ∧
 (1000000 : Nat) - s.n < 1000000 - n ∧ True))))))))))) ∧ (decide ((↑n : Int) < 200) = false → keysD.pre (Rs.mk (32 : Int) rs, ()) ∧ ws.length * 16 ≤ 140737488355328 ∧ ∃ (s : US), Z2 (w0 = s.W ∧ steps = s.steps ∧ AVal.int
 IntKind.i64 1 = AVal.int IntKind.i64 2 ∧ (0 : Int) = s.a ∧ (0 : Int) = s.a ∧ AVal.int IntKind.i64 0 = AVal.int IntKind.i64 1 ∧ ws = s.ws ∧ Qc 0 ∧ putI (0 : Nat) s ∧ (1000 : Nat) < 1000000 - n ∧ True))) := by kernel_rfl
theorem al_k6_ok (l p : List Op) (cl : Int) (s : US) (hI : (q6 p).I s) : Paid (cA l p cl 18 (q6 p) s) := by
  obtain ⟨n, i, rd, rs, ws, xi, a, c, bk, value, steps, asked, W, rows⟩ := s
  obtain ⟨⟨⟨⟨hpO, hc, hi, hrd, hrs, hws, hwd, hrr⟩, hnod⟩, hI⟩, hn⟩ := hI
  obtain ⟨hi1, hi2, hd⟩ := hI
  have hi1 : 1 ≤ i := hi1
  have hi2 : i ≤ p.length := hi2
  have hd : isData a := hd
  have hh := hash_in hd
  have hc : c = 1 ∨ c = 2 := hc
  have hi : i ≤ p.length + 1 := hi
  have hrd : rd.length ≤ i := hrd
  have hrs : rs.length ≤ i := hrs
  have hws : ws.length ≤ i := hws
  have hwd : ∀ w ∈ ws, isData w.pl := hwd
  have hrr : ∀ w ∈ rs, 0 ≤ w.pl ∧ w.pl < 3 := hrr
  have hn : n + (57 + 5 * (10 - i)) ≤ 200 := hn
  have hp8 := hpO.1
  have hn2 : n < 200 := by omega
  have hB : ∀ {n xi : Nat} {a bk value steps asked : Int} {W rows : List Int}, baseI p ⟨n, i, rd, rs, ws, xi, a, c, bk, value, steps, asked, W, rows⟩ := mkBase hpO hc hi hrd hrs hws hwd hrr
  refine ⟨?_⟩
  rw [al_k6]
  refine ⟨?_, ?_⟩
  · intro h1
    replace h1 := of_decide_eq_true h1
    first
    | (exfalso; omega)
    | (refine ⟨rfl, ?_, ?_⟩
       · intro h2
         cases h2
       · intro h3
         refine ⟨(And.intro rfl (And.intro (show (0 : Int) ≤ hashT a from hh.1) (show hashT a < (3 : Int) from hh.2))), (And.intro (show (0 : Int) ≤ (2 : Int) + hashT a from (by have := hh.1; omega)) (show (2 : Int) + hashT a < ((Mw.mk (wT (0 : Int) (0 : Int) (0 : Int) (0 : Int) (0 : Int))).ws.length : Int) from (show _ < (34 : Int) by have := hh.2; omega))), ?_, ?_, ?_, ?_⟩
         · exact ⟨(by have := hh.1; omega), (show _ < (34 : Int) by have := hh.2; omega)⟩
         · exact ⟨(by have := hh.1; omega), (show _ < (34 : Int) by have := hh.2; omega)⟩
         · intro h4
           rw [w0_s hh.1 hh.2] at h4
           cases h4
         · intro h5
           refine ⟨(And.intro rfl (show rs.length < 32 by omega)), (show rs.length ≤ 1000 by omega), ?_, ?_⟩
           · intro h6
             refine ⟨(by simp only [List.length_cons, List.length_nil, tak_len] at *; first | omega | (have := rows_take rows hr8 xi (by omega); have := rows_len _ this; omega)), ?_, ?_⟩
             · intro h7
               replace h7 := of_decide_eq_true h7
               first
               | (exfalso; omega)
               | (omega)
             · intro h8
               replace h8 := of_decide_eq_false h8
               first
               | (exfalso; omega)
               | (refine ⟨?_, ?_⟩
                  · intro h9
                    replace h9 := of_decide_eq_true h9
                    first
                    | (exfalso; omega)
                    | (refine ⟨?_, ?_, ?_, ?_⟩
                       · exact ⟨(by rw [wM (by omega)]; omega), (by rw [wM (by omega)]; omega)⟩
                       · exact ⟨(by rw [wM (by omega)]; omega), (by rw [wM (by omega)]; omega)⟩
                       · intro h10
                         refine ⟨?_, ?_, (by simp only [List.length_cons, List.length_nil, tak_len] at *; first | omega | (have := rows_take rows hr8 xi (by omega); have := rows_len _ this; omega)), ?_⟩
                         · exact ⟨(by rw [wM (by omega)]; omega), (by rw [wM (by omega)]; omega)⟩
                         · exact ⟨(by rw [wM (by omega)]; omega), (by rw [wM (by omega)]; omega)⟩
                         · exact ⟨⟨n + 1, i + 1, rd ++ [Wo.mk (at2 p (IntKind.i64.wrap ((↑i : Int) - (1 : Int)))).pl (0 : Int)], rs ++ [Wo.mk (hashT a) (0 : Int)], ws, xi, a, c, bk, (0 : Int), IntKind.i64.wrap (steps + (1 : Int)), asked, W, rows⟩, (t2 ⟨rfl, rfl, t8 ⟨rfl, t9 ⟨rfl, rfl, rfl, rfl, rfl, t12 ⟨rfl, t5 ⟨rfl, (wN (by omega)), rfl, rfl, rfl, (wN (by omega)), ⟨⟨(mkBW (mkBase hpO hc (by first | omega | (simp only [List.length_append, List.length_cons, List.length_nil, List.length_set]; omega)) (by first | omega | (simp only [List.length_append, List.length_cons, List.length_nil, List.length_set]; omega)) (by first | omega | (simp only [List.length_append, List.length_cons, List.length_nil, List.length_set]; omega)) (by first | omega | (simp only [List.length_append, List.length_cons, List.length_nil, List.length_set]; omega)) hwd (mem_snoc (P := fun x => 0 ≤ x ∧ x < 3) hrr hh)) hnod), (show (1 : Nat) ≤ (i + 1) by omega)⟩, (show (n + 1) + ((60 : Nat) + (5 : Nat) * ((10 : Nat) - (i + 1))) ≤ 200 by omega)⟩, (mA hn2), trivial⟩⟩⟩⟩⟩)⟩
                       · intro h11
                         exact ⟨⟨n + 1, i + 1, rd, rs ++ [Wo.mk (hashT a) (0 : Int)], ws, xi, a, c, bk, (0 : Int), IntKind.i64.wrap (steps + (1 : Int)), asked, W, rows⟩, (t2 ⟨rfl, rfl, t8 ⟨rfl, t9 ⟨rfl, rfl, rfl, rfl, rfl, t12 ⟨rfl, t5 ⟨rfl, (wN (by omega)), rfl, rfl, rfl, (wN (by omega)), ⟨⟨(mkBW (mkBase hpO hc (by first | omega | (simp only [List.length_append, List.length_cons, List.length_nil, List.length_set]; omega)) (by first | omega | (simp only [List.length_append, List.length_cons, List.length_nil, List.length_set]; omega)) (by first | omega | (simp only [List.length_append, List.length_cons, List.length_nil, List.length_set]; omega)) (by first | omega | (simp only [List.length_append, List.length_cons, List.length_nil, List.length_set]; omega)) hwd (mem_snoc (P := fun x => 0 ≤ x ∧ x < 3) hrr hh)) hnod), (show (1 : Nat) ≤ (i + 1) by omega)⟩, (show (n + 1) + ((60 : Nat) + (5 : Nat) * ((10 : Nat) - (i + 1))) ≤ 200 by omega)⟩, (mA hn2), trivial⟩⟩⟩⟩⟩)⟩)
                  · intro h12
                    replace h12 := of_decide_eq_false h12
                    first
                    | (exfalso; omega)
                    | (exact ⟨⟨n + 1, i + 1, rd, rs ++ [Wo.mk (hashT a) (0 : Int)], ws, xi, a, c, bk, (0 : Int), IntKind.i64.wrap (steps + (1 : Int)), asked, W, rows⟩, (t2 ⟨rfl, rfl, t8 ⟨rfl, t9 ⟨rfl, rfl, rfl, rfl, rfl, t12 ⟨rfl, t5 ⟨rfl, (wN (by omega)), rfl, rfl, rfl, (wN (by omega)), ⟨⟨(mkBW (mkBase hpO hc (by first | omega | (simp only [List.length_append, List.length_cons, List.length_nil, List.length_set]; omega)) (by first | omega | (simp only [List.length_append, List.length_cons, List.length_nil, List.length_set]; omega)) (by first | omega | (simp only [List.length_append, List.length_cons, List.length_nil, List.length_set]; omega)) (by first | omega | (simp only [List.length_append, List.length_cons, List.length_nil, List.length_set]; omega)) hwd (mem_snoc (P := fun x => 0 ≤ x ∧ x < 3) hrr hh)) hnod), (show (1 : Nat) ≤ (i + 1) by omega)⟩, (show (n + 1) + ((60 : Nat) + (5 : Nat) * ((10 : Nat) - (i + 1))) ≤ 200 by omega)⟩, (mA hn2), trivial⟩⟩⟩⟩⟩)⟩))
           · intro h13
             refine ⟨?_, ?_⟩
             · intro h14
               replace h14 := of_decide_eq_true h14
               first
               | (exfalso; omega)
               | (omega)
             · intro h15
               replace h15 := of_decide_eq_false h15
               first
               | (exfalso; omega)
               | (refine ⟨?_, ?_⟩
                  · intro h16
                    replace h16 := of_decide_eq_true h16
                    first
                    | (exfalso; omega)
                    | (refine ⟨?_, ?_, ?_, ?_⟩
                       · exact ⟨(by rw [wM (by omega)]; omega), (by rw [wM (by omega)]; omega)⟩
                       · exact ⟨(by rw [wM (by omega)]; omega), (by rw [wM (by omega)]; omega)⟩
                       · intro h17
                         refine ⟨?_, ?_, (by simp only [List.length_cons, List.length_nil, tak_len] at *; first | omega | (have := rows_take rows hr8 xi (by omega); have := rows_len _ this; omega)), ?_⟩
                         · exact ⟨(by rw [wM (by omega)]; omega), (by rw [wM (by omega)]; omega)⟩
                         · exact ⟨(by rw [wM (by omega)]; omega), (by rw [wM (by omega)]; omega)⟩
                         · exact ⟨⟨n + 1, i + 1, rd ++ [Wo.mk (at2 p (IntKind.i64.wrap ((↑i : Int) - (1 : Int)))).pl (0 : Int)], rs, ws, xi, a, c, bk, (0 : Int), IntKind.i64.wrap (steps + (1 : Int)), asked, W, rows⟩, (t2 ⟨rfl, rfl, t8 ⟨rfl, t9 ⟨rfl, rfl, rfl, rfl, rfl, t12 ⟨rfl, t5 ⟨rfl, (wN (by omega)), rfl, rfl, rfl, (wN (by omega)), ⟨⟨(mkBW (mkBase hpO hc (by first | omega | (simp only [List.length_append, List.length_cons, List.length_nil, List.length_set]; omega)) (by first | omega | (simp only [List.length_append, List.length_cons, List.length_nil, List.length_set]; omega)) (by first | omega | (simp only [List.length_append, List.length_cons, List.length_nil, List.length_set]; omega)) (by first | omega | (simp only [List.length_append, List.length_cons, List.length_nil, List.length_set]; omega)) hwd hrr) hnod), (show (1 : Nat) ≤ (i + 1) by omega)⟩, (show (n + 1) + ((60 : Nat) + (5 : Nat) * ((10 : Nat) - (i + 1))) ≤ 200 by omega)⟩, (mA hn2), trivial⟩⟩⟩⟩⟩)⟩
                       · intro h18
                         exact ⟨⟨n + 1, i + 1, rd, rs, ws, xi, a, c, bk, (0 : Int), IntKind.i64.wrap (steps + (1 : Int)), asked, W, rows⟩, (t2 ⟨rfl, rfl, t8 ⟨rfl, t9 ⟨rfl, rfl, rfl, rfl, rfl, t12 ⟨rfl, t5 ⟨rfl, (wN (by omega)), rfl, rfl, rfl, (wN (by omega)), ⟨⟨(mkBW (mkBase hpO hc (by first | omega | (simp only [List.length_append, List.length_cons, List.length_nil, List.length_set]; omega)) (by first | omega | (simp only [List.length_append, List.length_cons, List.length_nil, List.length_set]; omega)) (by first | omega | (simp only [List.length_append, List.length_cons, List.length_nil, List.length_set]; omega)) (by first | omega | (simp only [List.length_append, List.length_cons, List.length_nil, List.length_set]; omega)) hwd hrr) hnod), (show (1 : Nat) ≤ (i + 1) by omega)⟩, (show (n + 1) + ((60 : Nat) + (5 : Nat) * ((10 : Nat) - (i + 1))) ≤ 200 by omega)⟩, (mA hn2), trivial⟩⟩⟩⟩⟩)⟩)
                  · intro h19
                    replace h19 := of_decide_eq_false h19
                    first
                    | (exfalso; omega)
                    | (exact ⟨⟨n + 1, i + 1, rd, rs, ws, xi, a, c, bk, (0 : Int), IntKind.i64.wrap (steps + (1 : Int)), asked, W, rows⟩, (t2 ⟨rfl, rfl, t8 ⟨rfl, t9 ⟨rfl, rfl, rfl, rfl, rfl, t12 ⟨rfl, t5 ⟨rfl, (wN (by omega)), rfl, rfl, rfl, (wN (by omega)), ⟨⟨(mkBW (mkBase hpO hc (by first | omega | (simp only [List.length_append, List.length_cons, List.length_nil, List.length_set]; omega)) (by first | omega | (simp only [List.length_append, List.length_cons, List.length_nil, List.length_set]; omega)) (by first | omega | (simp only [List.length_append, List.length_cons, List.length_nil, List.length_set]; omega)) (by first | omega | (simp only [List.length_append, List.length_cons, List.length_nil, List.length_set]; omega)) hwd hrr) hnod), (show (1 : Nat) ≤ (i + 1) by omega)⟩, (show (n + 1) + ((60 : Nat) + (5 : Nat) * ((10 : Nat) - (i + 1))) ≤ 200 by omega)⟩, (mA hn2), trivial⟩⟩⟩⟩⟩)⟩)))
  · intro h20
    exact absurd (of_decide_eq_false h20) (by omega)
theorem al_k7_ok (l p : List Op) (cl : Int) (s : US) (hI : (q7 p).I s) : Paid (cA l p cl 18 (q7 p) s) := hI.1.2.elim
end Go.Proofs.Ytmjjljngaefpaaa
