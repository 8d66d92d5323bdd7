/- What is built may be: its parts, and its numbers. -/
import Derived.Test.YtjboohjicdmidaaDoorPb
namespace Go.Proofs.YtjboohjicdmidaaDoor
open Go.RowKit Go.Am Go.Sy
set_option linter.unusedVariables false
set_option linter.unusedSimpArgs false

def mostOf (k : K8) : Int := if pk k.h 4 = 1 then pk (IntKind.i64.wrap (k.h.tdiv 4)) 12 else 1073741824
def writesOf (k : K8) : Int := if pk k.e 5 > 0 then 32 else IntKind.i64.wrap (1 + pk k.e 12)
def oneOf (k : K8) : Int := IntKind.i64.wrap (1 + pk (IntKind.i64.wrap (k.a.tdiv 2)) 2)
def bldC (k : K8) (ps : List (List Instr)) : Config := ⟨IntKind.i64.wrap (1 + pk k.a 2), IntKind.i64.wrap (1 + pk k.b 2), IntKind.i64.wrap (1 + pk k.c 7), IntKind.i64.wrap (32 - IntKind.i64.wrap (pk k.d 4 * 9)), writesOf k, pk k.f 4, IntKind.i64.wrap (20 + pk k.g 60), mostOf k,
  [0, 1, 2, 3, 0, 1, 2, 3, 0], [⟨oneOf k, 0, 3⟩, ⟨IntKind.i64.wrap (3 - oneOf k), 3, 3⟩, ⟨3, 6, 3⟩], [0, 1, 2], ps⟩
/-- What is built: nothing is wrong with it. -/
def builtC (c : Config) : Prop := small c ∧ (∀ t : Nat, t < c.progs.length → pwC c t = (0, 0, 0)) ∧ cfgW pwC c = (0, 0, 0) ∧ c.init.length = 9 ∧ c.locks.length = 3 ∧ c.conds.length = 3

theorem pk2 (x : Int) : pk x 2 = 0 ∨ pk x 2 = 1 := by
  have := pk_is x 2 (by decide) (by decide)
  omega
theorem pk3 (x : Int) : pk x 3 = 0 ∨ pk x 3 = 1 ∨ pk x 3 = 2 := by
  have := pk_is x 3 (by decide) (by decide)
  omega
theorem pk4 (x : Int) : pk x 4 = 0 ∨ pk x 4 = 1 ∨ pk x 4 = 2 ∨ pk x 4 = 3 := by
  have := pk_is x 4 (by decide) (by decide)
  omega
/-- The two locks that are within one another. -/
theorem two_locks (y z : Int) : ∃ b, IntKind.i64.wrap (IntKind.i64.wrap (pk y 2 + 1) + IntKind.i64.wrap ((IntKind.u64.wrap z).tmod (IntKind.u64.wrap (IntKind.i64.wrap (2 - pk y 2))))) = b ∧ ((pk y 2 = 0 ∧ b = 1) ∨ (pk y 2 = 0 ∧ b = 2) ∨ (pk y 2 = 1 ∧ b = 2)) := by
  refine ⟨_, rfl, ?_⟩
  rw [two_less]
  rcases pk2 y with h | h
  · rw [h]
    have e : IntKind.i64.wrap ((IntKind.u64.wrap z).tmod (2 - 0)) = pk z 2 := rfl
    rw [e]
    rcases pk2 z with g | g
    · rw [g]; exact .inl ⟨rfl, rfl⟩
    · rw [g]; exact .inr (.inl ⟨rfl, rfl⟩)
  · rw [h]
    have e : IntKind.i64.wrap ((IntKind.u64.wrap z).tmod (2 - 1)) = pk z 1 := rfl
    rw [e]
    have g := pk_is z 1 (by decide) (by decide)
    rw [show pk z 1 = 0 by omega]
    exact .inr (.inr ⟨rfl, rfl⟩)
section
variable {k : K8} {ps : List (List Instr)}
theorem piece_good (x : Int) : GoodP (bldC k ps) (pieceL x) := by
  unfold pieceL
  refine ite_P (P := GoodP (bldC k ps)) (fun _ => ?_) fun _ => ite_P (P := GoodP (bldC k ps)) (fun _ => ?_) fun _ => ite_P (P := GoodP (bldC k ps)) (fun _ => ?_) fun _ => ite_P (P := GoodP (bldC k ps)) (fun _ => ?_) fun _ => ite_P (P := GoodP (bldC k ps)) (fun _ => ?_) fun _ => ite_P (P := GoodP (bldC k ps)) (fun _ => ?_) fun _ => ite_P (P := GoodP (bldC k ps)) (fun _ => ?_) fun _ =>
    ite_P (P := GoodP (bldC k ps)) (fun _ => ?_) fun _ => ite_P (P := GoodP (bldC k ps)) (fun _ => ?_) fun _ => ite_P (P := GoodP (bldC k ps)) (fun _ => ?_) fun _ => ite_P (P := GoodP (bldC k ps)) (fun _ => ?_) fun _ => ite_P (P := GoodP (bldC k ps)) (fun _ => ?_) fun _ => ?_
  · rcases pk4 (qv x) with h | h | h | h <;> rw [h] <;> exact ⟨by kernel_rfl, fun σ => by kernel_rfl, fun tp lp => by kernel_rfl⟩
  · exact ⟨by kernel_rfl, fun σ => by kernel_rfl, fun tp lp => by kernel_rfl⟩
  · rcases pk3 (qv x) with h | h | h <;> rw [h] <;> exact ⟨by kernel_rfl, fun σ => by kernel_rfl, fun tp lp => by kernel_rfl⟩
  · rcases pk3 (qv x) with h | h | h <;> rw [h] <;> exact ⟨by kernel_rfl, fun σ => by kernel_rfl, fun tp lp => by kernel_rfl⟩
  · obtain ⟨b, e, h⟩ := two_locks (qv x) (IntKind.i64.wrap ((qv x).tdiv 2))
    rw [e]
    rcases h with ⟨h, rfl⟩ | ⟨h, rfl⟩ | ⟨h, rfl⟩ <;> rw [h] <;> exact ⟨by kernel_rfl, fun σ => by kernel_rfl, fun tp lp => by kernel_rfl⟩
  · exact ⟨by kernel_rfl, fun σ => by kernel_rfl, fun tp lp => by kernel_rfl⟩
  all_goals rcases pk3 (qv x) with h | h | h <;> rw [h] <;> exact ⟨by kernel_rfl, fun σ => by kernel_rfl, fun tp lp => by kernel_rfl⟩
theorem progGo_good (l : List Int) : ∀ (r i : Nat) (p : List Instr), GoodP (bldC k ps) p → p.length ≤ 48 → GoodP (bldC k ps) (progGo l r i p) ∧ (progGo l r i p).length ≤ 48
  | 0, i, p, h, hl => ⟨h, hl⟩
  | r + 1, i, p, h, hl => by
    rw [progGo]
    by_cases g : (p.length : Int) < 34
    · rw [if_pos g]
      refine progGo_good l r (i + 1) _ (h.append (piece_good _)) ?_
      have := piece_len (at0 l i)
      rw [List.length_append]
      omega
    · rw [if_neg g]
      exact ⟨h, hl⟩
theorem progL_good (t : Nat) (l : List Int) : progP (bldC k ps) t (progL l) = (0, 0, 0) := by
  have h := progGo_good (k := k) (ps := ps) l l.length 0 [⟨1, 1, 0, 0, 1⟩] ⟨by kernel_rfl, fun σ => by kernel_rfl, fun tp lp => by kernel_rfl⟩ (by decide)
  exact progP_good h.1 h.2
theorem nil_good (t : Nat) : progP (bldC k ps) t [] = (0, 0, 0) := progP_good ⟨by kernel_rfl, fun σ => by kernel_rfl, fun tp lp => by kernel_rfl⟩ (by decide)
theorem one_is : oneOf k = 1 ∨ oneOf k = 2 := by
  unfold oneOf
  rcases pk2 (IntKind.i64.wrap (k.a.tdiv 2)) with h | h <;> rw [h]
  · exact .inl rfl
  · exact .inr rfl
theorem wi_yes {n lo hi : Int} (h0 : lo ≤ n) (h1 : n ≤ hi) : wi n lo hi = true := by
  unfold wi
  rw [decide_eq_true h0, decide_eq_true h1]
  rfl
theorem plain_of (c : Config) (h1 : 1 ≤ c.engine ∧ c.engine ≤ 2) (h2 : 1 ≤ c.clock ∧ c.clock ≤ 2) (h3 : 1 ≤ c.stripes ∧ c.stripes ≤ 16) (h4 : 1 ≤ c.reads ∧ c.reads ≤ 32) (h5 : 1 ≤ c.writes ∧ c.writes ≤ 32) (h6 : 0 ≤ c.retry ∧ c.retry ≤ 8) (h7 : 0 ≤ c.fuel ∧ c.fuel ≤ 400) (h8 : 0 ≤ c.most ∧ c.most ≤ 1099511627776)
    (h9 : c.init.length ≤ 32) (h10 : c.locks.length ≤ 4) (h11 : c.conds.length ≤ 4) (h12 : (1 : Int) ≤ c.progs.length ∧ (c.progs.length : Int) ≤ 4) : plainB c = true := by
  simp only [plainB, Bool.and_eq_true, decide_eq_true_eq]
  exact ⟨wi_yes h1.1 h1.2, wi_yes h2.1 h2.2, wi_yes h3.1 h3.2, wi_yes h4.1 h4.2, wi_yes h5.1 h5.2, wi_yes h6.1 h6.2, wi_yes h7.1 h7.2, h8.1, h8.2, by omega, by omega, by omega, wi_yes h12.1 h12.2⟩
theorem plain_good (h1 : 1 ≤ ps.length) (h3 : ps.length ≤ 3) : plainB (bldC k ps) = true := by
  have ha := pk_is k.a 2 (by decide) (by decide)
  have hb := pk_is k.b 2 (by decide) (by decide)
  have hc := pk_is k.c 7 (by decide) (by decide)
  have hd := pk_is k.d 4 (by decide) (by decide)
  have he := pk_is k.e 12 (by decide) (by decide)
  have hf := pk_is k.f 4 (by decide) (by decide)
  have hf2 : 0 ≤ pk k.f 4 ∧ pk k.f 4 ≤ 8 := by omega
  have hg := pk_is k.g 60 (by decide) (by decide)
  have hm := pk_is (IntKind.i64.wrap (k.h.tdiv 4)) 12 (by decide) (by decide)
  have hw : 1 ≤ writesOf k ∧ writesOf k ≤ 32 := by
    unfold writesOf
    split
    · omega
    · rw [wrap64 (by omega) (by omega)]; omega
  have hq : 0 ≤ mostOf k ∧ mostOf k ≤ 1099511627776 := by
    unfold mostOf
    split
    · omega
    · omega
  have w1 : IntKind.i64.wrap (1 + pk k.a 2) = 1 + pk k.a 2 := wrap64 (by omega) (by omega)
  have w2 : IntKind.i64.wrap (1 + pk k.b 2) = 1 + pk k.b 2 := wrap64 (by omega) (by omega)
  have w3 : IntKind.i64.wrap (1 + pk k.c 7) = 1 + pk k.c 7 := wrap64 (by omega) (by omega)
  have w4 : IntKind.i64.wrap (32 - IntKind.i64.wrap (pk k.d 4 * 9)) = 32 - pk k.d 4 * 9 := by rw [wrap64 (n := pk k.d 4 * 9) (by omega) (by omega), wrap64 (by omega) (by omega)]
  have w5 : IntKind.i64.wrap (20 + pk k.g 60) = 20 + pk k.g 60 := wrap64 (by omega) (by omega)
  refine plain_of (bldC k ps) ?_ ?_ ?_ ?_ hw hf2 ?_ hq (show 9 ≤ 32 by decide) (show 3 ≤ 4 by decide) (show 3 ≤ 4 by decide) ⟨by show (1 : Int) ≤ ps.length; omega, by show (ps.length : Int) ≤ 4; omega⟩
  · show 1 ≤ IntKind.i64.wrap (1 + pk k.a 2) ∧ IntKind.i64.wrap (1 + pk k.a 2) ≤ 2
    rw [w1]; omega
  · show 1 ≤ IntKind.i64.wrap (1 + pk k.b 2) ∧ IntKind.i64.wrap (1 + pk k.b 2) ≤ 2
    rw [w2]; omega
  · show 1 ≤ IntKind.i64.wrap (1 + pk k.c 7) ∧ IntKind.i64.wrap (1 + pk k.c 7) ≤ 16
    rw [w3]; omega
  · show 1 ≤ IntKind.i64.wrap (32 - IntKind.i64.wrap (pk k.d 4 * 9)) ∧ IntKind.i64.wrap (32 - IntKind.i64.wrap (pk k.d 4 * 9)) ≤ 32
    rw [w4]; omega
  · show 0 ≤ IntKind.i64.wrap (20 + pk k.g 60) ∧ IntKind.i64.wrap (20 + pk k.g 60) ≤ 400
    rw [w5]; omega
theorem locks_fine : ∀ j, j < 3 → (lockF (bldC k ps) j).1 = 0 := by
  intro j hj
  have : j = 0 ∨ j = 1 ∨ j = 2 := by omega
  generalize hc : bldC k ps = c
  have hl : c.locks = [⟨oneOf k, 0, 3⟩, ⟨IntKind.i64.wrap (3 - oneOf k), 3, 3⟩, ⟨3, 6, 3⟩] := by rw [← hc]; rfl
  have hn : c.init.length = 9 := by rw [← hc]; rfl
  unfold lockF lockOk
  rw [hl, hn]
  rcases one_is (k := k) with h | h <;> rw [h] <;> rcases this with rfl | rfl | rfl <;> rfl
theorem conds_fine : ∀ j, j < 3 → (condF (bldC k ps) j).1 = 0 := by
  intro j hj
  have : j = 0 ∨ j = 1 ∨ j = 2 := by omega
  rcases this with rfl | rfl | rfl <;> rfl
theorem built_of (h1 : 1 ≤ ps.length) (h3 : ps.length ≤ 3) (hp : ∀ p ∈ ps, p = [] ∨ ∃ l, p = progL l) : builtC (bldC k ps) := by
  have hpw : ∀ t : Nat, t < ps.length → pwC (bldC k ps) t = (0, 0, 0) := by
    intro t ht
    have e : at3 ps (t : Int) = ps[t] := at3_get ht
    show progP (bldC k ps) t (at3 ps t) = _
    rw [e]
    rcases hp _ (List.getElem_mem ht) with q | ⟨l, q⟩
    · rw [q]; exact nil_good t
    · rw [q]; exact progL_good t l
  refine ⟨⟨by show 9 ≤ 1000; decide, by show 3 ≤ 1000; decide, by show 3 ≤ 1000; decide, by show ps.length ≤ 1000; omega⟩, hpw, ?_, rfl, rfl, rfl⟩
  rw [cfgW, plain_good h1 h3, if_neg (by decide)]
  have e1 : (scan (lockF (bldC k ps)) (bldC k ps).locks.length).1 = 0 := locks_good locks_fine
  have e2 : (scan (condF (bldC k ps)) (bldC k ps).conds.length).1 = 0 := conds_good conds_fine
  rw [if_pos e1, if_pos e2]
  suffices h : ∀ n, n ≤ ps.length → scan (pwC (bldC k ps)) n = (0, 0, 0) from h _ (Nat.le_refl _)
  intro n
  induction n with
  | zero => intro _; rfl
  | succ n ih =>
    intro hn
    rw [scan, ih (by omega), if_pos rfl]
    exact hpw n (by omega)
end
end Go.Proofs.YtjboohjicdmidaaDoor
