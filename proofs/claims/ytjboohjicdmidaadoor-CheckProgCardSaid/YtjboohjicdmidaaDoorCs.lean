/- check.Config and the document's: what they answer. -/
import Derived.Test.YtjboohjicdmidaaDoorBp
namespace Go.Proofs.YtjboohjicdmidaaDoor
open Go.RowKit Go.Am Go.Sy
set_option linter.unusedVariables false

abbrev W3 := Int × Int × Int
/-- An error out of a code (0: none), a thread, a place. -/
def errV (w : W3) : AVal := if w.1 = 0 then .nili else ch w.1 [⟨w.2.1, w.2.2⟩]
/-- What is wrong first, of so many. -/
def scan (f : Nat → W3) : Nat → W3
  | 0 => (0, 0, 0)
  | n + 1 => if (scan f n).1 = 0 then f n else scan f n
theorem scan_zero {f : Nat → W3} (h0 : ∀ k, (f k).1 = 0 → f k = (0, 0, 0)) : ∀ {n : Nat}, (∀ k, k < n → (f k).1 = 0) → scan f n = (0, 0, 0)
  | 0, _ => rfl
  | n + 1, h => by
    rw [scan, scan_zero h0 fun k hk => h k (by omega), if_pos rfl]
    exact h0 n (h n (by omega))
theorem scan_at {f : Nat → W3} (h0 : ∀ k, (f k).1 = 0 → f k = (0, 0, 0)) {i : Nat} (h : ∀ k, k < i → (f k).1 = 0) (hi : (f i).1 ≠ 0) : ∀ {n : Nat}, i < n → scan f n = f i
  | 0, hn => by omega
  | n + 1, hn => by
    rcases Nat.lt_or_ge i n with k | k
    · have := scan_at h0 h hi k
      rw [scan, this, if_neg hi]
    · obtain rfl : i = n := by omega
      rw [scan, scan_zero h0 h, if_pos rfl]

def wi (n lo hi : Int) : Bool := decide (n ≥ lo) && decide (n ≤ hi)
def plainB (c : Config) : Bool := wi c.engine 1 2 && (wi c.clock 1 2 && (wi c.stripes 1 16 && (wi c.reads 1 32 && (wi c.writes 1 32 && (wi c.retry 0 8 && (wi c.fuel 0 400 && (decide (c.most ≥ 0) && (decide (c.most ≤ 1099511627776) &&
  (decide ((c.init.length : Int) ≤ 32) && (decide ((c.locks.length : Int) ≤ 4) && (decide ((c.conds.length : Int) ≤ 4) && wi c.progs.length 1 4)))))))))))
def ownOk (n : Int) (x : Lock) : Bool := wi x.kind 1 3 && (decide (x.len ≥ 0) && (wi x.fr 0 n && decide (x.len ≤ IntKind.i64.wrap (n - x.fr))))
def clash (x y : Lock) : Bool := decide (x.len > 0) && (decide (y.len > 0) && (decide (x.fr < IntKind.i64.wrap (y.fr + y.len)) && decide (y.fr < IntKind.i64.wrap (x.fr + x.len))))
def lockOk (c : Config) (l : Nat) : Bool := ownOk c.init.length (at1 c.locks l) && !((c.locks.take l).any (clash (at1 c.locks l)))
def lockF (c : Config) (l : Nat) : W3 := if lockOk c l = true then (0, 0, 0) else (6, -1, l)
def condF (c : Config) (i : Nat) : W3 := if at0 c.conds i < 0 ∨ at0 c.conds i ≥ c.locks.length then (9, -1, i) else if (at1 c.locks (at0 c.conds i)).len = 0 then (6, -1, i) else (0, 0, 0)
theorem lockF_0 (c : Config) : ∀ k, (lockF c k).1 = 0 → lockF c k = (0, 0, 0) := by
  intro k h
  unfold lockF at h ⊢
  split at h
  · rename_i e; rw [if_pos e]
  · cases h
theorem condF_0 (c : Config) : ∀ k, (condF c k).1 = 0 → condF c k = (0, 0, 0) := by
  intro k h
  unfold condF at h ⊢
  split at h
  · cases h
  · split at h
    · cases h
    · rename_i e1 e2; rw [if_neg e1, if_neg e2]
/-- What is wrong first; pw: of a thread's program. -/
def cfgW (pw : Config → Nat → W3) (c : Config) : W3 := if plainB c = false then (1, -1, -1) else
  if (scan (lockF c) c.locks.length).1 = 0 then (if (scan (condF c) c.conds.length).1 = 0 then scan (pw c) c.progs.length else scan (condF c) c.conds.length) else scan (lockF c) c.locks.length

def wiD : CtrD cod where
  pats := [.int .i64, .int .i64, .int .i64]
  pre := fun x => True
  res := fun (x : Int × Int × Int × Unit) => .b (wi x.1 x.2.1 x.2.2.1)
  objs := fun x => []
def plD : CtrD cod where
  pats := [.row 4]
  pre := fun x => True
  res := fun (x : Config × Unit) => .b (plainB x.1)
  objs := fun x => []
def small (c : Config) : Prop := c.init.length ≤ 1000 ∧ c.locks.length ≤ 1000 ∧ c.conds.length ≤ 1000 ∧ c.progs.length ≤ 1000
def lmD : CtrD cod where
  pats := [.row 4, .int .i64]
  pre := fun (x : Config × Int × Unit) => small x.1 ∧ 0 ≤ x.2.1 ∧ x.2.1 < x.1.locks.length
  res := fun (x : Config × Int × Unit) => .b (lockOk x.1 x.2.1.toNat)
  objs := fun x => []
def lmC (c : Config) (l : Nat) : CutD cod := ⟨Nat, fun k => small c ∧ k ≤ l ∧ l < c.locks.length ∧ ownOk c.init.length (at1 c.locks l) = true ∧ ∀ y ∈ (c.locks.take l).take k, clash (at1 c.locks l) y = false, fun k => l - k,
  fun k => [(5, .ptr 0 0), (45, .tl (T := T) 1 (c.locks.take l)), (46, .i .i64 l), (47, .i .i64 k)], fun _ => [.cells (enc1 (at1 c.locks l))]⟩
def lmF (c : Config) (l : Nat) : FnD cod := ⟨[(5, lmC c l)], .b (lockOk c l), []⟩

/-! ### errors.As, at an error of these -/
noncomputable def asCtrE : Ctr cod := fun wlo args h K => match args with
  | [.a v, .iface q (.ptr id off)] => match hget h id with
    | some (.cells cs) => if q = 72 ∧ wlo ≤ id ∧ off < cs.length then
        .ex W3 fun w => .need (v = errV w) (.fork (w.1 == 0) (K (.b false) h) (K (.b true) (h.set id (some (.cells (cs.take off ++ [.a (.ipt [.int .i64 w.2.1, .int .i64 w.2.2, newV w.1])] ++ cs.drop (off + 1)))))))
      else .stuck "as: where"
    | _ => .stuck "as: gone"
  | _ => .stuck "as"
theorem asCtrE_ok : CtrOk1 F.S 29 asCtrE := by
  intro E lo wlo args h H K av hh hS hA
  unfold asCtrE at hh
  split at hh
  · rename_i v q id off
    obtain ⟨a0, as', rfl, h1, hA1⟩ := hA.inv_cons
    obtain ⟨a1, as'', rfl, h2, hA2⟩ := hA1.inv_cons
    obtain rfl := hA2.inv_nil
    clear hA hA1 hA2
    obtain rfl := er_a h1
    split at hh
    · rename_i cs ho
      split at hh
      · rename_i hc
        obtain ⟨rfl, hw, hoff⟩ := hc
        obtain ⟨w, hv, hh⟩ := hh
        cases h2 with
        | iface h2 =>
        cases h2 with
        | ptr hb =>
        rename_i bb
        obtain ⟨b', xs, g1, gw, g2, g3⟩ := hS.obj id _ (hget_some ho)
        rw [hb] at g1
        simp only [Option.some.injEq] at g1
        subst g1
        have hlo := hS.low id bb hw hb
        have hl := g3.1
        rcases fork_cases hh with ⟨hz, hh⟩ | ⟨hz, hh⟩
        · have hz : w.1 = 0 := by simpa using hz
          rw [errV, if_pos hz] at hv
          subst hv
          exact ⟨.bool false, H, .b false, _, E, ⟨0, rfl⟩, LeN.refl _ _, by simp, hS, by simp, .b _, hh⟩
        · have hz : ¬ w.1 = 0 := by simpa using hz
          rw [errV, if_neg hz] at hv
          subst hv
          refine ⟨.bool true, H.set bb (some (.cells (splice xs off [.ipt [.int .i64 w.2.1, .int .i64 w.2.2, newV w.1]]))), .b true, _, E, ⟨0, ?_⟩, LeN.refl _ _, by simp, hS.upd (hget_some ho) (by simp) ?_ ?_, by simp, .b _, hh⟩
          · show asHook lo [ch w.1 [⟨w.2.1, w.2.2⟩], .iface 72 (.ptr bb off)] H = _
            rw [ch_cons, ch_nil]
            unfold asHook
            simp only [g2]
            have hn : nk (.ipt [.int .i64 w.2.1, .int .i64 w.2.2, newV w.1]) = some (.p, false) := rfl
            simp only [hn]
            rw [if_pos ⟨trivial, hlo, by omega⟩]
            rfl
          · intro q hq hne
            rw [List.getElem?_set] at hne
            split at hne
            · rename_i e; rw [← e]; exact hb
            · exact (hne rfl).elim
          · refine ⟨bb, _, hb, gw, by rw [List.getElem?_set, if_pos rfl, if_pos (lt_of_some g2)], ?_⟩
            exact ((g3.take off).append (.cons (.a _) .nil)).append (g3.drop (off + 1))
      · exact (stuck_no hh).elim
    · exact (stuck_no hh).elim
  · exact (stuck_no hh).elim

/-! ### check.Config -/
def progD (Q : Config → Prop) (pw : Config → Nat → W3) : CtrD cod where
  pats := [.row 4, .int .i64]
  pre := fun (x : Config × Int × Unit) => Q x.1 ∧ 0 ≤ x.2.1 ∧ x.2.1 < x.1.progs.length
  res := fun (x : Config × Int × Unit) => .a (errV (pw x.1 x.2.1.toNat))
  objs := fun x => []
def cfgD (Q : Config → Prop) (pw : Config → Nat → W3) : CtrD cod where
  pats := [.row 4]
  pre := fun (x : Config × Unit) => Q x.1 ∧ small x.1
  res := fun (x : Config × Unit) => .a (errV (cfgW pw x.1))
  objs := fun x => []
def cfC4 (c : Config) : CutD cod := ⟨Nat, fun i => i ≤ c.locks.length ∧ plainB c = true ∧ ∀ k, k < i → (lockF c k).1 = 0, fun i => 4000 - i,
  fun i => [(1, .ptr 0 0), (15, .i .i64 c.locks.length), (16, .i .i64 i)], fun _ => [.cells (enc4 c)]⟩
def cfC10 (c : Config) : CutD cod := ⟨Nat, fun i => i ≤ c.conds.length ∧ plainB c = true ∧ (scan (lockF c) c.locks.length).1 = 0 ∧ ∀ k, k < i → (condF c k).1 = 0, fun i => 2500 - i,
  fun i => [(1, .ptr 0 0), (28, .tl (T := T) 0 c.conds), (29, .i .i64 c.conds.length), (30, .i .i64 i)], fun _ => [.cells (enc4 c)]⟩
def cfC18 (pw : Config → Nat → W3) (c : Config) : CutD cod := ⟨Nat, fun i => i ≤ c.progs.length ∧ plainB c = true ∧ (scan (lockF c) c.locks.length).1 = 0 ∧ (scan (condF c) c.conds.length).1 = 0 ∧ ∀ k, k < i → (pw c k).1 = 0, fun i => 1000 - i,
  fun i => [(1, .ptr 0 0), (57, .tl (T := T) 3 c.progs), (58, .i .i64 c.progs.length), (59, .i .i64 i)], fun _ => [.cells (enc4 c)]⟩
def cfF (pw : Config → Nat → W3) (c : Config) : FnD cod := ⟨[(4, cfC4 c), (10, cfC10 c), (18, cfC18 pw c)], .a (errV (cfgW pw c)), []⟩
noncomputable def b28 : Code := Tryd.f28.body.getD .skip
noncomputable def b24 : Code := Tryd.f24.body.getD .skip
noncomputable def b27 : Code := Tryd.f27.body.getD .skip
noncomputable def b12 : Code := Tryd.f12.body.getD .skip
noncomputable def k1 : List (FuncId × Ctr cod) := [(28, mkCtr wiD)]
noncomputable def k2 (Q : Config → Prop) (pw : Config → Nat → W3) : List (FuncId × Ctr cod) := [(28, mkCtr wiD), (24, mkCtr plD), (27, mkCtr lmD), (26, mkCtr newD), (25, mkCtr putC), (16, mkCtr (progD Q pw)), (29, asCtrE)]

/-! ### The document's -/
def lkW (c : Config) : Int × Int := if (scan (lockF c) c.locks.length).1 = 0 then (if (scan (condF c) c.conds.length).1 = 0 then (0, -1) else ((scan (condF c) c.conds.length).1, (scan (condF c) c.conds.length).2.2))
  else ((scan (lockF c) c.locks.length).1, (scan (lockF c) c.locks.length).2.2)
def rlD : CtrD cod where
  pats := [.row 4]
  pre := fun (x : Config × Unit) => small x.1
  res := fun (x : Config × Unit) => .tup [.i .i64 (lkW x.1).1, .i .i64 (lkW x.1).2]
  objs := fun x => []
def rlC3 (c : Config) : CutD cod := ⟨Nat, fun i => i ≤ c.locks.length ∧ ∀ k, k < i → (lockF c k).1 = 0, fun i => 3000000 - 2000 * i,
  fun i => [(1, .ptr 0 0), (4, .i .i64 c.init.length), (5, .i .i64 i)], fun _ => [.cells (enc4 c)]⟩
def rlC9 (c : Config) : CutD cod := ⟨Nat × Nat, fun s => s.1 < c.locks.length ∧ s.2 ≤ s.1 ∧ (∀ k, k < s.1 → (lockF c k).1 = 0) ∧ ownOk c.init.length (at1 c.locks s.1) = true ∧ ∀ y ∈ c.locks.take s.2, clash (at1 c.locks s.1) y = false, fun s => 3000000 - 2000 * s.1 - 1 - s.2,
  fun s => [(1, .ptr 0 0), (4, .i .i64 c.init.length), (5, .i .i64 s.1), (6, .ptr 1 0), (7, .i .i64 s.2)], fun s => [.cells (enc4 c), .cells (enc1 (at1 c.locks s.1))]⟩
def rlC15 (c : Config) : CutD cod := ⟨Nat, fun i => i ≤ c.conds.length ∧ (scan (lockF c) c.locks.length).1 = 0 ∧ ∀ k, k < i → (condF c k).1 = 0, fun i => 1000 - i,
  fun i => [(1, .ptr 0 0), (9, .i .i64 i)], fun _ => [.cells (enc4 c)]⟩
def rlF (c : Config) : FnD cod := ⟨[(3, rlC3 c), (9, rlC9 c), (15, rlC15 c)], .tup [.i .i64 (lkW c).1, .i .i64 (lkW c).2], []⟩
def rpD (Q : Config → Prop) (pw : Config → Nat → W3) : CtrD cod where
  pats := [.row 4, .int .i64]
  pre := fun (x : Config × Int × Unit) => Q x.1 ∧ 0 ≤ x.2.1 ∧ x.2.1 < x.1.progs.length
  res := fun (x : Config × Int × Unit) => .tup [.i .i64 (pw x.1 x.2.1.toNat).1, .i .i64 (pw x.1 x.2.1.toNat).2.2]
  objs := fun x => []
def rcD (Q : Config → Prop) (pw : Config → Nat → W3) : CtrD cod where
  pats := [.row 4]
  pre := fun (x : Config × Unit) => Q x.1 ∧ small x.1
  res := fun (x : Config × Unit) => .tup [.i .i64 (cfgW pw x.1).1, .i .i64 (cfgW pw x.1).2.1, .i .i64 (cfgW pw x.1).2.2]
  objs := fun x => []
def rcC9 (pw : Config → Nat → W3) (c : Config) : CutD cod := ⟨Nat, fun i => i ≤ c.progs.length ∧ plainB c = true ∧ (scan (lockF c) c.locks.length).1 = 0 ∧ (scan (condF c) c.conds.length).1 = 0 ∧ ∀ k, k < i → (pw c k).1 = 0, fun i => 1000 - i,
  fun i => [(1, .ptr 0 0), (7, .i .i64 i)], fun _ => [.cells (enc4 c)]⟩
def rcF (pw : Config → Nat → W3) (c : Config) : FnD cod := ⟨[(9, rcC9 pw c)], .tup [.i .i64 (cfgW pw c).1, .i .i64 (cfgW pw c).2.1, .i .i64 (cfgW pw c).2.2], []⟩
noncomputable def b51 : Code := Tryd.f51.body.getD .skip
noncomputable def b35 : Code := Tryd.f35.body.getD .skip
noncomputable def k3 (Q : Config → Prop) (pw : Config → Nat → W3) : List (FuncId × Ctr cod) := [(51, mkCtr rlD), (52, mkCtr (rpD Q pw))]

/-! ### asks -/
def akD (Q : Config → Prop) : CtrD cod where
  pats := [.row 4]
  pre := fun (x : Config × Unit) => Q x.1 ∧ small x.1
  res := fun x => .b true
  objs := fun x => []
structure AkS where
  e : AVal
  w : W3
def akC (w : W3) : CutD cod := ⟨AVal, fun e => e = errV w, fun _ => 0, fun e => [(3, .a e), (4, .i .i64 w.1), (5, .i .i64 w.2.1), (6, .i .i64 w.2.2)], fun _ => []⟩
def akF (w : W3) : FnD cod := ⟨[(3, akC w)], .b true, []⟩
noncomputable def b21 : Code := Tryd.f21.body.getD .skip
noncomputable def k4 (Q : Config → Prop) (pw : Config → Nat → W3) : List (FuncId × Ctr cod) := [(12, mkCtr (cfgD Q pw)), (35, mkCtr (rcD Q pw)), (20, mkCtr whereD), (13, mkCtr codeD), (36, mkCtr trailD)]
end Go.Proofs.YtjboohjicdmidaaDoor
