/- The contracts of blame's are paid. -/
import Derived.Test.YtjboohjicdmidaaDoorBd
namespace Go.Proofs.YtjboohjicdmidaaDoor
open Go.RowKit Go.Am Go.Sy
set_option linter.unusedVariables false

theorem new_e (c : Int) : Go.Sy.Tree.holds (entryX F (lookC l0) 200 Tryd.f26 b26 ⟨[], .a (newV c), []⟩ [.i .i64 c]) = ( ((c == 1) = true → AVal.iface (135 : TypeId) (AVal.eptr (0 : Nat) [AVal.str [(99 : UInt8), 111, 100,
 101, 32, 49]]) = newV c ∧ True) ∧ ((c == 1) = false → ((c == 2) = true → AVal.iface (135 : TypeId) (AVal.eptr (1 : Nat) [AVal.str [(99 : UInt8), 111, 100, 101, 32, 50]]) = newV c ∧ True) ∧ ((c == 2) = false → ((c == 3) =
 true → AVal.iface (135 : TypeId) (AVal.eptr (2 : Nat) [AVal.str [(99 : UInt8), 111, 100, 101, 32, 51]]) = newV c ∧ True) ∧ ((c == 3) = false → ((c == 4) = true → AVal.iface (135 : TypeId) (AVal.eptr (3 : Nat) [AVal.str
 [(99 : UInt8), 111, 100, 101, 32, 52]]) = newV c ∧ True) ∧ ((c == 4) = false → ((c == 5) = true → AVal.iface (135 : TypeId) (AVal.eptr (4 : Nat) [AVal.str [(99 : UInt8), 111, 100, 101, 32, (53 : UInt8)]]) = newV c ∧
 True) ∧ ((c == 5) = false → ((c == 6) = true → AVal.iface (135 : TypeId) (AVal.eptr (5 : Nat) [AVal.str [(99 : UInt8), 111, 100, 101, 32, (54 : UInt8)]]) = newV c ∧ True) ∧ ((c == 6) = false → ((c == 7) = true →
 AVal.iface (135 : TypeId) (AVal.eptr (6 : Nat) [AVal.str [(99 : UInt8), 111, 100, 101, 32, (55 : UInt8)]]) = newV c ∧ True) ∧ ((c == 7) = false → ((c == 8) = true → AVal.iface (135 : TypeId) (AVal.eptr (7 : Nat)
 [AVal.str [(99 : UInt8), 111, 100, 101, 32, (56 : UInt8)]]) = newV c ∧ True) ∧ ((c == 8) = false → ((c == 9) = true → AVal.iface (135 : TypeId) (AVal.eptr (8 : Nat) [AVal.str [(99 : UInt8), 111, 100, 101, (32 : UInt8),
 57]]) = newV c ∧ True) ∧ ((c == 9) = false → ((c == 10) = true → AVal.iface (135 : TypeId) (AVal.eptr (9 : Nat) [AVal.str [(99 : UInt8), 111, 100, 101, (32 : UInt8), 49, 48]]) = newV c ∧ True) ∧ ((c == 10) = false →
 constA Value.nilIface = newV c ∧ True))))))))))) := by kernel_rfl
theorem put_e (u : TypeId) (a : AVal) (t p : Int) : Go.Sy.Tree.holds (entryX F (lookC l0) 200 Tryd.f25 b25 (putF u a t p) [.a (.iface u a), .i .i64 t, .i .i64 p]) = ( t = t ∧ p = p ∧ AVal.iface u a = AVal.iface u a ∧
 True) := by kernel_rfl
theorem is_e (c d : Int) (e : AVal) : Go.Sy.Tree.holds (entryX F (lookC l0) 200 Tryd.f44 b44 (isF c d) [.a e, .a (newV d), .b true]) = ( ∃ (s : ErS), e = s.e ∧ newV d = newV d ∧ true = true ∧ s.e = ch c s.l ∧ True) := by
 kernel_rfl
theorem is_c0 (c d : Int) (l : List P) (i : Nat) (xs : List AVal) : Go.Sy.Tree.holds (cutVC F (lookC l0) 200 Tryd.f44 b44 (isF c d) 1 (isC c d) ⟨.iface 135 (.eptr i xs), l⟩) = ( (true = true → ((i == (d - 1).toNat) = true
 → true = (c == d) ∧ True) ∧ ((i == (d - 1).toNat) = false → false = (c == d) ∧ True)) ∧ (true = false → false = (c == d) ∧ True)) := by kernel_rfl
theorem is_c1 (c d : Int) (l : List P) (t p : Int) (u : TypeId) (a : AVal) : Go.Sy.Tree.holds (cutVC F (lookC l0) 200 Tryd.f44 b44 (isF c d) 1 (isC c d) ⟨.iface 70 (.ipt [.int .i64 t, .int .i64 p, .iface u a]), l⟩) = (
 (true = true → (false = true → true = (c == d) ∧ True) ∧ (false = false → ∃ (s : ErS), AVal.iface u a = s.e ∧ newV d = newV d ∧ true = true ∧ s.e = ch c s.l ∧ s.l.length < l.length ∧ True)) ∧ (true = false → ∃ (s : ErS),
 AVal.iface u a = s.e ∧ newV d = newV d ∧ true = true ∧ s.e = ch c s.l ∧ s.l.length < l.length ∧ True)) := by kernel_rfl
theorem Is_e (c d : Int) (u : TypeId) (a : AVal) : Go.Sy.Tree.holds (entryX F (lookC l3) 200 Tryd.f30 b30 ⟨[], .b (c == d), []⟩ [.a (.iface u a), .a (newV d)]) = ( ∃ (y : Int × List P), AVal.iface u a = ch y.fst y.snd ∧ ∃
 (y_1 : Int), newV d = newV y_1 ∧ isD.pre (y, y_1, true, ()) ∧ (y.fst == y_1) = (c == d) ∧ True) := by kernel_rfl
theorem code_e (c : Int) (l : List P) : Go.Sy.Tree.holds (entryX F (lookC l4) 200 Tryd.f13 b13 (codeF c l) [.a (ch c l)]) = ( ∃ (s : Int), ch c l = ch c l ∧ (1 : Int) = s ∧ ((1 : Int) ≤ s ∧ s ≤ c) ∧ True) := by kernel_rfl
theorem code_c (c : Int) (l : List P) (i : Int) : Go.Sy.Tree.holds (cutVC F (lookC l4) 200 Tryd.f13 b13 (codeF c l) 2 (codeC c l) i) = ( (decide (i ≤ 10) = true → newD.pre (i, ()) ∧ ∃ (y : Int × List P), ch c l = ch y.fst
 y.snd ∧ ∃ (y_1 : Int), newV i = newV y_1 ∧ IsD.pre (y, y_1, ()) ∧ ((y.fst == y_1) = true → i = c ∧ True) ∧ ((y.fst == y_1) = false → ∃ (s : Int), ch c l = ch c l ∧ IntKind.i64.wrap (i + 1) = s ∧ ((1 : Int) ≤ s ∧ s ≤ c) ∧
 (c - s).toNat < (c - i).toNat ∧ True)) ∧ (decide (i ≤ 10) = false → (0 : Int) = c ∧ True)) := by kernel_rfl
theorem where_e0 (i : Nat) (xs : List AVal) : Go.Sy.Tree.holds (entryX F (lookC l2) 200 Tryd.f20 b20 ⟨[], .tup [.i .i64 0, .i .i64 0, .b false], []⟩ [.a (.iface 135 (.eptr i xs))]) = ( (false = true → (0 : Int) = 0 ∧ (0 :
 Int) = 0 ∧ false = false ∧ True) ∧ (false = false → (0 : Int) = 0 ∧ (0 : Int) = 0 ∧ false = false ∧ True)) := by kernel_rfl
theorem where_e1 (t p : Int) (e : AVal) : Go.Sy.Tree.holds (entryX F (lookC l2) 200 Tryd.f20 b20 ⟨[], .tup [.i .i64 t, .i .i64 p, .b true], []⟩ [.a (.iface 70 (.ipt [.int .i64 t, .int .i64 p, e]))]) = ( (true = true → t =
 t ∧ p = p ∧ true = true ∧ True) ∧ (true = false → (0 : Int) = t ∧ (0 : Int) = p ∧ false = true ∧ True)) := by kernel_rfl
theorem trail_e0 (c : Int) (l : List P) (i : Nat) (xs : List AVal) : Go.Sy.Tree.holds (entryX F (lookC l2) 200 Tryd.f36 b36 (trailF c l) [.a (.iface 135 (.eptr i xs))]) = ( (false = true → [] = List.map P.p l ∧ True) ∧
 (false = false → [] = List.map P.p l ∧ True)) := by kernel_rfl
theorem trail_e1 (c : Int) (l : List P) (t p : Int) (e : AVal) : Go.Sy.Tree.holds (entryX F (lookC l2) 200 Tryd.f36 b36 (trailF c l) [.a (.iface 70 (.ipt [.int .i64 t, .int .i64 p, e]))]) = ( (true = true → ∃ (s : TrS),
 [p] = s.q ∧ AVal.ipt [AVal.int IntKind.i64 t, AVal.int IntKind.i64 p, e] = AVal.ipt [AVal.int IntKind.i64 s.t, AVal.int IntKind.i64 s.p, s.e] ∧ (s.e = ch c s.l ∧ s.q ++ List.map P.p s.l = List.map P.p l ∧ l.length ≤ 20)
 ∧ True) ∧ (true = false → [] = List.map P.p l ∧ True)) := by kernel_rfl
theorem trail_c0 (c : Int) (l m : List P) (q : List Int) (t p : Int) (i : Nat) (xs : List AVal) : Go.Sy.Tree.holds (cutVC F (lookC l2) 200 Tryd.f36 b36 (trailF c l) 4 (trailC c l) ⟨q, t, p, .iface 135 (.eptr i xs), m⟩) =
 ( (false = true → q = List.map P.p l ∧ True) ∧ (false = false → q = List.map P.p l ∧ True)) := by kernel_rfl
theorem trail_c1 (c : Int) (l m : List P) (q : List Int) (t p t2 p2 : Int) (e : AVal) : Go.Sy.Tree.holds (cutVC F (lookC l2) 200 Tryd.f36 b36 (trailF c l) 4 (trailC c l) ⟨q, t, p, .iface 70 (.ipt [.int .i64 t2, .int .i64
 p2, e]), m⟩) = ( (true = true → (q.length + [p2].length) * 8 ≤ 140737488355328 ∧ ∃ (s : TrS), q ++ [p2] = s.q ∧ AVal.ipt [AVal.int IntKind.i64 t2, AVal.int IntKind.i64 p2, e] = AVal.ipt [AVal.int IntKind.i64 s.t,
 AVal.int IntKind.i64 s.p, s.e] ∧ (s.e = ch c s.l ∧ s.q ++ List.map P.p s.l = List.map P.p l ∧ l.length ≤ 20) ∧ s.l.length < m.length ∧ True) ∧ (true = false → q = List.map P.p l ∧ True)) := by kernel_rfl

theorem new_ok (c : Int) (h1 : 1 ≤ c) (h2 : c ≤ 10) : Go.Sy.Tree.holds (entryX F (lookC l0) 200 Tryd.f26 b26 ⟨[], .a (newV c), []⟩ [.i .i64 c]) := by
  rw [new_e]
  have key : ∀ k : Int, (c == k) = true → c = k := fun k h => by simpa using h
  refine ⟨fun h => by rw [key _ h]; exact ⟨rfl, trivial⟩, fun g1 => ⟨fun h => by rw [key _ h]; exact ⟨rfl, trivial⟩, fun g2 => ⟨fun h => by rw [key _ h]; exact ⟨rfl, trivial⟩, fun g3 => ⟨fun h => by rw [key _ h]; exact ⟨rfl, trivial⟩, fun g4 => ⟨fun h => by rw [key _ h]; exact ⟨rfl, trivial⟩, fun g5 => ⟨fun h => by rw [key _ h]; exact ⟨rfl, trivial⟩, fun g6 => ⟨fun h => by rw [key _ h]; exact ⟨rfl, trivial⟩, fun g7 => ⟨fun h => by rw [key _ h]; exact ⟨rfl, trivial⟩, fun g8 => ⟨fun h => by rw [key _ h]; exact ⟨rfl, trivial⟩, fun g9 => ⟨fun h => by rw [key _ h]; exact ⟨rfl, trivial⟩, fun g10 => ?_⟩⟩⟩⟩⟩⟩⟩⟩⟩⟩
  simp at g1 g2 g3 g4 g5 g6 g7 g8 g9 g10
  omega
theorem l0Ok : CtrOk F.S (lookC l0) := lookC_ok fun p h => by simp [l0] at h
set_option maxRecDepth 10000 in
theorem newOk : CtrOk1 F.S 26 (mkCtr newD) :=
  mkCtr_ok (fn := Tryd.f26) (body := b26) codOk noExt hookLow l0Ok Tryd.func26 rfl rfl rfl newD 200 (fun _ => []) (show 1 ≤ 34 by decide) (show 34 ≤ 512 by decide) (by kernel_rfl) (fun _ _ => ⟨rfl, rfl⟩)
    (fun x hp => new_ok x.1 hp.1 hp.2) (fun x hp p hm => by cases hm)

theorem put_ok (c : Int) (l : List P) (t p : Int) : Go.Sy.Tree.holds (entryX F (lookC l0) 200 Tryd.f25 b25 ⟨[], .iface 70 (.ptr 0 0), [.cells [.i .i64 t, .i .i64 p, .a (ch c l)]]⟩ [.a (ch c l), .i .i64 t, .i .i64 p]) := by
  obtain ⟨u, a, e, _⟩ := ch_is c l
  rw [e]
  have := put_e u a t p
  unfold putF at this
  rw [this]
  exact ⟨rfl, rfl, rfl, trivial⟩
theorem put_frz (c : Int) (l : List P) (t p : Int) (E' : Env) (n0 : Nat) (H' : Heap) (v : AVal) (hS : SimH (C := cod) E' n0 0 [some (.cells [.i .i64 t, .i .i64 p, .a (ch c l)])] H') (h : Er (C := cod) E' (.iface 70 (.ptr 0 0)) v) :
    frz n0 H' true 64 v = some (ch c (⟨t, p⟩ :: l)) := by
  refine frz_box (ys := [.int .i64 t, .int .i64 p, ch c l]) hS h ?_ ?_
  · intro xs hx
    obtain ⟨a, as1, rfl, h1, hx⟩ := hx.inv_cons
    obtain ⟨b, as2, rfl, h2, hx⟩ := hx.inv_cons
    obtain ⟨d, as3, rfl, h3, hx⟩ := hx.inv_cons
    obtain rfl := hx.inv_nil
    cases h1
    cases h2
    cases h3
    rfl
  · obtain ⟨u, a, e, hf⟩ := ch_is c l
    rw [e]
    have hi : ∀ k m, frz n0 H' false 62 (.int k m) = some (.int k m) := fun k m => by unfold frz; rfl
    simp only [frzs, hi, hf n0 H' 60]
set_option maxRecDepth 10000 in
theorem putOk : CtrOk1 F.S 25 (mkCtr putC) :=
  mkCtrP_ok (fn := Tryd.f25) (body := b25) codOk noExt hookLow l0Ok Tryd.func25 rfl rfl rfl putD putZ 200 (fun _ => []) (show 3 ≤ 15 by decide) (show 15 ≤ 512 by decide) (by kernel_rfl)
    (fun x hp => put_ok x.1.1 x.1.2 x.2.1 x.2.2.1) (fun x hp p hm => by cases hm)
    (fun x hp E' n0 H' v hS h => put_frz x.1.1 x.1.2 x.2.1 x.2.2.1 E' n0 H' v hS h)

theorem is_e_ok (c d : Int) (l : List P) : Go.Sy.Tree.holds (entryX F (lookC l0) 200 Tryd.f44 b44 (isF c d) [.a (ch c l), .a (newV d), .b true]) := by
  rw [is_e]
  exact ⟨⟨ch c l, l⟩, rfl, rfl, rfl, rfl, trivial⟩
theorem is_c_ok (c d : Int) (h1 : 1 ≤ c) (h2 : 1 ≤ d) (s : ErS) (hI : s.e = ch c s.l) : Go.Sy.Tree.holds (cutVC F (lookC l0) 200 Tryd.f44 b44 (isF c d) 1 (isC c d) s) := by
  obtain ⟨e, l⟩ := s
  replace hI : e = ch c l := hI
  cases l with
  | nil =>
    rw [ch_nil, newV] at hI
    subst hI
    rw [is_c0]
    refine ⟨fun _ => ⟨fun h => ⟨?_, trivial⟩, fun h => ⟨?_, trivial⟩⟩, nofun⟩
    · have : c = d := by simp only [beq_iff_eq] at h; omega
      simp [this]
    · have : c ≠ d := by rintro rfl; simp at h
      simp [this]
  | cons x l =>
    rw [ch_cons] at hI
    obtain ⟨u, a, e1, _⟩ := ch_is c l
    rw [e1] at hI
    subst hI
    rw [is_c1]
    exact ⟨fun _ => ⟨nofun, fun _ => ⟨⟨ch c l, l⟩, e1.symm, rfl, rfl, rfl, Nat.lt_succ_self _, trivial⟩⟩, nofun⟩
set_option maxRecDepth 10000 in
theorem isOk : CtrOk1 F.S 44 (mkCtr isD) :=
  mkCtr_ok (fn := Tryd.f44) (body := b44) codOk noExt hookLow l0Ok Tryd.func44 rfl rfl rfl isD 200 (fun (x : (Int × List P) × Int × Bool × Unit) => [(1, isC x.1.1 x.2.1)]) (show 3 ≤ 54 by decide) (show 54 ≤ 512 by decide) (by kernel_rfl) (fun _ _ => ⟨rfl, rfl⟩)
    (fun (x : (Int × List P) × Int × Bool × Unit) hp => by
      obtain ⟨⟨c, l⟩, d, b, u⟩ := x
      obtain rfl : b = true := hp.1
      exact is_e_ok c d l)
    (fun (x : (Int × List P) × Int × Bool × Unit) hp p hm s hI => by
      have hm : p = (1, isC x.1.1 x.2.1) := by simpa using hm
      subst hm
      exact is_c_ok x.1.1 x.2.1 hp.2.1 hp.2.2.2.1 s hI)
theorem l3Ok : CtrOk F.S (lookC l3) := lookC_ok fun p h => by
  simp only [l3, List.mem_cons, List.not_mem_nil, or_false] at h
  subst h
  exact isOk
theorem Is_e_ok (c d : Int) (l : List P) (h1 : 1 ≤ c ∧ c ≤ 10 ∧ 1 ≤ d ∧ d ≤ 10) : Go.Sy.Tree.holds (entryX F (lookC l3) 200 Tryd.f30 b30 ⟨[], .b (c == d), []⟩ [.a (ch c l), .a (newV d)]) := by
  obtain ⟨u, a, e1, _⟩ := ch_is c l
  rw [e1, Is_e]
  exact ⟨(c, l), e1.symm, d, rfl, ⟨rfl, h1⟩, rfl, trivial⟩
set_option maxRecDepth 10000 in
theorem IsOk : CtrOk1 F.S 30 (mkCtr IsD) :=
  mkCtr_ok (fn := Tryd.f30) (body := b30) codOk noExt hookLow l3Ok Tryd.func30 rfl rfl rfl IsD 200 (fun _ => []) (show 2 ≤ 22 by decide) (show 22 ≤ 512 by decide) (by kernel_rfl) (fun _ _ => ⟨rfl, rfl⟩)
    (fun x hp => Is_e_ok x.1.1 x.2.1 x.1.2 hp) (fun x hp p hm => by cases hm)

theorem l4Ok : CtrOk F.S (lookC l4) := lookC_ok fun p h => by
  simp only [l4, List.mem_cons, List.not_mem_nil, or_false] at h
  rcases h with rfl | rfl
  · exact newOk
  · exact IsOk
theorem code_e_ok (c : Int) (l : List P) (h1 : 1 ≤ c) : Go.Sy.Tree.holds (entryX F (lookC l4) 200 Tryd.f13 b13 (codeF c l) [.a (ch c l)]) := by
  rw [code_e]
  exact ⟨1, rfl, rfl, ⟨Int.le_refl _, h1⟩, trivial⟩
theorem code_c_ok (c : Int) (l : List P) (h1 : 1 ≤ c) (h2 : c ≤ 10) (i : Int) (hI : 1 ≤ i ∧ i ≤ c) : Go.Sy.Tree.holds (cutVC F (lookC l4) 200 Tryd.f13 b13 (codeF c l) 2 (codeC c l) i) := by
  rw [code_c]
  refine ⟨fun _ => ⟨⟨by omega, by omega⟩, (c, l), rfl, i, rfl, ⟨h1, h2, hI.1, (by omega : i ≤ 10)⟩, fun h => ⟨?_, trivial⟩, fun h => ⟨i + 1, rfl, wrap64 (by omega) (by omega), ?_, ?_, trivial⟩⟩, fun h => ?_⟩
  · exact (beq_iff_eq.1 h).symm
  · have h : ¬ c = i := by simpa using h
    omega
  · have h : ¬ c = i := by simpa using h
    omega
  · simp at h; omega
set_option maxRecDepth 10000 in
theorem codeOk : CtrOk1 F.S 13 (mkCtr codeD) :=
  mkCtr_ok (fn := Tryd.f13) (body := b13) codOk noExt hookLow l4Ok Tryd.func13 rfl rfl rfl codeD 200 (fun (x : (Int × List P) × Unit) => [(2, codeC x.1.1 x.1.2)]) (show 1 ≤ 13 by decide) (show 13 ≤ 512 by decide) (by kernel_rfl) (fun _ _ => ⟨rfl, rfl⟩)
    (fun (x : (Int × List P) × Unit) hp => code_e_ok x.1.1 x.1.2 hp.1)
    (fun (x : (Int × List P) × Unit) hp p hm s hI => by
      have hm : p = (2, codeC x.1.1 x.1.2) := by simpa using hm
      subst hm
      exact code_c_ok x.1.1 x.1.2 hp.1 hp.2 s hI)

theorem l2Ok : CtrOk F.S (lookC l2) := lookC_ok fun p h => by
  simp only [l2, List.mem_cons, List.not_mem_nil, or_false] at h
  subst h
  exact asCtr_ok
theorem where_ok (c : Int) (l : List P) : Go.Sy.Tree.holds (entryX F (lookC l2) 200 Tryd.f20 b20 ⟨[], .tup [.i .i64 (hdT l), .i .i64 (hdP l), .b (hdB l)], []⟩ [.a (ch c l)]) := by
  cases l with
  | nil =>
    rw [ch_nil, newV]
    show Go.Sy.Tree.holds (entryX F (lookC l2) 200 Tryd.f20 b20 ⟨[], .tup [.i .i64 0, .i .i64 0, .b false], []⟩ _)
    rw [where_e0]
    exact ⟨nofun, fun _ => ⟨rfl, rfl, rfl, trivial⟩⟩
  | cons x l =>
    rw [ch_cons]
    show Go.Sy.Tree.holds (entryX F (lookC l2) 200 Tryd.f20 b20 ⟨[], .tup [.i .i64 x.t, .i .i64 x.p, .b true], []⟩ _)
    rw [where_e1]
    exact ⟨fun _ => ⟨rfl, rfl, rfl, trivial⟩, nofun⟩
set_option maxRecDepth 10000 in
theorem whereOk : CtrOk1 F.S 20 (mkCtr whereD) :=
  mkCtr_ok (fn := Tryd.f20) (body := b20) codOk noExt hookLow l2Ok Tryd.func20 rfl rfl rfl whereD 200 (fun _ => []) (show 1 ≤ 18 by decide) (show 18 ≤ 512 by decide) (by kernel_rfl) (fun _ _ => ⟨rfl, rfl⟩)
    (fun (x : (Int × List P) × Unit) hp => where_ok x.1.1 x.1.2) (fun x hp p hm => by cases hm)

theorem trail_e_ok (c : Int) (l : List P) (h : l.length ≤ 20) : Go.Sy.Tree.holds (entryX F (lookC l2) 200 Tryd.f36 b36 (trailF c l) [.a (ch c l)]) := by
  cases l with
  | nil =>
    rw [ch_nil, newV, trail_e0]
    exact ⟨nofun, fun _ => ⟨rfl, trivial⟩⟩
  | cons x l =>
    rw [ch_cons, trail_e1]
    exact ⟨fun _ => ⟨⟨[x.p], x.t, x.p, ch c l, l⟩, rfl, rfl, ⟨rfl, rfl, h⟩, trivial⟩, nofun⟩
theorem trail_c_ok (c : Int) (l : List P) (s : TrS) (hI : s.e = ch c s.l ∧ s.q ++ s.l.map P.p = l.map P.p ∧ l.length ≤ 20) : Go.Sy.Tree.holds (cutVC F (lookC l2) 200 Tryd.f36 b36 (trailF c l) 4 (trailC c l) s) := by
  obtain ⟨q, t, p, e, m⟩ := s
  have h2 : q ++ m.map P.p = l.map P.p := hI.2.1
  have h3 : l.length ≤ 20 := hI.2.2
  replace hI : e = ch c m := hI.1
  have hlen := congrArg List.length h2
  simp only [List.length_append, List.length_map] at hlen
  cases m with
  | nil =>
    rw [ch_nil, newV] at hI
    subst hI
    rw [trail_c0]
    exact ⟨nofun, fun _ => ⟨by simpa using h2, trivial⟩⟩
  | cons x m =>
    rw [ch_cons] at hI
    subst hI
    rw [trail_c1]
    simp only [List.length_cons] at hlen
    refine ⟨fun _ => ⟨?_, ⟨q ++ [x.p], x.t, x.p, ch c m, m⟩, rfl, rfl, ⟨rfl, by rw [← h2]; simp, h3⟩, Nat.lt_succ_self _, trivial⟩, nofun⟩
    show (q.length + 1) * 8 ≤ 140737488355328
    omega
set_option maxRecDepth 10000 in
theorem trailOk : CtrOk1 F.S 36 (mkCtr trailD) :=
  mkCtr_ok (fn := Tryd.f36) (body := b36) codOk noExt hookLow l2Ok Tryd.func36 rfl rfl rfl trailD 200 (fun (x : (Int × List P) × Unit) => [(4, trailC x.1.1 x.1.2)]) (show 1 ≤ 22 by decide) (show 22 ≤ 512 by decide) (by kernel_rfl) (fun _ _ => ⟨rfl, rfl⟩)
    (fun (x : (Int × List P) × Unit) hp => trail_e_ok x.1.1 x.1.2 hp)
    (fun (x : (Int × List P) × Unit) hp p hm s hI => by
      have hm : p = (4, trailC x.1.1 x.1.2) := by simpa using hm
      subst hm
      exact trail_c_ok x.1.1 x.1.2 s hI)
end Go.Proofs.YtjboohjicdmidaaDoor
