/- What the seat's idealised runs stand on, where no handle is laid: strings.genSplit, strconv.ParseInt, Itoa and FormatInt by the shelf's contracts; the sentinels and the tables out of the laid condition. Turned from the other base's print by a program (gen_base.py). -/
import Derived.Test.YtbbbpnaghipfmaaDoorRows
import Derived.WalkKit
import Derived.LaidEql
import Derived.Stop.Asserts
import Derived.RowKitTokens
import Derived.LaidLaws
import Derived.KernelRfl
import Derived.Test.YtbbbpnaghipfmaaDoorLib2
import Derived.Test.YtbbbpnaghipfmaaDoorSh
import Derived.Test.YtbbbpnaghipfmaaDoorSk
namespace Go.Proofs.YtbbbpnaghipfmaaDoor
open Go.RowKit Go.Extern.Stop Go.Stop Go.Extern Go.Am
set_option linter.unusedVariables false

noncomputable def metF (t : TypeId) (n : String) : Option FuncId := if t == 73 && n == "Unwrap" then some 114 else none
theorem metOk : ∀ t name g, metF t name = some g → ∀ a w, (method (Tryd.prog.types.size + Made.depth) t (.pointer a) name).run Tryd.prog w = .ok (g, .pointer a) w := by
  intro t name g h a w
  unfold metF at h
  split at h
  · rename_i e
    simp only [Bool.and_eq_true, beq_iff_eq] at e
    obtain ⟨rfl, rfl⟩ := e
    simp only [Option.some.injEq] at h
    subst h
    kernel_rfl
  cases h

/-- The sentinels: name, number, text. -/
def data0 : List Int := [0, 1, 28, 2, 29, 14, 24, 3, 30, 22, 20, 15, 25, 17, 4, 8, 31, 27, 13, 23, 21, 19, 16, 7, 26, 12, 18, 6, 11, 5, 10, 9]
def data1 : List Int := [0, 1, 56, 2, 57, 49, 28, 3, 61, 58, 42, 50, 38, 29, 17, 4, 62, 47, 59, 36, 45, 43, 51, 22, 53, 39, 33, 30, 24, 18, 12, 5, 63, 55, 48, 27, 60, 41, 37, 16, 46, 35, 44, 21, 52, 32, 23, 11, 54, 26, 40, 15, 34, 20, 31, 10, 25, 14, 19, 9, 13, 8, 7, 6]
def data2 : List Int := [1, 10, 100, 1000, 10000, 100000, 1000000, 10000000, 100000000, 1000000000, 10000000000, 100000000000, 1000000000000, 10000000000000, 100000000000000, 1000000000000000, 10000000000000000, 100000000000000000, 1000000000000000000, 10000000000000000000]
def sentRows : List (String × Nat × List UInt8) := [("strconv.ErrRange", 18, [118, 97, 108, 117, 101, 32, 111, 117, 116, 32, 111, 102, 32, 114, 97, 110, 103, 101]), ("strconv.ErrSyntax", 17, [105, 110, 118, 97, 108, 105, 100, 32, 115, 121, 110, 116, 97, 120]), ("syncope/blame.errArg", 0, [99, 111, 100, 101, 32, 49]), ("syncope/blame.errRange", 1, [99, 111, 100, 101, 32, 50]), ("syncope/blame.errText", 2, [99, 111, 100, 101, 32, 51]), ("syncope/blame.errLarge", 3, [99, 111, 100, 101, 32, 52]), ("syncope/blame.errBlock", 4, [99, 111, 100, 101, 32, 53]), ("syncope/blame.errLock", 5, [99, 111, 100, 101, 32, 54]), ("syncope/blame.errMode", 6, [99, 111, 100, 101, 32, 55]), ("syncope/blame.errOrder", 7, [99, 111, 100, 101, 32, 56]), ("syncope/blame.errCond", 8, [99, 111, 100, 101, 32, 57]), ("syncope/blame.errState", 9, [99, 111, 100, 101, 32, 49, 48])]
noncomputable def globF (g : Nat) : Option (List AVal) := if g == 13 then some (data0.map (AVal.int .u8)) else if g == 14 then some (data1.map (AVal.int .u8)) else if g == 11 then some (data2.map (AVal.int .u64)) else ((sentRows.zipIdx).find? fun x => x.1.2.1 == g).map fun x => [.iface 164 (.eptr x.2 [.str x.1.2.2])]

/-! ### Numbers in words -/
def itoaHook (f : FuncId) : Nat → List AVal → Heap → Option (AVal × Heap)
  | _, [.int .i64 n], H => if -9223372036854775808 ≤ n ∧ n ≤ 9223372036854775807 then some (.str (Lib.itoa n), H) else none
  | _, _, _ => none
def fmtHook (f : FuncId) : Nat → List AVal → Heap → Option (AVal × Heap)
  | _, [.int .i64 n, .int .i64 m], H => if -9223372036854775808 ≤ n ∧ n ≤ 9223372036854775807 ∧ m = 10 then some (.str (Lib.itoa n), H) else none
  | _, _, _ => none
def LowHk (hk : Nat → List AVal → Heap → Option (AVal × Heap)) : Prop := ∀ lo args H r H', hk lo args H = some (r, H') → H.length ≤ H'.length ∧ ∀ b, b < lo → b < H.length → H'[b]? = H[b]?
theorem itoaHook_low : LowHk (itoaHook 21) := by
  intro lo args H r H' h
  unfold itoaHook at h
  split at h
  · split at h
    · simp only [Option.some.injEq, Prod.mk.injEq] at h
      obtain ⟨_, rfl⟩ := h
      exact ⟨Nat.le_refl _, fun _ _ _ => rfl⟩
    · cases h
  · cases h
theorem fmtHook_low : LowHk (fmtHook 22) := by
  intro lo args H r H' h
  unfold fmtHook at h
  split at h
  · split at h
    · simp only [Option.some.injEq, Prod.mk.injEq] at h
      obtain ⟨_, rfl⟩ := h
      exact ⟨Nat.le_refl _, fun _ _ _ => rfl⟩
    · cases h
  · cases h

/-- One hook more, for the function of that number. -/
structure Xs where
  hk : Option (Nat → List AVal → Heap → Option (AVal × Heap))
  low : ∀ g, hk = some g → LowHk g
def noXs : Xs := ⟨none, fun _ h => by cases h⟩

/-- What an idealised run stands on; pol: how each call ends; l: what is told of closed calls. -/
noncomputable def St (pol : FuncId → Pol) (l : Lits) (Z : Xs) : AStat where
  P := Tryd.prog
  glob := globF
  tab := [(11, (data2.map (Value.int .u64)).toArray)]
  pol := pol
  hook := fun f => if f == 42 then some splitHook else if f == 70 then some (parseHook 155) else if f == 21 then some (itoaHook 21) else if f == 22 then some (fmtHook 22) else if f == 11 then Z.hk else litHook l f
  meth := metF

theorem noNum_all : (Tryd.prog.funcs.toList.all fun fn => !(fn.name == "runtime.NumGoroutine")) = true := by kernel_rfl

theorem hookSt {pol : FuncId → Pol} {l : Lits} {Z : Xs} {f : FuncId} {hk : Nat → List AVal → Heap → Option (AVal × Heap)} (h : (St pol l Z).hook f = some hk) :
    (f = 42 ∧ hk = splitHook) ∨ (f = 70 ∧ hk = parseHook 155) ∨ (f = 21 ∧ hk = itoaHook 21) ∨ (f = 22 ∧ hk = fmtHook 22) ∨ (f = 11 ∧ Z.hk = some hk) ∨ hk = litFun l f := by
  simp only [St] at h
  split at h
  · rename_i e
    simp only [Option.some.injEq] at h
    exact .inl ⟨by simpa using e, h.symm⟩
  · split at h
    · rename_i e
      simp only [Option.some.injEq] at h
      exact .inr (.inl ⟨by simpa using e, h.symm⟩)
    · split at h
      · rename_i e
        simp only [Option.some.injEq] at h
        exact .inr (.inr (.inl ⟨by simpa using e, h.symm⟩))
      · split at h
        · rename_i e
          simp only [Option.some.injEq] at h
          exact .inr (.inr (.inr (.inl ⟨by simpa using e, h.symm⟩)))
        · split at h
          · rename_i e
            exact .inr (.inr (.inr (.inr (.inl ⟨by simpa using e, h⟩))))
          · exact .inr (.inr (.inr (.inr (.inr (litHook_is h)))))

/-- What a hook owes. -/
def HkOk (f : FuncId) (hk : Nat → List AVal → Heap → Option (AVal × Heap)) : Prop := ∀ lo args H r H', hk lo args H = some (r, H') → ∀ c vs, Rel c H → GlobOk (St (fun _ => .keep) [] noXs) c → Vs c args vs →
    (∃ fn, Tryd.prog.funcs[f]? = some fn ∧ fn.body.isSome = true) ∧ Calls Tryd.prog f vs.toArray c.w (CallPost lo c H r H')

theorem splitBody : ∃ fn, Tryd.prog.funcs[42]? = some fn ∧ fn.body.isSome = true := ⟨_, Tryd.func42, by kernel_rfl⟩
theorem parseBody : ∃ fn, Tryd.prog.funcs[70]? = some fn ∧ fn.body.isSome = true := ⟨_, Tryd.func70, by kernel_rfl⟩

theorem splitHook_ok : ∀ lo args H r H', splitHook lo args H = some (r, H') → ∀ c vs, Rel c H → Vs c args vs →
    (∃ fn, Tryd.prog.funcs[42]? = some fn ∧ fn.body.isSome = true) ∧ Calls Tryd.prog 42 vs.toArray c.w (CallPost lo c H r H') :=
  fun _ _ _ _ _ h _ _ hR hv => ⟨splitBody, split_contract splitSaid h hR hv⟩
theorem parseHook_ok : ∀ lo args H r H', parseHook 155 lo args H = some (r, H') → ∀ c vs, Rel c H → GlobOk (St (fun _ => .keep) [] noXs) c → Vs c args vs →
    (∃ fn, Tryd.prog.funcs[70]? = some fn ∧ fn.body.isSome = true) ∧ Calls Tryd.prog 70 vs.toArray c.w (CallPost lo c H r H') := by
  intro lo args H r H' h c vs hR hG hv
  have hgl := hG.v 18 _ rfl
  simp only [V, Vs] at hgl
  obtain ⟨B', o', ws, e1, _, hat, w1, _, rfl, ⟨w2, rfl, _⟩, rfl⟩ := hgl
  simp only [Value.pointer.injEq, Option.some.injEq, Addr.mk.injEq] at e1
  obtain ⟨rfl, rfl, _⟩ := e1
  exact ⟨parseBody, parse_contract parseSaid (by simpa using hat 0 _ rfl) (.inr ⟨_, _, rfl⟩) h hR hv⟩

theorem tabIs {c : Cx} (hG : GlobOk (St (fun _ => .keep) [] noXs) c) : Lib.TabIs Tryd.prog c.w "internal/strconv.uint64pow10" .u64 Lib.pow10Tab := by
  obtain ⟨_, t, fr, h⟩ := hG.t (11, (data2.map (Value.int .u64)).toArray) (List.mem_singleton.2 rfl)
  have hg : Tryd.prog.globalNamed "internal/strconv.uint64pow10" = some 11 := by kernel_rfl
  have e : data2 = Lib.pow10Tab := by kernel_rfl
  have h : c.w.heap[11]? = some (.cells (data2.map (Value.int .u64)).toArray t fr) := h
  show c.w.var? Tryd.prog "internal/strconv.uint64pow10" = _
  unfold World.var?
  rw [hg, Option.bind_some, h, ← e]
theorem below_grow (w : World) (k : Nat) (os : Array Obj) : Below w.heap.size w (Sort.grow (w.drewN k) os) :=
  ⟨rfl, rfl, rfl, by show w.heap.size ≤ (w.heap ++ os).size; rw [Array.size_append]; omega, fun j hj => Array.getElem?_append_left hj⟩
theorem itoaHook_ok : HkOk 21 (itoaHook 21) := by
  intro lo args H r H' h c vs hR hG hv
  refine ⟨⟨_, Tryd.func21, by kernel_rfl⟩, ?_⟩
  unfold itoaHook at h
  split at h
  · split at h
    · rename_i n hn
      simp only [Option.some.injEq, Prod.mk.injEq] at h
      obtain ⟨rfl, rfl⟩ := h
      simp only [Vs, V] at hv
      obtain ⟨_, _, rfl, rfl, rfl⟩ := hv
      refine hook_of hR ((Tryd.strconv_Itoa n hn.1 hn.2 c.w (tabIs hG)).mono ?_)
      rintro e w' ⟨rfl, k, os, rfl⟩
      exact ⟨_, fun _ => False, rfl, below_grow _ k os, fun _ h => h.elim, by simp only [V]; exact ⟨_, rfl, rfl⟩⟩
    · cases h
  · cases h
theorem fmtHook_ok : HkOk 22 (fmtHook 22) := by
  intro lo args H r H' h c vs hR hG hv
  refine ⟨⟨_, Tryd.func22, by kernel_rfl⟩, ?_⟩
  unfold fmtHook at h
  split at h
  · split at h
    · rename_i n m hn
      obtain ⟨h0, h1, rfl⟩ := hn
      simp only [Option.some.injEq, Prod.mk.injEq] at h
      obtain ⟨rfl, rfl⟩ := h
      simp only [Vs, V] at hv
      obtain ⟨_, _, rfl, rfl, _, _, rfl, rfl, rfl⟩ := hv
      refine hook_of hR ((Tryd.strconv_FormatInt_10 n h0 h1 c.w (tabIs hG)).mono ?_)
      rintro e w' ⟨rfl, k, os, rfl⟩
      exact ⟨_, fun _ => False, rfl, below_grow _ k os, fun _ h => h.elim, by simp only [V]; exact ⟨_, rfl, rfl⟩⟩
    · cases h
  · cases h

theorem HkOk.out {f : FuncId} {hk : Nat → List AVal → Heap → Option (AVal × Heap)} (h : HkOk f hk) (pol : FuncId → Pol) (l : Lits) (Z : Xs) : ∀ lo args H r H', hk lo args H = some (r, H') → ∀ c vs, Rel c H → GlobOk (St pol l Z) c → Vs c args vs →
    (∃ fn, Tryd.prog.funcs[f]? = some fn ∧ fn.body.isSome = true) ∧ Calls Tryd.prog f vs.toArray c.w (CallPost lo c H r H') :=
  fun lo args H r H' e c vs hR hG hv => h lo args H r H' e c vs hR ⟨hG.v, hG.t⟩ hv
theorem stOk0 (pol : FuncId → Pol) {Z : Xs} (hz : ∀ g, Z.hk = some g → HkOk 11 g) : StatOk (St pol [] Z) where
  noNum := fun f fn h => by
    have h1 := List.all_eq_true.1 noNum_all fn (List.mem_of_getElem? (i := f) (by rw [Array.getElem?_toList]; exact h))
    simpa using h1
  meth := metOk
  hook := fun f hk h => by
    rcases hookSt h with ⟨rfl, rfl⟩ | ⟨rfl, rfl⟩ | ⟨rfl, rfl⟩ | ⟨rfl, rfl⟩ | ⟨rfl, hg⟩ | rfl
    · exact fun lo args H r H' e c vs hR _ hv => splitHook_ok lo args H r H' e c vs hR hv
    · exact HkOk.out parseHook_ok _ _ _
    · exact HkOk.out itoaHook_ok _ _ _
    · exact HkOk.out fmtHook_ok _ _ _
    · exact (hz hk hg).out _ _ _
    · intro lo args H r H' e
      exact absurd (litFun_is e).1 (by simp)
  mixed := by kernel_rfl
  low := fun f hk h => by
    rcases hookSt h with ⟨rfl, rfl⟩ | ⟨rfl, rfl⟩ | ⟨rfl, rfl⟩ | ⟨rfl, rfl⟩ | ⟨rfl, hg⟩ | rfl
    · exact splitHook_low
    · exact parseHook_low
    · exact itoaHook_low
    · exact fmtHook_low
    · exact Z.low hk hg
    · exact litFun_low
theorem noXsOk : ∀ g, noXs.hk = some g → HkOk 11 g := fun _ h => by cases h

/-- What is told is so. -/
def Told (l : Lits) : Prop := ∀ f a v, (f, a, v) ∈ l → baresA a = true ∧ v.bare = true ∧ ∃ pol n H1, runA (St pol [] noXs) n 0 f a [] = some (v, H1)

theorem stLow (pol : FuncId → Pol) (l : Lits) (Z : Xs) : ∀ f hk, (St pol l Z).hook f = some hk → LowHk hk := fun f hk h => by
    rcases hookSt h with ⟨rfl, rfl⟩ | ⟨rfl, rfl⟩ | ⟨rfl, rfl⟩ | ⟨rfl, rfl⟩ | ⟨rfl, hg⟩ | rfl
    · exact splitHook_low
    · exact parseHook_low
    · exact itoaHook_low
    · exact fmtHook_low
    · exact Z.low hk hg
    · exact litFun_low
theorem stOk (pol : FuncId → Pol) {l : Lits} (hl : Told l) {Z : Xs} (hz : ∀ g, Z.hk = some g → HkOk 11 g) : StatOk (St pol l Z) where
  noNum := (stOk0 pol noXsOk).noNum
  meth := metOk
  hook := fun f hk h => by
    rcases hookSt h with ⟨rfl, rfl⟩ | ⟨rfl, rfl⟩ | ⟨rfl, rfl⟩ | ⟨rfl, rfl⟩ | ⟨rfl, hg⟩ | rfl
    · exact fun lo args H r H' e c vs hR _ hv => splitHook_ok lo args H r H' e c vs hR hv
    · exact HkOk.out parseHook_ok _ _ _
    · exact HkOk.out itoaHook_ok _ _ _
    · exact HkOk.out fmtHook_ok _ _ _
    · exact (hz hk hg).out _ _ _
    · intro lo args H r H' e c vs hR hG hv
      obtain ⟨hm, rfl⟩ := litFun_is e
      obtain ⟨ha, hb, pol', n, H1, h1⟩ := hl _ _ _ hm
      exact lift_run (stOk0 pol' noXsOk) ha hb h1 lo c H' vs hR ⟨hG.v, hG.t⟩ hv
  mixed := (stOk0 pol noXsOk).mixed
  low := stLow pol l Z

/-! ### The laid variables -/
theorem bStar : "*" ++ "errors.errorString" = "*errors.errorString" := by decide
theorem bRow (u : TypeId) (h : Tryd.prog.typeName? 3 u = some "*errors.errorString") : u = 164 :=
  typeName_ptr_named (nm := "errors.errorString") (by rw [bStar]; kernel_rfl) (by kernel_rfl) (by decide) u (by rw [bStar]; exact h)
theorem bCellsES : Tryd.prog.cellsOf 166 = 1 := by kernel_rfl
theorem bCellsStr : Tryd.prog.cellsOf 9 = 1 := by kernel_rfl

/-- The laid list: tables and sentinels. -/
def laidL : List (String × DataW Unit) := ("math/bits.deBruijn32tab", .agg (data0.map fun m => .lit (.int .u8 m))) :: ("math/bits.deBruijn64tab", .agg (data1.map fun m => .lit (.int .u8 m))) :: ("internal/strconv.uint64pow10", .agg (data2.map fun m => .lit (.int .u64 m))) :: ("unicode/utf8.acceptRanges", Rows.laid_unicode_utf8_acceptRanges) :: ((sentRows.map fun r => (r.1, sentD "*errors.errorString" r.2.2)) ++ [("unicode/utf8.first", Rows.laid_unicode_utf8_first)])

theorem sentTypes : ∀ r ∈ sentRows, Tryd.prog.globalNamed r.1 = some r.2.1 ∧ (Tryd.prog.globals[r.2.1]?).map (·.type) = some 36 := by
  intro r hr
  have h : (sentRows.all fun r => Tryd.prog.globalNamed r.1 == some r.2.1 && (Tryd.prog.globals[r.2.1]?).map (·.type) == some 36) = true := by kernel_rfl
  have h := List.all_eq_true.1 h r hr
  rw [Bool.and_eq_true, beq_iff_eq, beq_iff_eq] at h
  exact h

/-- What the laid condition gives an idealised run. -/
theorem globOk (pol : FuncId → Pol) (l : Lits) (Z : Xs) {W : World} (hL : laidMetH Tryd.prog laidL W) : ∃ θ, GlobOk (St pol l Z) (cx0 W θ) := by
  have h' : laidMet Tryd.prog (("math/bits.deBruijn32tab", .agg (data0.map fun m => .lit (.int .u8 m))) :: ("math/bits.deBruijn64tab", .agg (data1.map fun m => .lit (.int .u8 m))) :: ("internal/strconv.uint64pow10", .agg (data2.map fun m => .lit (.int .u64 m))) :: ("unicode/utf8.acceptRanges", Rows.laid_unicode_utf8_acceptRanges) :: (sentRows.map (fun r => (r.1, sentD "*errors.errorString" r.2.2)) ++ [("unicode/utf8.first", Rows.laid_unicode_utf8_first)])) W := hL
  obtain ⟨ps, h1, h2, h3⟩ := h'
  obtain ⟨⟨p0, q0, l0, e0⟩, v0⟩ := laid_data (g := 13) (ns := data0) (k := .u8) h1 (by kernel_rfl) (by kernel_rfl) Tryd.underlying143 Tryd.underlying5 (by kernel_rfl) (by kernel_rfl) (by decide)
  subst e0
  replace h2 := (List.nodup_append.1 h2).2.1
  replace h3 := fun b off hm => h3 b off (List.mem_append_right _ hm)
  obtain ⟨⟨p1, q1, l1, e1⟩, v1⟩ := laid_data (g := 14) (ns := data1) (k := .u8) l0 (by kernel_rfl) (by kernel_rfl) Tryd.underlying144 Tryd.underlying5 (by kernel_rfl) (by kernel_rfl) (by decide)
  subst e1
  have lt := laid_tab (g := 11) (ns := data2) (k := .u64) l1 (by kernel_rfl) (by kernel_rfl) Tryd.underlying124 Tryd.underlying72 (by kernel_rfl) (by kernel_rfl) (by decide)
  replace h2 := (List.nodup_append.1 h2).2.1
  replace h3 := fun b off hm => h3 b off (List.mem_append_right _ hm)
  obtain ⟨⟨p2, q2, l2, e2⟩, v2⟩ := laid_data (g := 11) (ns := data2) (k := .u64) l1 (by kernel_rfl) (by kernel_rfl) Tryd.underlying124 Tryd.underlying72 (by kernel_rfl) (by kernel_rfl) (by decide)
  subst e2
  replace h2 := (List.nodup_append.1 h2).2.1
  replace h3 := fun b off hm => h3 b off (List.mem_append_right _ hm)
  obtain ⟨_, _, _, _, p9, q9, _, _, _, _, l9, e9⟩ := l2
  subst e9
  replace h2 := (List.nodup_append.1 h2).2.1
  replace h3 := fun b off hm => h3 b off (List.mem_append_right _ hm)
  replace h1 := l9
  obtain ⟨θ, h1, h2, _, h4⟩ := laid_sents Tryd.underlying36 bRow Tryd.underlying164 Tryd.underlying166 rfl rfl Tryd.underlying9 bCellsES bCellsStr sentRows sentTypes h1 h2 h3
  refine ⟨θ, fun g cs h => ?_, fun p hp => by obtain rfl := List.mem_singleton.1 hp; exact lt θ⟩
  have h : globF g = some cs := h
  unfold globF at h
  split at h
  · rename_i e
    have e : g = 13 := by simpa using e
    subst e
    obtain rfl := Option.some.inj h
    exact v0 θ
  split at h
  · rename_i e
    have e : g = 14 := by simpa using e
    subst e
    obtain rfl := Option.some.inj h
    exact v1 θ
  split at h
  · rename_i e
    have e : g = 11 := by simpa using e
    subst e
    obtain rfl := Option.some.inj h
    exact v2 θ
  · rw [Option.map_eq_some_iff] at h
    obtain ⟨x, hx, rfl⟩ := h
    have hm := List.mem_of_find?_eq_some hx
    have hg := List.find?_some hx
    rw [List.mem_zipIdx_iff_getElem?] at hm
    have hg : x.1.2.1 = g := by simpa using hg
    subst hg
    have hlt : x.2 < θ.length := by
      rw [h1]
      rcases Nat.lt_or_ge x.2 sentRows.length with h | h
      · exact h
      · rw [List.getElem?_eq_none h] at hm; cases hm
    have hy : θ[x.2]? = some (θ[x.2].1, θ[x.2].2) := List.getElem?_eq_getElem hlt
    exact sent_V h2 hy (h4 x.2 _ _ _ hm hy)

end Go.Proofs.YtbbbpnaghipfmaaDoor
