/- Of the reference: where words stand, the marks of stripes, sets: the contracts are paid. -/
import Derived.Test.YtmjjljngaefpaaaGreatRl
namespace Go.Proofs.YtmjjljngaefpaaaGreat
open Go.RowKit Go.Am Go.Sy
open Go.IntKind (i64 u64)
set_option linter.unusedVariables false
set_option linter.unusedSimpArgs false
theorem mayr_e : Go.Sy.Tree.holds (entryX F (lookC []) 400 Tryz.f77 b77r ⟨[],mayD.res ((mp0,()) : Mp × Unit),[]⟩ [.agg (enc4 mp0)]) = ( (true = true → (true = true → (true = true → (true = true → (true = true → (true =
 true → (true = true → (true = true → (true = true → AVal.bool true = AVal.bool true ∧ True) ∧ (true = false → constA (Value.bool false) = AVal.bool true ∧ True)) ∧ (true = false → constA (Value.bool false) = AVal.bool
 true ∧ True)) ∧ (true = false → constA (Value.bool false) = AVal.bool true ∧ True)) ∧ (true = false → constA (Value.bool false) = AVal.bool true ∧ True)) ∧ (true = false → constA (Value.bool false) = AVal.bool true ∧
 True)) ∧ (true = false → constA (Value.bool false) = AVal.bool true ∧ True)) ∧ (true = false → constA (Value.bool false) = AVal.bool true ∧ True)) ∧ (true = false → constA (Value.bool false) = AVal.bool true ∧ True)) ∧
 (true = false → constA (Value.bool false) = AVal.bool true ∧ True)) := by kernel_rfl
theorem holdr_e (x : Int) : Go.Sy.Tree.holds (entryX F (lookC []) 400 Tryz.f123 b123 ⟨[],holderD.res ((x,()) : Int × Unit),[]⟩ [.i .i64 (x)]) = ( i64.wrap (i64.wrap (↑(BitVec.ofInt i64.bits x
 &&& BitVec.ofInt i64.bits (15 : Int)).toNat : Int) - 1) = x % (16 : Int) - 1 ∧ True) := by kernel_rfl
theorem versr_e (x : Int) : Go.Sy.Tree.holds (entryX F (lookC []) 400 Tryz.f124 b124 ⟨[],versionD.res ((x,()) : Int × Unit),[]⟩ [.i .i64 (x)]) = ( (0 : Int) ≤ 4 ∧ x.fdiv (16 : Int) = x / (16 : Int) ∧ True) := by
 kernel_rfl
theorem freshr_e (x s : Int) : Go.Sy.Tree.holds (entryX F (lookC l113) 400 Tryz.f113 b113 ⟨[],freshD.res ((x,s,()) : Int × Int × Unit),[]⟩ [.i .i64 (x),.i .i64 (s)]) = ( holderD.pre (x,()) ∧ (decide (x % (16 : Int)
 - 1 ≥ (0 : Int)) = true → (1 : Int) = freshT x s ∧ True) ∧ (decide (x % (16 : Int) - 1 ≥ (0 : Int)) = false → versionD.pre (x,()) ∧ (decide (x / (16 : Int) > s) = true → (2 : Int) = freshT x s ∧ True) ∧ (decide (x / (16
 : Int) > s) = false → (0 : Int) = freshT x s ∧ True))) := by kernel_rfl
theorem takenr_e (x t : Int) : Go.Sy.Tree.holds (entryX F (lookC []) 400 Tryz.f143 b143 ⟨[],takenD.res ((x,t,()) : Int × Int × Unit),[]⟩ [.i .i64 (x),.i .i64 (t)]) = ( (decide (t < 0) = true → x = x - x % (16 : Int)
 + t + 1 ∧ True) ∧ (decide (t < 0) = false → (decide (t ≥ (4 : Int)) = true → x = x - x % (16 : Int) + t + 1 ∧ True) ∧ (decide (t ≥ (4 : Int)) = false → i64.wrap (i64.wrap (i64.wrap (x -
 i64.wrap (↑(BitVec.ofInt i64.bits x &&& BitVec.ofInt i64.bits (15 : Int)).toNat : Int)) + t) + 1) = x - x % (16 : Int) + t + 1 ∧ True))) := by kernel_rfl
theorem seek_e (l : List Wo) (k : Int) : Go.Sy.Tree.holds (entryX F (lookC []) 400 Tryz.f84 b84 (seekF l k) [.tl (T := T) 3 l,.i .i64 k]) = ( ∃ (s : Nat),l = l ∧ k = k ∧ (0 : Int) = (↑s : Int) ∧ (s ≤ l.length ∧ findT l
 k = findGo k (List.drop s l) (↑s : Int)) ∧ True) := by kernel_rfl
theorem seek_2 (l : List Wo) (k : Int) (i : Nat) : Go.Sy.Tree.holds (cutVC F (lookC []) 400 Tryz.f84 b84 (seekF l k) 2 (seekC l k) i) = ( (decide ((↑i : Int) < (↑l.length : Int)) = true → ((0 : Int) ≤ (↑i : Int) ∧ (↑i :
 Int) < (↑l.length : Int)) ∧ (((at3 l (↑i : Int)).pl == k) = true → (↑i : Int) = findT l k ∧ True) ∧ (((at3 l (↑i : Int)).pl == k) = false → ∃ (s : Nat),l = l ∧ k = k ∧ i64.wrap ((↑i : Int) + 1) = (↑s : Int) ∧ (s
 ≤ l.length ∧ findT l k = findGo k (List.drop s l) (↑s : Int)) ∧ l.length - s < l.length - i ∧ True)) ∧ (decide ((↑i : Int) < (↑l.length : Int)) = false → (-1 : Int) = findT l k ∧ True)) := by kernel_rfl
theorem filt_e (w : Wq) : Go.Sy.Tree.holds (entryX F (lookC []) 400 Tryz.f83 b83 (filtF w) [.fp (enc7 w)]) = ( ∃ (s : Nat),w.rm = w.rm ∧ w.aq = w.aq ∧ w.ls = w.ls ∧ (0 : Int) = filtT (List.take s w.ls) ∧ (0 : Int) = (↑s
 : Int) ∧ s ≤ w.ls.length ∧ True) := by kernel_rfl
theorem filt_3 (w : Wq) (i : Nat) : Go.Sy.Tree.holds (cutVC F (lookC []) 400 Tryz.f83 b83 (filtF w) 3 (filtC w) i) = ( (decide ((↑i : Int) < (↑w.ls.length : Int)) = true → ((0 : Int) ≤ (↑i : Int) ∧ (↑i : Int) <
 (↑w.ls.length : Int)) ∧ (0 : Int) ≤ u64.wrap ((at3 w.ls (↑i : Int)).pl.tmod 64) ∧ ∃ (s : Nat),w.rm = w.rm ∧ w.aq = w.aq ∧ w.ls = w.ls ∧ u64.wrap (↑(BitVec.ofInt u64.bits (filtT (List.take i
 w.ls)) ||| BitVec.ofInt u64.bits (u64.wrap ((1 : Int) * 2 ^ min (u64.wrap ((at3 w.ls (↑i : Int)).pl.tmod 64)).toNat u64.bits))).toNat : Int) = filtT (List.take s w.ls) ∧ i64.wrap
 ((↑i : Int) + 1) = (↑s : Int) ∧ s ≤ w.ls.length ∧ w.ls.length - s < w.ls.length - i ∧ True) ∧ (decide ((↑i : Int) < (↑w.ls.length : Int)) = false → filtT (List.take i w.ls) = filtT w.ls ∧ True)) := by kernel_rfl
theorem rowsr_e (l : List Int) : Go.Sy.Tree.holds (entryX F (lookC l141) 400 Tryz.f141 b141 (rowsRF l) [.agg (enc4 mp0),.tl (T := T) 0 l]) = ( ∃ (s : Nat),l = l ∧ mp0.ms = mp0.ms ∧ mp0.ml = mp0.ml ∧ mp0.mt = mp0.mt ∧
 mp0.mc = mp0.mc ∧ mp0.md = mp0.md ∧ [] = rowsN l s ∧ (0 : Int) = (↑s : Int) ∧ s ≤ 3 ∧ True) := by kernel_rfl
theorem rowsr_3 (l : List Int) (s : Nat) : Go.Sy.Tree.holds (cutVC F (lookC l141) 400 Tryz.f141 b141 (rowsRF l) 3 (rowsO l) s) = ( (decide ((↑s : Int) < mp0.ms) = true → mayD.pre (Mp.mk mp0.ms mp0.ml mp0.mt mp0.mc mp0.md,
 ()) ∧ ∃ (s_1 : Nat × Nat),l = l ∧ mp0.ms = mp0.ms ∧ mp0.ml = mp0.ml ∧ mp0.mt = mp0.mt ∧ mp0.mc = mp0.mc ∧ mp0.md = mp0.md ∧ rowsN l s = rowsN l s_1.fst ∧ (↑s : Int) = (↑s_1.fst : Int) ∧ (0 : Int) = (↑s_1.snd : Int) ∧
 (s_1.fst < 3 ∧ s_1.snd ≤ l.length ∧ inR (↑s_1.fst : Int) (List.take s_1.snd l) = false) ∧ ((3 : Nat) - s_1.fst) * 2000 - 1 - s_1.snd < ((3 : Nat) - s) * 2000 ∧ True) ∧ (decide ((↑s : Int) < mp0.ms) = false → rowsN l s =
 rowsT l ∧ True)) := by kernel_rfl
theorem rowsr_6 (l : List Int) (s i : Nat) : Go.Sy.Tree.holds (cutVC F (lookC l141) 400 Tryz.f141 b141 (rowsRF l) 6 (rowsI l) (s,i)) = ( (decide ((↑i : Int) < (↑l.length : Int)) = true → ((0 : Int) ≤ (↑i : Int) ∧ (↑i :
 Int) < (↑l.length : Int)) ∧ hashD.pre (Mp.mk mp0.ms mp0.ml mp0.mt mp0.mc mp0.md,at0 l (↑i : Int),()) ∧ ((hashT (at0 l (↑i : Int)) == (↑s : Int)) = true → ((rowsN l s).length + [(↑s : Int)].length) * 8 ≤ 140737488355328
 ∧ ∃ (s_1 : Nat),l = l ∧ mp0.ms = mp0.ms ∧ mp0.ml = mp0.ml ∧ mp0.mt = mp0.mt ∧ mp0.mc = mp0.mc ∧ mp0.md = mp0.md ∧ rowsN l s ++ [(↑s : Int)] = rowsN l s_1 ∧ i64.wrap ((↑s : Int) + 1) = (↑s_1 : Int) ∧ s_1 ≤ 3 ∧
 ((3 : Nat) - s_1) * 2000 < ((3 : Nat) - s) * 2000 - 1 - i ∧ True) ∧ ((hashT (at0 l (↑i : Int)) == (↑s : Int)) = false → ∃ (s_1 : Nat × Nat),l = l ∧ mp0.ms = mp0.ms ∧ mp0.ml = mp0.ml ∧ mp0.mt = mp0.mt ∧ mp0.mc = mp0.mc ∧
 mp0.md = mp0.md ∧ rowsN l s = rowsN l s_1.fst ∧ (↑s : Int) = (↑s_1.fst : Int) ∧ i64.wrap ((↑i : Int) + 1) = (↑s_1.snd : Int) ∧ (s_1.fst < 3 ∧ s_1.snd ≤ l.length ∧ inR (↑s_1.fst : Int) (List.take s_1.snd l) =
 false) ∧ ((3 : Nat) - s_1.fst) * 2000 - 1 - s_1.snd < ((3 : Nat) - s) * 2000 - 1 - i ∧ True)) ∧ (decide ((↑i : Int) < (↑l.length : Int)) = false → ∃ (s_1 : Nat),l = l ∧ mp0.ms = mp0.ms ∧ mp0.ml = mp0.ml ∧ mp0.mt =
 mp0.mt ∧ mp0.mc = mp0.mc ∧ mp0.md = mp0.md ∧ rowsN l s = rowsN l s_1 ∧ i64.wrap ((↑s : Int) + 1) = (↑s_1 : Int) ∧ s_1 ≤ 3 ∧ ((3 : Nat) - s_1) * 2000 < ((3 : Nat) - s) * 2000 - 1 - i ∧ True)) := by kernel_rfl
theorem clockr_e : Go.Sy.Tree.holds (entryX F (lookC lP) 400 Tryz.f106 b106 ⟨[],clockD.res ((mp0,()) : Mp × Unit),[]⟩ [.agg (enc4 mp0)]) = ( placeD.pre (Mp.mk mp0.ms mp0.ml mp0.mt mp0.mc mp0.md,Pk.mk (1 : Int) (0 :
 Int) (0 : Int) (0 : Int),()) ∧ AVal.int i64 (placeT (Pk.mk (1 : Int) (0 : Int) (0 : Int) (0 : Int))) = AVal.int i64 (0 : Int) ∧ True) := by kernel_rfl
theorem seqr_e : Go.Sy.Tree.holds (entryX F (lookC lP) 400 Tryz.f107 b107 ⟨[],seqD.res ((mp0,()) : Mp × Unit),[]⟩ [.agg (enc4 mp0)]) = ( placeD.pre (Mp.mk mp0.ms mp0.ml mp0.mt mp0.mc mp0.md,Pk.mk (2 : Int) (0 : Int)
 (0 : Int) (0 : Int),()) ∧ AVal.int i64 (placeT (Pk.mk (2 : Int) (0 : Int) (0 : Int) (0 : Int))) = AVal.int i64 (1 : Int) ∧ True) := by kernel_rfl
theorem striper_e (d : Int) : Go.Sy.Tree.holds (entryX F (lookC lP) 400 Tryz.f112 b112 ⟨[],stripeD.res ((mp0,d,()) : Mp × Int × Unit),[]⟩ [.agg (enc4 mp0),.i .i64 (d)]) = ( placeD.pre (Mp.mk mp0.ms mp0.ml mp0.mt
 mp0.mc mp0.md,Pk.mk (3 : Int) d (0 : Int) (0 : Int),()) ∧ placeT (Pk.mk (3 : Int) d (0 : Int) (0 : Int)) = 2 + d ∧ True) := by kernel_rfl
theorem threadr_e (t : Int) : Go.Sy.Tree.holds (entryX F (lookC lP) 400 Tryz.f117 b117 ⟨[],threadD.res ((mp0,t,0,()) : Mp × Int × Int × Unit),[]⟩ [.agg (enc4 mp0),.i .i64 (t),.i .i64 (0)]) = ( placeD.pre (Mp.mk
 mp0.ms mp0.ml mp0.mt mp0.mc mp0.md,Pk.mk (5 : Int) t (0 : Int) (0 : Int),()) ∧ placeT (Pk.mk (5 : Int) t (0 : Int) (0 : Int)) = 11 + 2 * t ∧ True) := by kernel_rfl
theorem hashr_e (a : Int) : Go.Sy.Tree.holds (entryX F (lookC lH) 400 Tryz.f85 b85r ⟨[],hashD.res ((mp0,a,()) : Mp × Int × Unit),[]⟩ [.agg (enc4 mp0),.i .i64 a]) = ( mayD.pre (Mp.mk mp0.ms mp0.ml mp0.mt mp0.mc
 mp0.md,()) ∧ (decide (a < 0) = true → (-1 : Int) = hashT a ∧ True) ∧ (decide (a < 0) = false → sizeD.pre (Mp.mk mp0.ms mp0.ml mp0.mt mp0.mc mp0.md,()) ∧ (decide (a ≥ (34 : Int)) = true → (-1 : Int) = hashT a ∧ True) ∧
 (decide (a ≥ (34 : Int)) = false → (0 : Int) ≤ 4 ∧ mp0.ms ≠ (0 : Int) ∧ (i64.wrap (↑(BitVec.ofInt i64.bits a ^^^ BitVec.ofInt i64.bits (a.fdiv (16 : Int))).toNat : Int)).tmod mp0.ms = hashT a ∧
 True))) := by kernel_rfl
theorem in_e (s : Mw) (k : Int) : Go.Sy.Tree.holds (entryX F (lookC []) 400 Tryz.f139 b139 ⟨[],.a (.bool true),[]⟩ [.fp (enc8 s),.i .i64 k]) = ( (decide (k ≥ (0 : Int)) = true → AVal.bool (decide (k < (↑s.ws.length :
 Int))) = AVal.bool true ∧ True) ∧ (decide (k ≥ (0 : Int)) = false → constA (Value.bool false) = AVal.bool true ∧ True)) := by kernel_rfl
theorem roomr_e (s : Rs) (k : Int) : Go.Sy.Tree.holds (entryX F (lookC l48) 400 Tryz.f48 b48 ⟨[],.a (.bool true),[]⟩ [.fp (enc5 s),.i .i64 k]) = ( seekD.pre (s.ls,k,()) ∧ (decide (findT s.ls k ≥ (0 : Int)) = true →
 constA (Value.bool true) = AVal.bool true ∧ True) ∧ (decide (findT s.ls k ≥ (0 : Int)) = false → AVal.bool (decide ((↑s.ls.length : Int) < s.rm)) = AVal.bool true ∧ True)) := by kernel_rfl
noncomputable def litF (k : List (FuncId × List Int × Int)) (f : FuncId) : Nat → List AVal → Heap → Option (AVal × Heap) := fun _ args H => match argK args with
 | some ns => (k.find? fun x => x.1 == f && x.2.1 == ns).map fun x => (.int .i64 x.2.2,H)
 | none => none
theorem litCtr {f : FuncId} (hf : F.S.hook f = some (litF litL f)) (D : CtrD cod) (ho : ∀ x,D.objs x = [])
 (hr : ∀ x,D.pre x → ∀ (H : Heap) (av : List AVal),Ers (away H) (argsS D.pats x) av → ∃ v,(litF litL f 0 av H = some (v,H)) ∧ ∀ (E : Env) (d : Nat),Er E (shiftS d (D.res x)) v) : CtrOk1 F.S f (mkCtr D) := by
 intro E lo wlo args h H K av hh hS hA
 obtain ⟨x,⟨hpre,hK⟩,hAx⟩ := takeAll_ok codOk hS hA hh
 obtain ⟨v,e,hE⟩ := hr x hpre H av hAx
 have hK : (K (shiftS h.length (D.res x)) (h ++ (D.objs x).map fun o => some (shiftO h.length o))).holds := hK
 rw [ho,List.map_nil,List.append_nil] at hK
 exact ⟨v,H,_,_,E,⟨0,by simp only [callA,hf]; exact e⟩,LeN.refl _ _,qf _,hS,qf _,hE E _,hK⟩
theorem int_inv {E : Env} {n : Int} {a : AVal} (h : Er E (.i (T := cod.T) .i64 n) a) : a = .int .i64 n := by
 cases h
 rfl
theorem ints_inv {E : Env} : ∀ {ns : List Int} {l : List AVal},Ers E (ns.map fun n => .i (T := cod.T) .i64 n) l → l = ns.map (.int .i64)
 | [],l,h => h.inv_nil
 | n :: ns,l,h => by
  obtain ⟨a,q,rfl,h1,h2⟩ := h.inv_cons
  rw [int_inv h1,ints_inv h2]
  rfl
theorem map_inv {E : Env} {a : AVal} (h : Er E (.agg (T := cod.T) (enc4 mp0)) a) : a = mapA := by
 generalize e : (SV.agg (enc4 mp0) : SV cod.T) = x at h
 cases h with
 | agg h1 h2 =>
  cases e
  have := ints_inv (E := E) (ns := [3,1,3,0,4]) ⟨h1,h2⟩
  rw [this]
  rfl
 | _ => cases e
theorem place_inv {E : Env} {p : Pk} {a : AVal} (h : Er E (.agg (T := cod.T) (enc9 p)) a) : a = .agg ([p.pk,p.pi,p.pj,p.pp].map (.int .i64)) := by
 generalize e : (SV.agg (enc9 p) : SV cod.T) = x at h
 cases h with
 | agg h1 h2 =>
  cases e
  have := ints_inv (E := E) (ns := [p.pk,p.pi,p.pj,p.pp]) ⟨h1,h2⟩
  rw [this]
 | _ => cases e
theorem sizeROk : CtrOk1 F.S 27 (mkCtr sizeD) := litCtr (by kernel_rfl) sizeD (fun _ => rfl) (by
 rintro ⟨m,u⟩ h H av hA
 obtain rfl : m = mp0 := h
 obtain ⟨a,q,rfl,h1,h2⟩ := Ers.inv_cons hA
 rw [map_inv h1,h2.inv_nil]
 exact ⟨.int .i64 34,(by kernel_rfl),fun E d => .a _⟩)
theorem three {d : Int} (h0 : 0 ≤ d) (h1 : d < 3) : d = 0 ∨ d = 1 ∨ d = 2 := by omega
theorem placeROk : CtrOk1 F.S 138 (mkCtr placeD) := litCtr (by kernel_rfl) placeD (fun _ => rfl) (by
 rintro ⟨m,p,u⟩ ⟨h,hp⟩ H av hA
 obtain rfl : m = mp0 := h
 obtain ⟨a,q,rfl,h1,h2⟩ := Ers.inv_cons hA
 obtain ⟨b,r,rfl,h3,h4⟩ := Ers.inv_cons h2
 rw [map_inv h1,place_inv h3,h4.inv_nil]
 obtain ⟨k,i,j,t⟩ := p
 obtain ⟨e1,e2,hk⟩ := hp
 obtain rfl : j = 0 := e1
 obtain rfl : t = 0 := e2
 rcases hk with ⟨e,e2⟩ | ⟨e,e2⟩ | ⟨e,h5,h6⟩ | ⟨e,h5,h6⟩
 ·obtain rfl : k = 1 := e
  obtain rfl : i = 0 := e2
  exact ⟨.int .i64 0,(by kernel_rfl),fun E d => .i _ _⟩
 ·obtain rfl : k = 2 := e
  obtain rfl : i = 0 := e2
  exact ⟨.int .i64 1,(by kernel_rfl),fun E d => .i _ _⟩
 ·obtain rfl : k = 3 := e
  rcases three h5 h6 with e | e | e
  ·obtain rfl : i = 0 := e
   exact ⟨.int .i64 2,(by kernel_rfl),fun E d => .i _ _⟩
  ·obtain rfl : i = 1 := e
   exact ⟨.int .i64 3,(by kernel_rfl),fun E d => .i _ _⟩
  ·obtain rfl : i = 2 := e
   exact ⟨.int .i64 4,(by kernel_rfl),fun E d => .i _ _⟩
 ·obtain rfl : k = 5 := e
  rcases three h5 h6 with e | e | e
  ·obtain rfl : i = 0 := e
   exact ⟨.int .i64 11,(by kernel_rfl),fun E d => .i _ _⟩
  ·obtain rfl : i = 1 := e
   exact ⟨.int .i64 13,(by kernel_rfl),fun E d => .i _ _⟩
  ·obtain rfl : i = 2 := e
   exact ⟨.int .i64 15,(by kernel_rfl),fun E d => .i _ _⟩)
theorem lPOk : CtrOk F.S (lookC lP) := lookC_ok fun p h => by
 simp only [lP,qn,qs,or_false] at h
 subst h
 exact placeROk
theorem clockROk : CtrOk1 F.S 106 (mkCtr clockD) :=
 mkCtr_paid (fn := Tryz.f106) (body := b106) (ctr := lookC lP) codOk noExt hookLow lPOk Tryz.func106 rfl rfl (by kernel_rfl) clockD 400 (fun _ => []) (show 1 ≤ Tryz.f106.ntmps by decide) (show Tryz.f106.ntmps ≤ 512 by decide) (by kernel_rfl) (fun _ _ => ⟨rfl,rfl⟩)
  (fun (x : Mp × Unit) h => by
   obtain ⟨m,u⟩ := x
   obtain rfl : m = mp0 := h
   refine ⟨?_⟩
   show (entryX F (lookC lP) 400 Tryz.f106 b106 ⟨[],clockD.res ((mp0,()) : Mp × Unit),[]⟩ [.agg (enc4 mp0)]).holds
   rw [clockr_e]
   exact ⟨⟨rfl,rfl,rfl,.inl ⟨rfl,rfl⟩⟩,rfl,trivial⟩) (fun x h q hm => by cases hm)
theorem seqROk : CtrOk1 F.S 107 (mkCtr seqD) :=
 mkCtr_paid (fn := Tryz.f107) (body := b107) (ctr := lookC lP) codOk noExt hookLow lPOk Tryz.func107 rfl rfl (by kernel_rfl) seqD 400 (fun _ => []) (show 1 ≤ Tryz.f107.ntmps by decide) (show Tryz.f107.ntmps ≤ 512 by decide) (by kernel_rfl) (fun _ _ => ⟨rfl,rfl⟩)
  (fun (x : Mp × Unit) h => by
   obtain ⟨m,u⟩ := x
   obtain rfl : m = mp0 := h
   refine ⟨?_⟩
   show (entryX F (lookC lP) 400 Tryz.f107 b107 ⟨[],seqD.res ((mp0,()) : Mp × Unit),[]⟩ [.agg (enc4 mp0)]).holds
   rw [seqr_e]
   exact ⟨⟨rfl,rfl,rfl,.inr (.inl ⟨rfl,rfl⟩)⟩,rfl,trivial⟩) (fun x h q hm => by cases hm)
theorem stripeROk : CtrOk1 F.S 112 (mkCtr stripeD) :=
 mkCtr_paid (fn := Tryz.f112) (body := b112) (ctr := lookC lP) codOk noExt hookLow lPOk Tryz.func112 rfl rfl (by kernel_rfl) stripeD 400 (fun _ => []) (show 2 ≤ Tryz.f112.ntmps by decide) (show Tryz.f112.ntmps ≤ 512 by decide) (by kernel_rfl) (fun _ _ => ⟨rfl,rfl⟩)
  (fun (x : Mp × Int × Unit) h => by
   obtain ⟨m,d,u⟩ := x
   obtain ⟨h0,h1,h2⟩ := h
   obtain rfl : m = mp0 := h0
   refine ⟨?_⟩
   show (entryX F (lookC lP) 400 Tryz.f112 b112 ⟨[],stripeD.res ((mp0,d,()) : Mp × Int × Unit),[]⟩ [.agg (enc4 mp0),.i .i64 (d)]).holds
   rw [striper_e]
   exact ⟨⟨rfl,rfl,rfl,.inr (.inr (.inl ⟨rfl,h1,h2⟩))⟩,rfl,trivial⟩) (fun x h q hm => by cases hm)
theorem threadROk : CtrOk1 F.S 117 (mkCtr threadD) :=
 mkCtr_paid (fn := Tryz.f117) (body := b117) (ctr := lookC lP) codOk noExt hookLow lPOk Tryz.func117 rfl rfl (by kernel_rfl) threadD 400 (fun _ => []) (show 3 ≤ Tryz.f117.ntmps by decide) (show Tryz.f117.ntmps ≤ 512 by decide) (by kernel_rfl) (fun _ _ => ⟨rfl,rfl⟩)
  (fun (x : Mp × Int × Int × Unit) h => by
   obtain ⟨m,t,p,u⟩ := x
   obtain ⟨h0,h1,h2,h3⟩ := h
   obtain rfl : m = mp0 := h0
   obtain rfl : p = (0 : Int) := h3
   refine ⟨?_⟩
   show (entryX F (lookC lP) 400 Tryz.f117 b117 ⟨[],threadD.res ((mp0,t,0,()) : Mp × Int × Int × Unit),[]⟩ [.agg (enc4 mp0),.i .i64 (t),.i .i64 (0)]).holds
   rw [threadr_e]
   exact ⟨⟨rfl,rfl,rfl,.inr (.inr (.inr ⟨rfl,h1,h2⟩))⟩,rfl,trivial⟩) (fun x h q hm => by cases hm)
theorem mayROk : CtrOk1 F.S 77 (mkCtr mayD) :=
 mkCtr_paid (fn := Tryz.f77) (body := b77r) (ctr := lookC []) codOk noExt hookLow noneOk Tryz.func77 rfl rfl (by kernel_rfl) mayD 400 (fun _ => []) (show 1 ≤ Tryz.f77.ntmps by decide) (show Tryz.f77.ntmps ≤ 512 by decide) (by kernel_rfl) (fun _ _ => ⟨rfl,rfl⟩)
  (fun x h => by
   obtain ⟨m,u⟩ := x
   obtain rfl : m = mp0 := h
   refine ⟨?_⟩
   show (entryX F (lookC []) 400 Tryz.f77 b77r ⟨[],mayD.res ((mp0,()) : Mp × Unit),[]⟩ [.agg (enc4 mp0)]).holds
   rw [mayr_e]
   simp) (fun x h q hm => by cases hm)
theorem lHOk : CtrOk F.S (lookC lH) := lookC_ok fun p h => by
 simp only [lH,qn,qs,or_false] at h
 rcases h with rfl | rfl
 ·exact mayROk
 ·exact sizeROk
theorem hashROk : CtrOk1 F.S 85 (mkCtr hashD) :=
 mkCtr_paid (fn := Tryz.f85) (body := b85r) (ctr := lookC lH) codOk noExt hookLow lHOk Tryz.func85 rfl rfl (by kernel_rfl) hashD 400 (fun _ => []) (show 2 ≤ Tryz.f85.ntmps by decide) (show Tryz.f85.ntmps ≤ 512 by decide) (by kernel_rfl) (fun _ _ => ⟨rfl,rfl⟩)
  (fun (x : Mp × Int × Unit) h => by
   obtain ⟨m,a,u⟩ := x
   obtain ⟨h0,h1⟩ := h
   obtain rfl : m = mp0 := h0
   refine ⟨?_⟩
   show (entryX F (lookC lH) 400 Tryz.f85 b85r ⟨[],hashD.res ((mp0,a,()) : Mp × Int × Unit),[]⟩ [.agg (enc4 mp0),.i .i64 a]).holds
   rw [hashr_e]
   rcases h1 with e | e | e | e
   ·obtain rfl : a = (26 : Int) := e
    exact ⟨rfl,fun h => absurd h (by decide),fun _ => ⟨rfl,fun h => absurd h (by decide),fun _ => ⟨by decide,by decide,by kernel_rfl,trivial⟩⟩⟩
   ·obtain rfl : a = (28 : Int) := e
    exact ⟨rfl,fun h => absurd h (by decide),fun _ => ⟨rfl,fun h => absurd h (by decide),fun _ => ⟨by decide,by decide,by kernel_rfl,trivial⟩⟩⟩
   ·obtain rfl : a = (30 : Int) := e
    exact ⟨rfl,fun h => absurd h (by decide),fun _ => ⟨rfl,fun h => absurd h (by decide),fun _ => ⟨by decide,by decide,by kernel_rfl,trivial⟩⟩⟩
   ·obtain rfl : a = (32 : Int) := e
    exact ⟨rfl,fun h => absurd h (by decide),fun _ => ⟨rfl,fun h => absurd h (by decide),fun _ => ⟨by decide,by decide,by kernel_rfl,trivial⟩⟩⟩) (fun x h q hm => by cases hm)
theorem holderROk : CtrOk1 F.S 123 (mkCtr holderD) :=
 mkCtr_paid (fn := Tryz.f123) (body := b123) (ctr := lookC []) codOk noExt hookLow noneOk Tryz.func123 rfl rfl (by kernel_rfl) holderD 400 (fun _ => []) (show 1 ≤ Tryz.f123.ntmps by decide) (show Tryz.f123.ntmps ≤ 512 by decide) (by kernel_rfl) (fun _ _ => ⟨rfl,rfl⟩)
  (fun (x : Int × Unit) h => by
   obtain ⟨x,u⟩ := x
   refine ⟨?_⟩
   show (entryX F (lookC []) 400 Tryz.f123 b123 ⟨[],holderD.res ((x,()) : Int × Unit),[]⟩ [.i .i64 (x)]).holds
   rw [holdr_e]
   have h1 : 0 ≤ x := h.1
   have h2 : x < 1099511627776 := h.2
   exact ⟨by rw [and15 h1 h2,wrap64 (by omega) (by omega)],trivial⟩) (fun x h q hm => by cases hm)
theorem versionROk : CtrOk1 F.S 124 (mkCtr versionD) :=
 mkCtr_paid (fn := Tryz.f124) (body := b124) (ctr := lookC []) codOk noExt hookLow noneOk Tryz.func124 rfl rfl (by kernel_rfl) versionD 400 (fun _ => []) (show 1 ≤ Tryz.f124.ntmps by decide) (show Tryz.f124.ntmps ≤ 512 by decide) (by kernel_rfl) (fun _ _ => ⟨rfl,rfl⟩)
  (fun (x : Int × Unit) h => by
   obtain ⟨x,u⟩ := x
   refine ⟨?_⟩
   show (entryX F (lookC []) 400 Tryz.f124 b124 ⟨[],versionD.res ((x,()) : Int × Unit),[]⟩ [.i .i64 (x)]).holds
   rw [versr_e]
   exact ⟨by decide,Int.fdiv_eq_ediv_of_nonneg _ (by decide),trivial⟩) (fun x h q hm => by cases hm)
theorem l113Ok : CtrOk F.S (lookC l113) := lookC_ok fun p h => by
 simp only [l113,qn,qs,or_false] at h
 rcases h with rfl | rfl
 ·exact holderROk
 ·exact versionROk
theorem freshROk : CtrOk1 F.S 113 (mkCtr freshD) :=
 mkCtr_paid (fn := Tryz.f113) (body := b113) (ctr := lookC l113) codOk noExt hookLow l113Ok Tryz.func113 rfl rfl (by kernel_rfl) freshD 400 (fun _ => []) (show 2 ≤ Tryz.f113.ntmps by decide) (show Tryz.f113.ntmps ≤ 512 by decide) (by kernel_rfl) (fun _ _ => ⟨rfl,rfl⟩)
  (fun (x : Int × Int × Unit) h => by
   obtain ⟨x,s,u⟩ := x
   refine ⟨?_⟩
   show (entryX F (lookC l113) 400 Tryz.f113 b113 ⟨[],freshD.res ((x,s,()) : Int × Int × Unit),[]⟩ [.i .i64 (x),.i .i64 (s)]).holds
   rw [freshr_e]
   unfold freshT
   refine ⟨h,fun g => ?_,fun g => ⟨h,fun g2 => ?_,fun g2 => ?_⟩⟩
   ·rw [if_pos (qb g)]; exact ⟨rfl,trivial⟩
   ·rw [if_neg (qc g),if_pos (qb g2)]; exact ⟨rfl,trivial⟩
   ·rw [if_neg (qc g),if_neg (qc g2)]; exact ⟨rfl,trivial⟩) (fun x h q hm => by cases hm)
theorem takenROk : CtrOk1 F.S 143 (mkCtr takenD) :=
 mkCtr_paid (fn := Tryz.f143) (body := b143) (ctr := lookC []) codOk noExt hookLow noneOk Tryz.func143 rfl rfl (by kernel_rfl) takenD 400 (fun _ => []) (show 2 ≤ Tryz.f143.ntmps by decide) (show Tryz.f143.ntmps ≤ 512 by decide) (by kernel_rfl) (fun _ _ => ⟨rfl,rfl⟩)
  (fun (x : Int × Int × Unit) h => by
   obtain ⟨x,t,u⟩ := x
   refine ⟨?_⟩
   show (entryX F (lookC []) 400 Tryz.f143 b143 ⟨[],takenD.res ((x,t,()) : Int × Int × Unit),[]⟩ [.i .i64 (x),.i .i64 (t)]).holds
   rw [takenr_e]
   have h1 : 0 ≤ x := h.1
   have h2 : x < 1099511627776 := h.2.1
   have h3 : 0 ≤ t := h.2.2.1
   have h4 : t < 3 := h.2.2.2
   refine ⟨fun g => ?_,fun _ => ⟨fun g => ?_,fun _ => ⟨?_,trivial⟩⟩⟩
   ·have := qb g; omega
   ·have := qb g; omega
   ·rw [and15 h1 h2,wrap64 (n := x - x % 16) (by omega) (by omega),wrap64 (n := x - x % 16 + t) (by omega) (by omega),wrap64 (by omega) (by omega)]) (fun x h q hm => by cases hm)
theorem seek_2_ok (l : List Wo) (k : Int) (hl : l.length ≤ 1000) (i : Nat) (hi : i ≤ l.length) (hh : findT l k = findGo k (l.drop i) i) : Paid (cutVC F (lookC []) 400 Tryz.f84 b84 (seekF l k) 2 (seekC l k) i) := by
 refine ⟨?_⟩
 rw [seek_2]
 refine ⟨fun h => ?_,fun h => ?_⟩
 ·simp only [decide_eq_true_eq] at h
  have hlt : i < l.length := by omega
  rw [at3_get hlt]
  rw [List.drop_eq_getElem_cons hlt,findGo] at hh
  refine ⟨⟨by omega,h⟩,fun g => ⟨?_,trivial⟩,fun g => ⟨i + 1,rfl,rfl,by rw [wrap64 (by omega) (by omega)]; rfl,⟨hlt, ?_⟩,by omega,trivial⟩⟩
  ·rw [hh,if_pos (eq_of_beq g)]
  ·rw [hh,if_neg (ne_of_beq_false g)]; rfl
 ·simp only [decide_eq_false_iff_not] at h
  rw [List.drop_eq_nil_of_le (by omega)] at hh
  exact ⟨hh.symm,trivial⟩
theorem seekOk : CtrOk1 F.S 84 (mkCtr seekD) :=
 mkCtr_paid (fn := Tryz.f84) (body := b84) (ctr := lookC []) codOk noExt hookLow noneOk Tryz.func84 rfl rfl (by kernel_rfl) seekD 400 (fun (x : List Wo × Int × Unit) => [(2,seekC x.1 x.2.1)]) (show 2 ≤ Tryz.f84.ntmps by decide) (show Tryz.f84.ntmps ≤ 512 by decide) (by kernel_rfl) (fun _ _ => ⟨rfl,rfl⟩)
  (fun (x : List Wo × Int × Unit) h => by
   refine ⟨?_⟩
   show (entryX F (lookC []) 400 Tryz.f84 b84 (seekF x.1 x.2.1) [.tl (T := T) 3 x.1,.i .i64 x.2.1]).holds
   rw [seek_e]
   exact ⟨0,rfl,rfl,rfl,⟨Nat.zero_le _,rfl⟩,trivial⟩) (fun (x : List Wo × Int × Unit) h q hm i hI => by
   simp only [qb1] at hm
   subst hm
   exact seek_2_ok x.1 x.2.1 h i hI.1 hI.2)
theorem filt_or (a b c d : Bool) (k : Int) (hk : isData k) : u64.wrap ((BitVec.ofInt u64.bits (filtB a b c d) ||| BitVec.ofInt u64.bits (u64.wrap (1 * 2 ^ min (u64.wrap (k.tmod 64)).toNat u64.bits))).toNat : Int) = filtB (a || (k == 26)) (b || (k == 28)) (c || (k == 30)) (d || (k == 32)) := by
 rcases hk with rfl | rfl | rfl | rfl <;> cases a <;> cases b <;> cases c <;> cases d <;> kernel_rfl
theorem filt_3_ok (w : Wq) (hl : w.ls.length ≤ 1000) (hd : ∀ y ∈ w.ls,isData y.pl) (i : Nat) (hi : i ≤ w.ls.length) : Paid (cutVC F (lookC []) 400 Tryz.f83 b83 (filtF w) 3 (filtC w) i) := by
 refine ⟨?_⟩
 rw [filt_3]
 refine ⟨fun h => ?_,fun h => ?_⟩
 ·simp only [decide_eq_true_eq] at h
  have hlt : i < w.ls.length := by omega
  rw [at3_get hlt]
  have hk := hd _ (List.getElem_mem hlt)
  refine ⟨⟨by omega,h⟩, ?_,i + 1,rfl,rfl,rfl, ?_,by rw [wrap64 (by omega) (by omega)]; rfl,hlt,by omega,trivial⟩
  ·rcases hk with e | e | e | e <;> rw [e] <;> decide
  ·rw [filt_is,filt_is,filt_or _ _ _ _ _ hk,hasB_take hlt,hasB_take hlt,hasB_take hlt,hasB_take hlt]
 ·simp only [decide_eq_false_iff_not] at h
  rw [List.take_of_length_le (by omega)]
  exact ⟨rfl,trivial⟩
theorem filtOk : CtrOk1 F.S 83 (mkCtr filtD) :=
 mkCtr_paid (fn := Tryz.f83) (body := b83) (ctr := lookC []) codOk noExt hookLow noneOk Tryz.func83 rfl rfl (by kernel_rfl) filtD 400 (fun (x : Wq × Unit) => [(3,filtC x.1)]) (show 1 ≤ Tryz.f83.ntmps by decide) (show Tryz.f83.ntmps ≤ 512 by decide) (by kernel_rfl) (fun _ _ => ⟨rfl,rfl⟩)
  (fun (x : Wq × Unit) h => by
   refine ⟨?_⟩
   show (entryX F (lookC []) 400 Tryz.f83 b83 (filtF x.1) [.fp (enc7 x.1)]).holds
   rw [filt_e]
   exact ⟨0,rfl,rfl,rfl,rfl,rfl,Nat.zero_le _,trivial⟩) (fun (x : Wq × Unit) h q hm i hI => by
   simp only [qb1] at hm
   subst hm
   exact filt_3_ok x.1 h.1 h.2 i hI)
theorem l141Ok : CtrOk F.S (lookC l141) := lookC_ok fun p h => by
 simp only [l141,qn,qs,or_false] at h
 rcases h with rfl | rfl
 ·exact mayROk
 ·exact hashROk
theorem rowsN_len (l : List Int) : ∀ s : Nat,(rowsN l s).length ≤ s
 | 0 => qf _
 | s + 1 => by
  have := rowsN_len l s
  simp only [rowsN,qr]
  cases inR (s : Int) l <;> simp <;> omega
theorem rowsN3 (l : List Int) : rowsN l 3 = rowsT l := by
 simp only [rowsN,rowsT]
 cases h0 : inR 0 l <;> cases h1 : inR 1 l <;> cases h2 : inR 2 l <;> simp [h0,h1,h2]
theorem inR_up {l : List Int} {r : Int} {i : Nat} (hlt : i < l.length) (h : (hashT l[i] == r) = true) : inR r l = true := List.any_eq_true.2 ⟨_,List.getElem_mem hlt,h⟩
theorem rowsr_3_ok (l : List Int) (h2 : l.length ≤ 1000) (h3 : ∀ a ∈ l,isData a) (s : Nat) (hs : s ≤ 3) : Paid (cutVC F (lookC l141) 400 Tryz.f141 b141 (rowsRF l) 3 (rowsO l) s) := by
 refine ⟨?_⟩
 rw [rowsr_3]
 refine ⟨fun g => ?_,fun g => ?_⟩
 ·have g : (s : Int) < 3 := qb g
  exact ⟨rfl,(s,0),rfl,rfl,rfl,rfl,rfl,rfl,rfl,rfl,rfl,⟨by omega,Nat.zero_le _,rfl⟩,by show (3 - s) * 2000 - 1 - 0 < (3 - s) * 2000; omega,trivial⟩
 ·have g : ¬ (s : Int) < 3 := qc g
  have : s = 3 := by omega
  subst this
  exact ⟨rowsN3 l,trivial⟩
theorem rowsr_6_ok (l : List Int) (h2 : l.length ≤ 1000) (h3 : ∀ a ∈ l,isData a) (s i : Nat) (hs : s < 3) (hi : i ≤ l.length) (hn : inR (s : Int) (l.take i) = false) : Paid (cutVC F (lookC l141) 400 Tryz.f141 b141 (rowsRF l) 6 (rowsI l) (s,i)) := by
 refine ⟨?_⟩
 rw [rowsr_6]
 refine ⟨fun g => ?_,fun g => ?_⟩
 ·simp only [decide_eq_true_eq] at g
  have hlt : i < l.length := by omega
  rw [at0_get hlt]
  have hd := h3 _ (List.getElem_mem hlt)
  refine ⟨⟨by omega,g⟩,⟨rfl,hd⟩,fun g2 => ⟨?_,s + 1,rfl,rfl,rfl,rfl,rfl,rfl, ?_,by rw [wrap64 (by omega) (by omega)]; rfl,by omega,by omega,trivial⟩,fun g2 => ⟨(s,i + 1),rfl,rfl,rfl,rfl,rfl,rfl,rfl,rfl,by rw [wrap64 (by omega) (by omega)]; rfl,⟨hs,hlt, ?_⟩,by show (3 - s) * 2000 - 1 - (i + 1) < (3 - s) * 2000 - 1 - i; omega,trivial⟩⟩
  ·have := rowsN_len l s
   simp only [qp,List.length_nil]
   omega
  ·simp only [rowsN]
   rw [inR_up hlt g2]
   rfl
  ·rw [inR_take hlt,hn,g2]; rfl
 ·simp only [decide_eq_false_iff_not] at g
  rw [List.take_of_length_le (by omega)] at hn
  refine ⟨s + 1,rfl,rfl,rfl,rfl,rfl,rfl, ?_,by rw [wrap64 (by omega) (by omega)]; rfl,by omega,by omega,trivial⟩
  simp only [rowsN]
  rw [hn]
  exact (List.append_nil _).symm
theorem rowsROk (lab : Nat) : CtrOk1 F.S 141 (labCtr rowsLD lab) :=
 labCtr_ok (fn := Tryz.f141) (body := b141) (ctr := lookC l141) codOk noExt hookLow l141Ok Tryz.func141 rfl rfl (by kernel_rfl) rowsLD lab 400 (fun (x : Mp × List Int × Unit) => [(3,rowsO x.2.1),(6,rowsI x.2.1)]) (show 2 ≤ Tryz.f141.ntmps by decide) (show Tryz.f141.ntmps ≤ 512 by decide) (by kernel_rfl) rfl
  (fun (x : Mp × List Int × Unit) h => by
   obtain ⟨m,l,u⟩ := x
   obtain ⟨h1,h2,h3⟩ := h
   obtain rfl : m = mp0 := h1
   refine ⟨?_⟩
   show (entryX F (lookC l141) 400 Tryz.f141 b141 (rowsRF l) [.agg (enc4 mp0),.tl (T := T) 0 l]).holds
   rw [rowsr_e]
   exact ⟨0,rfl,rfl,rfl,rfl,rfl,rfl,rfl,rfl,Nat.zero_le _,trivial⟩) (fun (x : Mp × List Int × Unit) h q hm s hI => by
   obtain ⟨m,l,u⟩ := x
   obtain ⟨h1,h2,h3⟩ := h
   obtain rfl : m = mp0 := h1
   simp only [qn,qs,or_false] at hm
   rcases hm with rfl | rfl
   ·exact rowsr_3_ok l h2 h3 s hI
   ·exact rowsr_6_ok l h2 h3 s.1 s.2 hI.1 hI.2.1 hI.2.2)
theorem inOk : CtrOk1 F.S 139 (mkCtr inD) :=
 mkCtr_paid (fn := Tryz.f139) (body := b139) (ctr := lookC []) codOk noExt hookLow noneOk Tryz.func139 rfl rfl (by kernel_rfl) inD 400 (fun _ => []) (show 2 ≤ Tryz.f139.ntmps by decide) (show Tryz.f139.ntmps ≤ 512 by decide) (by kernel_rfl) (fun _ _ => ⟨rfl,rfl⟩)
  (fun (x : Mw × Int × Unit) h => by
   refine ⟨?_⟩
   show (entryX F (lookC []) 400 Tryz.f139 b139 ⟨[],.a (.bool true),[]⟩ [.fp (enc8 x.1),.i .i64 x.2.1]).holds
   rw [in_e]
   exact ⟨fun _ => ⟨by rw [decide_eq_true h.2],trivial⟩,fun g => absurd h.1 (qc g)⟩) (fun x h q hm => by cases hm)
theorem l48Ok : CtrOk F.S (lookC l48) := lookC_ok fun p h => by
 simp only [l48,qn,qs,or_false] at h
 subst h
 exact seekOk
theorem roomROk : CtrOk1 F.S 48 (mkCtr roomD) :=
 mkCtr_paid (fn := Tryz.f48) (body := b48) (ctr := lookC l48) codOk noExt hookLow l48Ok Tryz.func48 rfl rfl (by kernel_rfl) roomD 400 (fun _ => []) (show 2 ≤ Tryz.f48.ntmps by decide) (show Tryz.f48.ntmps ≤ 512 by decide) (by kernel_rfl) (fun _ _ => ⟨rfl,rfl⟩)
  (fun (x : Rs × Int × Unit) h => by
   refine ⟨?_⟩
   show (entryX F (lookC l48) 400 Tryz.f48 b48 ⟨[],.a (.bool true),[]⟩ [.fp (enc5 x.1),.i .i64 x.2.1]).holds
   rw [roomr_e]
   have h1 : x.1.rm = 32 := h.1
   have h2 : x.1.ls.length < 32 := h.2
   exact ⟨by show x.1.ls.length ≤ 1000; omega,fun _ => ⟨rfl,trivial⟩,fun _ => ⟨by rw [h1,decide_eq_true (by omega)],trivial⟩⟩) (fun x h q hm => by cases hm)
end Go.Proofs.YtmjjljngaefpaaaGreat
