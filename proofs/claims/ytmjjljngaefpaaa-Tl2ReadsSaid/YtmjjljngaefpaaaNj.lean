/- A pick of a run: its contract is sound. Printed by a program (gen_nj.py). -/
import Derived.Test.YtmjjljngaefpaaaNh
namespace Go.Proofs.Ytmjjljngaefpaaa
open Go.RowKit Go.Am Go.Sy
open Go.IntKind (i64 u64)
set_option linter.unusedVariables false
theorem th_b {X : XM} (hth : 0 ≤ X.th ∧ X.th < 3) (hW : X.W.length = 34) : thB X := by unfold thB; rw [hW]; omega
theorem wR_data {ws : List Wo} (hd : ∀ w ∈ ws,isData w.pl) : ∀ a ∈ ws.map (fun x => x.pl),isData a := fun a ha => by
 obtain ⟨w,hw,rfl⟩ := List.mem_map.1 ha
 exact hd w hw
theorem cm_ok {K : KT} {p : List Op} {i : Int} {rd : List Wo} {X : XM} {ws : List Wo} {fl : Int} {wc : V} {o4 : Option Ob} {os b : SH cod} {n : Nat} (hth : 0 ≤ X.th ∧ X.th < 3) (hW : X.W.length = 34) (hc : X.c = 1 ∨ X.c = 2) (hr : X.rows = []) (hd : ∀ w ∈ ws,isData w.pl) (hl : ws.length ≤ 4)
 (h5 : ws ≠ [] → leC K p i rd X ws fl wc o4 os b n X.c 5) (h0 : ws = [] → l0C K p i rd X fl wc o4 os b 11) : cmQ K p i rd X ws fl wc o4 os b n := by
 have hb := th_b hth hW
 refine ⟨hW,rfl,rfl,⟨rfl,hth.1,hth.2,rfl⟩,hb,hb,hb,hb,hb,fun h => ?_,fun h => ?_⟩
 ·have h := of_decide_eq_true h
  have hne : ws ≠ [] := fun e => by rw [e] at h; exact absurd h (by decide)
  have hp : 0 < (wR ws).length := rowsT_pos (by rw [List.length_map]; omega) (wR_data hd)
  have nd : ¬ decide (0 ≥ ((wR ws).length : Int)) = true := fun h => absurd (of_decide_eq_true h) (by omega)
  refine ⟨by omega,(show ws.length ≤ 1000 by omega),⟨rfl,by show (ws.map fun x => x.pl).length ≤ 1000; rw [List.length_map]; omega,wR_data hd⟩,fun c1 => ⟨fun h => absurd h nd,fun _ => ?_⟩,fun c1 => ⟨fun c2 => ⟨fun h => absurd h nd,fun _ => ?_⟩,fun c2 => ?_⟩⟩
  ·have := h5 hne
   rwa [eq_of_beq c1] at this
  ·have := h5 hne
   rwa [eq_of_beq c2] at this
  ·rcases hc with e | e
   ·rw [e] at c1; cases c1
   ·rw [e] at c2; cases c2
 ·have h := of_decide_eq_false h
  have he : ws = [] := List.eq_nil_of_length_eq_zero (by omega)
  subst he
  exact ⟨fun h => absurd (of_decide_eq_true h) (by decide),fun _ => ⟨fun _ => h0 rfl,fun h => absurd (of_decide_eq_false h) (by rw [hr]; decide)⟩⟩
variable (o : Nat → Option Ob)
theorem owed_end (R : RM) (he : R.end_ = 0) (hb : R.busy = false) (h5 : R.i = 5) (hp : pRd R = false) (hm : R.mv = false) (ho : opX R.X) (hw : R.X.ws = []) (hW : R.X.W.length = 34) : OwedN lNc R (hpF o 0 33) := by
 have ask : askL R = { R with X := commitX R.X,busy := true } := by unfold askL; rw [if_neg (by rw [hb]; decide),if_neg (by omega),if_neg (by rw [hp]; decide),if_neg (by rw [hm]; decide)]
 have hx : stepX (commitX R.X) = { stX (11 + 2 * R.X.th) 2 (commitX R.X) with ph := true,life := 2,part := 11,i := 0,code := 0 } := by
  show markX (commitX R.X) = _
  unfold markX
  rw [show gtB ((commitX R.X).ws.length : Int) 0 = false by show gtB (R.X.ws.length : Int) 0 = false; rw [hw]; rfl]
  rfl
 have hn : nextR R = { R with X := { stX (11 + 2 * R.X.th) 2 (commitX R.X) with ph := true,life := 2,part := 11,i := 0,code := 0 },busy := true } := by
  unfold nextR
  rw [if_pos he,ask,stepR_0 (by show (stepX (commitX R.X)).code = 0; rw [hx]),hx]
 have pl := plan_len R
 have hth := ho.1.th
 have hc := ho.1.c
 obtain ⟨X,mv,f,g,m,i,b,e,rd⟩ := R
 obtain rfl : b = false := hb
 obtain rfl : e = 0 := he
 obtain rfl : i = 5 := h5
 obtain ⟨s1,s2,s3,s4,s5,s6⟩ := ho
 have hX := split_op s2 s3 s4
 have hX : X = { X with life := 1,job := 0,ph := false } := hX
 refine ⟨?_⟩
 rw [show nInP (planL ⟨X,mv,f,g,m,5,false,0,rd⟩) ⟨X,mv,f,g,m,5,false,0,rd⟩ (hpF o 0 33) = nInP (planL ⟨X,mv,f,g,m,5,false,0,rd⟩) (rmP { X with life := 1,job := 0,ph := false } 5 false rd) (hpF o 0 33) from by rw [← hX]; rfl,nc]
 refine ⟨(fun h => by cases h),fun _ => ⟨fun _ => cm_ok hth hW hc s6 (fun w hwm => by have hw : X.ws = [] := hw; rw [hw] at hwm; cases hwm) (by have hw : X.ws = [] := hw; rw [hw]; decide) (fun h => absurd hw h) fun _ => ?_,fun h => absurd (of_decide_eq_false h) (by rw [pl]; decide)⟩⟩
 unfold l0C
 rw [f0]
 refine ⟨nextR ⟨X,mv,f,g,m,5,false,0,rd⟩, ?_⟩
 rw [hn]
 exact rQ_mk (⟨{ stX (11 + 2 * X.th) 2 (commitX X) with ph := true,life := 2,part := 11,i := 0,code := 0 },mv,f,g,m,5,true,0,rd⟩ : RM) (oE_mk ⟨rfl,trivial⟩ _)
theorem find_nil (a : Int) : findT [] a = -1 := rfl
theorem find_one {a b v : Int} (h : b ≠ a) : findT [⟨b,v⟩] a = -1 := by
 unfold findT findGo
 rw [if_neg h]
 rfl
theorem val_va {f g a b m : Int} (ne : f ≠ g) (k : Int) : vaT [⟨f,a⟩,⟨g,b⟩] ⟨k,f,-m⟩ = i64.wrap (a + -m) ∧ vaT [⟨f,a⟩,⟨g,b⟩] ⟨k,g,m⟩ = i64.wrap (b + m) := by
 unfold vaT
 simp only [vaGo,if_true,if_neg ne,if_neg (Ne.symm ne),and_self]
theorem owed_write (R : RM) (he : R.end_ = 0) (hb : R.busy = false) (h3 : R.i = 3) (hp : pRd R = false) (hm : R.mv = true) (ho : opX R.X) (hw : R.X.ws = []) (hW : R.X.W.length = 34) (P : PlOk R) (hrd : R.rd.map (·.pl) = [R.f,R.g]) : OwedN lNw R (hpF o 0 33) := by
 obtain ⟨a,b,hab⟩ := rd_two hrd
 have ne2 : (26 + 2 * R.f : Int) ≠ 26 + 2 * R.g := by have := P.ne; omega
 have df := data_of P.f.1 P.f.2
 have dg := data_of P.g.1 P.g.2
 have hv := val_two (a := a) (b := b) (m := R.m) P.ne
 have hva := val_va (a := a) (b := b) (m := R.m) P.ne 1
 rw [← hab] at hv hva
 have ask : askL R = { R with X := commitX (writeX (26 + 2 * R.g) (valT R.rd R.g R.m) (writeX (26 + 2 * R.f) (valT R.rd R.f (-R.m)) R.X)),busy := true,i := 5 } := by unfold askL; rw [if_neg (by rw [hb]; decide),if_neg (by omega),if_neg (by rw [hp]; decide),if_pos hm]
 have hws : putT (putT R.X.ws (26 + 2 * R.f) (valT R.rd R.f (-R.m))) (26 + 2 * R.g) (valT R.rd R.g R.m) = [⟨26 + 2 * R.f,vaT R.rd ⟨1,R.f,-R.m⟩⟩,⟨26 + 2 * R.g,vaT R.rd ⟨1,R.g,R.m⟩⟩] := by
  rw [hw,put_nil,put_one ne2,hv.1,hv.2,hva.1,hva.2]
 obtain ⟨Y,hY⟩ : ∃ Y,Y = commitX (writeX (26 + 2 * R.g) (valT R.rd R.g R.m) (writeX (26 + 2 * R.f) (valT R.rd R.f (-R.m)) R.X)) := ⟨_,rfl⟩
 have hYe : Y = { R.X with ws := [⟨26 + 2 * R.f,vaT R.rd ⟨1,R.f,-R.m⟩⟩,⟨26 + 2 * R.g,vaT R.rd ⟨1,R.g,R.m⟩⟩],life := 1,job := 4,part := 4,i := 0,code := 0 } := by
  rw [hY,← hws,← ho.2.1]
  rfl
 rw [← hY] at ask
 have hx : stepX Y = { stX (11 + 2 * Y.th) 2 Y with ph := true,rows := wR Y.ws,part := 5,bk := Y.c,bst := 0,bse := 0,bsp := 0,code := 0 } := by
  rw [hYe]
  rfl
 have hn : nextR R = { R with X := { stX (11 + 2 * Y.th) 2 Y with ph := true,rows := wR Y.ws,part := 5,bk := Y.c,bst := 0,bse := 0,bsp := 0,code := 0 },busy := true,i := 5 } := by
  unfold nextR
  rw [if_pos he,ask,stepR_0 (by show (stepX Y).code = 0; rw [hx]),hx]
 have pl := plan_len R
 have hth := ho.1.th
 have hc := ho.1.c
 have hrl : R.rd.length = 2 := by rw [hab]; rfl
 obtain ⟨X,mv,f,g,m,i,bz,e,rd⟩ := R
 obtain rfl : bz = false := hb
 obtain rfl : e = 0 := he
 obtain rfl : i = 3 := h3
 obtain rfl : mv = true := hm
 obtain ⟨s1,s2,s3,s4,s5,s6⟩ := ho
 have hX := split_op s2 s3 s4
 have hX : X = { X with life := 1,job := 0,ph := false } := hX
 have hw : X.ws = [] := hw
 have hrl : rd.length = 2 := hrl
 have df : isData (26 + 2 * f) := df
 have dg : isData (26 + 2 * g) := dg
 have Pf : 0 ≤ f ∧ f < 4 := P.f
 have Pg : 0 ≤ g ∧ g < 4 := P.g
 have ne2 : (26 + 2 * f : Int) ≠ 26 + 2 * g := ne2
 have W3 : wWo 3 (planL ⟨X,true,f,g,m,3,false,0,rd⟩) rd = ⟨26 + 2 * f,vaT rd ⟨1,f,-m⟩⟩ := rfl
 have W4 : wWo 4 (planL ⟨X,true,f,g,m,3,false,0,rd⟩) rd = ⟨26 + 2 * g,vaT rd ⟨1,g,m⟩⟩ := rfl
 have f3 : fOr (filtT X.ws) (26 + 2 * f) = filtT [⟨26 + 2 * f,vaT rd ⟨1,f,-m⟩⟩] := by
  rw [hw]
  exact filt_put [] _ _ df
 have f4 : fOr (filtT [⟨26 + 2 * f,vaT rd ⟨1,f,-m⟩⟩]) (26 + 2 * g) = filtT [⟨26 + 2 * f,vaT rd ⟨1,f,-m⟩⟩,⟨26 + 2 * g,vaT rd ⟨1,g,m⟩⟩] := filt_put [_] _ _ dg
 have f3 : fOr (filtT X.ws) (wPl 3 (planL ⟨X,true,f,g,m,3,false,0,rd⟩)) = filtT [⟨26 + 2 * f,vaT rd ⟨1,f,-m⟩⟩] := f3
 have f4 : fOr (filtT [⟨26 + 2 * f,vaT rd ⟨1,f,-m⟩⟩]) (wPl 4 (planL ⟨X,true,f,g,m,3,false,0,rd⟩)) = filtT [⟨26 + 2 * f,vaT rd ⟨1,f,-m⟩⟩,⟨26 + 2 * g,vaT rd ⟨1,g,m⟩⟩] := f4
 refine ⟨?_⟩
 rw [show nInP (planL ⟨X,true,f,g,m,3,false,0,rd⟩) ⟨X,true,f,g,m,3,false,0,rd⟩ (hpF o 0 33) = nInP (planL ⟨X,true,f,g,m,3,false,0,rd⟩) (rmP { X with life := 1,job := 0,ph := false } 3 false rd) (hpF o 0 33) from by rw [← hX]; rfl,nw,← hX]
 unfold nwQ
 rw [f3,f4,W3,W4,hw,List.nil_append]
 have in3 : inK 3 (planL ⟨X,true,f,g,m,3,false,0,rd⟩) := ⟨by decide,by rw [pl]; decide⟩
 have in4 : inK 4 (planL ⟨X,true,f,g,m,3,false,0,rd⟩) := ⟨by decide,by rw [pl]; decide⟩
 have g3 : ¬ decide ((3 : Int) > ((planL ⟨X,true,f,g,m,3,false,0,rd⟩).length : Int)) = true := by rw [pl]; decide
 have g4 : ¬ decide ((4 : Int) > ((planL ⟨X,true,f,g,m,3,false,0,rd⟩).length : Int)) = true := by rw [pl]; decide
 have g5 : ¬ decide ((5 : Int) > ((planL ⟨X,true,f,g,m,3,false,0,rd⟩).length : Int)) = false := by rw [pl]; decide
 refine ⟨(fun h => by cases h),fun _ => ⟨fun h => absurd h g3,fun _ => ⟨in3,fun h => absurd (show (1 : Int) = 0 from eq_of_beq h) (by decide),fun _ => ⟨in3,⟨rfl,Pf.1,Pf.2⟩,(show rd.length ≤ 1000 by omega), ?_⟩⟩⟩⟩
 have hg3 := hash_ge df
 have hg4 := hash_ge dg
 have big : ((26 + 2 * f : Int) < 0) → False := by omega
 have big4 : ((26 + 2 * g : Int) < 0) → False := by omega
 refine ⟨⟨rfl,df⟩,fun h => absurd (show hashT (26 + 2 * f) < 0 from of_decide_eq_true h) (by omega),fun _ => ⟨fun h => (big (of_decide_eq_true h)).elim,fun _ => ⟨⟨(show (0 : Nat) ≤ 1000 by omega),df,rfl⟩,congrArg _ (find_nil _),fun h => absurd (of_decide_eq_true h) (by decide),fun _ => ⟨(show (1 : Nat) * 16 ≤ 140737488355328 by decide),df,fun h => absurd h g3,fun _ => ⟨fun _ => ⟨in3,fun h => absurd (show (1 : Int) = 0 from eq_of_beq h) (by decide),fun _ => ?_⟩,fun h => by cases h⟩⟩⟩⟩⟩
 refine ⟨(fun h => by cases h),fun _ => ⟨fun h => absurd h g4,fun _ => ⟨in4,fun h => absurd (show (1 : Int) = 0 from eq_of_beq h) (by decide),fun _ => ⟨in4,⟨rfl,Pg.1,Pg.2⟩,(show rd.length ≤ 1000 by omega), ?_⟩⟩⟩⟩
 refine ⟨⟨rfl,dg⟩,fun h => absurd (show hashT (26 + 2 * g) < 0 from of_decide_eq_true h) (by omega),fun _ => ⟨fun h => (big4 (of_decide_eq_true h)).elim,fun _ => ⟨⟨(show (1 : Nat) ≤ 1000 by omega),dg,rfl⟩,congrArg _ (find_one ne2),fun h => absurd (of_decide_eq_true h) (by simp),fun _ => ⟨(show (2 : Nat) * 16 ≤ 140737488355328 by decide),dg,fun h => absurd h g4,fun _ => ⟨fun _ => ⟨in4,fun h => absurd (show (1 : Int) = 0 from eq_of_beq h) (by decide),fun _ => ?_⟩,fun h => by cases h⟩⟩⟩⟩⟩
 refine ⟨(fun h => by cases h),fun _ => ⟨fun _ => ?_,fun h => absurd h g5⟩⟩
 refine cm_ok hth hW hc s6 (fun w hwm => ?_) (show 2 ≤ 4 by decide) (fun _ => ?_) (fun h => by cases h)
 ·have hwm : w ∈ [(⟨26 + 2 * f,vaT rd ⟨1,f,-m⟩⟩ : Wo),⟨26 + 2 * g,vaT rd ⟨1,g,m⟩⟩] := hwm
  simp only [List.mem_cons,List.not_mem_nil,or_false] at hwm
  rcases hwm with rfl | rfl
  ·exact df
  ·exact dg
 ·unfold leC
  have hf5 := f5 ⟨X,true,f,g,m,3,false,0,rd⟩ X (planL ⟨X,true,f,g,m,3,false,0,rd⟩) 5 rd [⟨26 + 2 * f,vaT rd ⟨1,f,-m⟩⟩,⟨26 + 2 * g,vaT rd ⟨1,g,m⟩⟩] (filtT [⟨26 + 2 * f,vaT rd ⟨1,f,-m⟩⟩,⟨26 + 2 * g,vaT rd ⟨1,g,m⟩⟩]) X.c bxO bxO (opO 3 (planL ⟨X,true,f,g,m,3,false,0,rd⟩)) (woO ⟨26 + 2 * f,vaT rd ⟨1,f,-m⟩⟩) none bxO bxO (opO 4 (planL ⟨X,true,f,g,m,3,false,0,rd⟩)) (woO ⟨26 + 2 * g,vaT rd ⟨1,g,m⟩⟩) none bxO bxO (some (.rows 3 [⟨26 + 2 * f,vaT rd ⟨1,f,-m⟩⟩,⟨26 + 2 * g,vaT rd ⟨1,g,m⟩⟩] true 45)) (some (.rows 0 [26 + 2 * f,26 + 2 * g] true 46)) (some (.cells [li X.c,li 0,li 0,li 0])) o
  refine Eq.mpr hf5 ?_
  refine ⟨nextR ⟨X,true,f,g,m,3,false,0,rd⟩, ?_⟩
  rw [hn]
  rw [hYe]
  refine rQ_mk (⟨{ stX (11 + 2 * X.th) 2 X with ph := true,rows := wR [⟨26 + 2 * f,vaT rd ⟨1,f,-m⟩⟩,⟨26 + 2 * g,vaT rd ⟨1,g,m⟩⟩],ws := [⟨26 + 2 * f,vaT rd ⟨1,f,-m⟩⟩,⟨26 + 2 * g,vaT rd ⟨1,g,m⟩⟩],life := 1,job := 4,part := 5,i := 0,bk := X.c,bst := 0,bse := 0,bsp := 0,code := 0 },true,f,g,m,5,true,0,rd⟩ : RM) ?_
  exact oE_mk ⟨rfl,trivial⟩ _
end Go.Proofs.Ytmjjljngaefpaaa
