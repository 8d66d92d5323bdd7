/- Tl2Two: what a step, and what is asked, keeps: the plain law. -/
import Derived.Test.YtmjjljngaefpaaaIv
namespace Go.Proofs.Ytmjjljngaefpaaa
open Go.RowKit Go.Am Go.Sy
open Go.IntKind (i64 u64)
set_option linter.unusedVariables false
theorem at0_set {W : List Int} (hW : W.length = 34) {a b v : Int} (a0 : 0 ≤ a) (a1 : a < 34) (b0 : 0 ≤ b) (b1 : b < 34) : at0 (W.set a.toNat v) b = if a = b then v else at0 W b := by
 obtain ⟨i,rfl⟩ : ∃ i : Nat,a = i := ⟨a.toNat,by omega⟩
 obtain ⟨j,rfl⟩ : ∃ j : Nat,b = j := ⟨b.toNat,by omega⟩
 rw [Int.toNat_natCast,at0_get (by rw [List.length_set]; omega),at0_get (by omega),List.getElem_set]
 by_cases h : i = j
 ·rw [if_pos h,if_pos (by omega)]
 ·rw [if_neg h,if_neg (by omega)]
theorem MI.mono {n : Nat} {W : List Int} (h : MI n W) : MI (n + 1) W := ⟨h.len,⟨h.clk.1,by have := h.clk.2; omega⟩,h.str⟩
theorem MI.hi {n : Nat} {W : List Int} {a v : Int} (h : MI n W) (h0 : 5 ≤ a) (h1 : a < 34) : MI n (W.set a.toNat v) := by
 refine ⟨by rw [List.length_set]; exact h.len, ?_,fun r r0 r1 => ?_⟩
 ·rw [at0_set h.len (by omega) h1 (by omega) (by omega),if_neg (by omega)]
  exact h.clk
 ·rw [at0_set h.len (by omega) h1 (by omega) (by omega),if_neg (by omega)]
  exact h.str r r0 r1
theorem MI.strp {n : Nat} {W : List Int} {a v : Int} (h : MI n W) (a0 : 2 ≤ a) (a1 : a < 5) (v0 : 0 ≤ v) (v1 : v < 1099511627776) : MI n (W.set a.toNat v) := by
 refine ⟨by rw [List.length_set]; exact h.len, ?_,fun r r0 r1 => ?_⟩
 ·rw [at0_set h.len (by omega) (by omega) (by omega) (by omega),if_neg (by omega)]
  exact h.clk
 ·rw [at0_set h.len (by omega) (by omega) (by omega) (by omega)]
  by_cases e : a = 2 + r
  ·rw [if_pos e]; exact ⟨v0,v1⟩
  ·rw [if_neg e]; exact h.str r r0 r1
theorem MI.clkp {n : Nat} {W : List Int} {v : Int} (h : MI n W) (v0 : 0 ≤ v) (v1 : v ≤ (n : Int)) : MI n (W.set 0 v) := by
 have hs : ∀ b : Int,0 ≤ b → b < 34 → at0 (W.set 0 v) b = if 0 = b then v else at0 W b := fun b b0 b1 => at0_set (a := 0) h.len (by omega) (by omega) b0 b1
 refine ⟨by rw [List.length_set]; exact h.len, ?_,fun r r0 r1 => ?_⟩
 ·rw [hs 0 (by omega) (by omega),if_pos rfl]
  exact ⟨v0,v1⟩
 ·rw [hs _ (by omega) (by omega),if_neg (by omega)]
  exact h.str r r0 r1
theorem Kd.mono {n : Nat} {s : XM} (h : Kd n s) : Kd (n + 1) s := by
 cases h with
 | no a b => exact .no a b
 | op a b c => exact .op a b c
 | b a1 a2 a3 a4 => exact .b a1 a2 a3 a4
 | r0 a1 a2 a3 a4 a5 a6 => exact .r0 a1 a2 a3 a4 a5 a6
 | r1 a1 a2 a3 a4 a5 a6 => exact .r1 a1 a2 a3 a4 a5 a6
 | r2 a1 a2 a3 a4 a5 a6 => exact .r2 a1 a2 a3 a4 a5 a6
 | m a1 a2 a3 a4 a5 => exact .m a1 a2 a3 a4 a5
 | l a1 a2 a3 a4 a5 a6 a7 a8 a9 a10 a11 => exact .l a1 a2 a3 a4 a5 a6 a7 a8 a9 a10 a11
 | t a1 a2 a3 a4 a5 a6 a7 a8 a9 a10 a11 a12 => exact .t a1 a2 a3 a4 a5 a6 a7 a8 a9 a10 a11 a12
 | o a1 a2 a3 a4 a5 a6 a7 => exact .o a1 a2 a3 a4 a5 a6 a7
 | k q a1 a2 a3 a4 a5 a6 a7 a8 a9 => exact .k q a1 a2 a3 a4 a5 a6 a7 a8 ⟨a9.1,by have := a9.2; omega⟩
 | ch q a1 a2 a3 a4 a5 a6 a7 a8 a9 a10 => exact .ch q a1 a2 a3 a4 a5 a6 a7 a8 a9 a10
 | w a1 a2 a3 a4 a5 a6 a7 => exact .w a1 a2 a3 a4 a5 a6 a7
 | f a1 a2 a3 a4 a5 a6 => exact .f a1 a2 a3 a4 a5 a6
 | e a1 a2 a3 a4 => exact .e a1 a2 a3 a4
 | u a1 a2 a3 a4 => exact .u a1 a2 a3 a4
theorem AI.mono {n : Nat} {s : XM} (h : AI n s) : AI (n + 1) s := ⟨h.sb,h.kd.mono⟩
def memX (o s : XM) : XM := { o with W := s.W,steps := s.steps,lk := s.lk,la := s.la,lv := s.lv,ls := s.ls,ld := s.ld }
theorem Kd.mem {n : Nat} {s : XM} (o : XM) (h : Kd n s) : Kd n (memX s o) := by
 cases h with
 | no a b => exact .no a b
 | op a b c => exact .op a b c
 | b a1 a2 a3 a4 => exact .b a1 a2 a3 a4
 | r0 a1 a2 a3 a4 a5 a6 => exact .r0 a1 a2 a3 a4 a5 a6
 | r1 a1 a2 a3 a4 a5 a6 => exact .r1 a1 a2 a3 a4 a5 a6
 | r2 a1 a2 a3 a4 a5 a6 => exact .r2 a1 a2 a3 a4 a5 a6
 | m a1 a2 a3 a4 a5 => exact .m a1 a2 a3 a4 a5
 | l a1 a2 a3 a4 a5 a6 a7 a8 a9 a10 a11 => exact .l a1 a2 a3 a4 a5 a6 a7 a8 a9 a10 a11
 | t a1 a2 a3 a4 a5 a6 a7 a8 a9 a10 a11 a12 => exact .t a1 a2 a3 a4 a5 a6 a7 a8 a9 a10 a11 a12
 | o a1 a2 a3 a4 a5 a6 a7 => exact .o a1 a2 a3 a4 a5 a6 a7
 | k q a1 a2 a3 a4 a5 a6 a7 a8 a9 => exact .k q a1 a2 a3 a4 a5 a6 a7 a8 a9
 | ch q a1 a2 a3 a4 a5 a6 a7 a8 a9 a10 => exact .ch q a1 a2 a3 a4 a5 a6 a7 a8 a9 a10
 | w a1 a2 a3 a4 a5 a6 a7 => exact .w a1 a2 a3 a4 a5 a6 a7
 | f a1 a2 a3 a4 a5 a6 => exact .f a1 a2 a3 a4 a5 a6
 | e a1 a2 a3 a4 => exact .e a1 a2 a3 a4
 | u a1 a2 a3 a4 => exact .u a1 a2 a3 a4
theorem SB.mem {s : XM} (o : XM) (h : SB s) : SB (memX s o) := ⟨h.th,h.c,h.wd,h.wn,h.rd,h.rn⟩
theorem AI.mem {n : Nat} {s : XM} (o : XM) (h : AI n s) : AI n (memX s o) := ⟨h.sb.mem o,h.kd.mem o⟩
structure Aft (n : Nat) (j : Int) (s : XM) : Prop where
 ai : AI n s
 mi : MI n s.W
 cd : (s.code = 0 ∧ s.job ≠ 0 ∧ (s.job = j ∨ s.job = 5)) ∨ (s.code = 1 ∧ s.job = 0 ∧ s.life = 1 ∧ clear s ∧ (j = 1 ∨ j = 2)) ∨ (s.code = 1 ∧ s.job = 0 ∧ s.life = 2 ∧ j = 4) ∨ (s.code = 2 ∧ noX s)
theorem ab_aft {n : Nat} {j c : Int} {s : XM} (hS : SB s) (hc : clear s ∨ marked s) (hM : MI n s.W) : Aft n j (abX c s) := by
 unfold abX
 rcases hc with h | h
 ·cases hp : s.ph with
  | true => have := h.1; rw [hp] at this; cases this
  | false => exact ⟨⟨⟨hS.th,hS.c,hS.wd,hS.wn,hS.rd,hS.rn⟩,.no rfl (.inr (.inr rfl))⟩,hM,.inr (.inr (.inr ⟨rfl,rfl,.inr (.inr rfl)⟩))⟩
 ·cases hp : s.ph with
  | false => have := h.1; rw [hp] at this; cases this
  | true => exact ⟨⟨⟨hS.th,hS.c,hS.wd,hS.wn,hS.rd,hS.rn⟩,.u rfl rfl rfl ⟨rfl,h.2⟩⟩,hM,.inl ⟨rfl,(show ¬(5 : Int) = 0 by decide),.inr rfl⟩⟩
theorem de_aft {n : Nat} {s : XM} (hS : SB s) (hm : marked s) (e2 : s.job = 4) (hw : s.ws ≠ []) (hr : s.rows ≠ []) (hma : maOk s) (hM : MI n s.W) : Aft n 4 (deX s) := by
 have hp := pos_of hw
 have hj : ¬ s.job = 0 := by rw [e2]; decide
 unfold deX
 have h : ltB ((0 : Int)) ((s.ws.length : Int)) = true := decide_eq_true (by omega)
 rw [h]
 exact ⟨⟨⟨hS.th,hS.c,hS.wd,hS.wn,hS.rd,hS.rn⟩,.w rfl e2 rfl hm hr hp hma⟩,hM,.inl ⟨rfl,hj,.inl e2⟩⟩
theorem go_aft {n k : Nat} {kI q : Int} {s : XM} (e1 : s.life = 1) (e2 : s.job = 4) (hS : SB s) (hm : marked s) (hw : s.ws ≠ []) (hr : s.rows ≠ []) (hb : bOk s 9 q) (hk : kI = (k : Int)) (hma : maOk s) (hM : MI n s.W) : Aft n 4 (goX k kI s) := by
 have hj : ¬ s.job = 0 := by rw [e2]; decide
 unfold goX
 cases h1 : ltB kI (s.rs.length : Int) with
 | false => exact de_aft hS hm e2 hw hr hma hM
 | true =>
  have h1 := of_decide_eq_true h1
  cases h2 : (eqB s.bk 1 && (s.made == i64.wrap (s.stamp + 1))) with
  | true => exact de_aft hS hm e2 hw hr hma hM
  | false =>
   refine ⟨⟨⟨hS.th,hS.c,hS.wd,hS.wn,hS.rd,hS.rn⟩,.ch q e1 e2 rfl hm hw hr hb (show k < s.rs.length by omega) hma fun hc => ?_⟩,hM,.inl ⟨rfl,hj,.inl e2⟩⟩
   have hc : s.c = 1 := hc
   rw [hb.1,hc] at h2
   simpa [eqB] using h2
theorem bu_aft {n : Nat} {v q : Int} {s : XM} (e1 : s.life = 1) (e2 : s.job = 4) (hS : SB s) (hm : marked s) (hw : s.ws ≠ []) (hr : s.rows ≠ []) (hb : s.bk = s.c ∧ s.bse = q ∧ s.ybk = s.bk ∧ s.ybse = s.bse) (hv : 0 ≤ v) (hM : MI n s.W) : Aft n 4 (buX v s) := by
 unfold buX
 cases h : gtB v 1000 with
 | true => exact ab_aft ⟨hS.th,hS.c,hS.wd,hS.wn,hS.rd,hS.rn⟩ (.inr hm) hM
 | false =>
  have h := of_decide_eq_false h
  exact go_aft (q := q) e1 e2 ⟨hS.th,hS.c,hS.wd,hS.wn,hS.rd,hS.rn⟩ hm hw hr ⟨hb.1,rfl,hb.2.1,hb.2.2.1,rfl,hb.2.2.2,rfl⟩ rfl ⟨hv,(show v ≤ 1000 by omega)⟩ hM
theorem clk_wrap {n : Nat} {W : List Int} (h : MI n W) (hn : n ≤ 1000) : i64.wrap (at0 W 0 + 1) = at0 W 0 + 1 := wrap_id (by have := h.clk; omega) (by have := h.clk; omega)
theorem set_if {c : Bool} {W : List Int} {n : Nat} {a : Nat} {v : Int} (h : MI n W) (h2 : c = true → MI n (W.set a v)) : MI n (bif c then W.set a v else W) := by
 cases c with
 | true => exact h2 rfl
 | false => exact h
theorem step_aft {n : Nat} {s : XM} (hA : AI n s) (hM : MI n s.W) (hj : s.job ≠ 0) (hn : n ≤ 1000) : Aft (n + 1) s.job (stepX s) := by
 obtain ⟨hS,hK⟩ := hA
 have hM1 := hM.mono
 have jne : ∀ {j : Int},s.job = j → j ≠ 0 → ¬ s.job = 0 := fun e h => by rw [e]; exact h
 cases hK with
 | no a b => exact absurd a hj
 | op a b c => exact absurd b hj
 | b e1 e2 e3 p0 =>
  unfold stepX
  rw [if_pos e2]
  exact ⟨⟨⟨hS.th,hS.c,hS.wd,hS.wn,hS.rd,hS.rn⟩,.op e1 rfl p0⟩,hM1,.inr (.inl ⟨rfl,rfl,e1,p0,.inl e2⟩)⟩
 | r0 e1 e2 e3 p0 e7 e8 =>
  unfold stepX readX'
  rw [if_neg (by rw [e2]; decide),if_pos e2,if_pos e3]
  cases hb : (freshT (at0 s.W (2 + s.row)) s.stamp != 0) with
  | true => exact ab_aft ⟨hS.th,hS.c,hS.wd,hS.wn,hS.rd,hS.rn⟩ (.inl p0) hM1
  | false => exact ⟨⟨⟨hS.th,hS.c,hS.wd,hS.wn,hS.rd,hS.rn⟩,.r1 e1 e2 rfl p0 e7 e8⟩,hM1,.inl ⟨rfl,hj,.inl rfl⟩⟩
 | r1 e1 e2 e3 p0 e7 e8 =>
  unfold stepX readX'
  rw [if_neg (by rw [e2]; decide),if_pos e2,if_neg (by rw [e3]; decide),if_pos e3]
  exact ⟨⟨⟨hS.th,hS.c,hS.wd,hS.wn,hS.rd,hS.rn⟩,.r2 e1 e2 rfl p0 e7 e8⟩,hM1,.inl ⟨rfl,hj,.inl rfl⟩⟩
 | r2 e1 e2 e3 p0 e7 e8 =>
  unfold stepX readX'
  rw [if_neg (by rw [e2]; decide),if_pos e2,if_neg (by rw [e3]; decide),if_neg (by rw [e3]; decide)]
  cases hb : (at0 s.W (2 + s.row) != s.seen) with
  | true => exact ab_aft ⟨hS.th,hS.c,hS.wd,hS.wn,hS.rd,hS.rn⟩ (.inl p0) hM1
  | false =>
   have hr := hash_ge e7
   rw [← e8] at hr
   cases h2 : hasB s.rs s.row with
   | true => exact ⟨⟨⟨hS.th,hS.c,hS.wd,hS.wn,hS.rd,hS.rn⟩,.op e1 rfl p0⟩,hM1,.inr (.inl ⟨rfl,rfl,e1,p0,.inr e2⟩)⟩
   | false =>
    have h3 : ∀ w ∈ s.rs,w.pl ≠ s.row := by
     intro w hw hc
     unfold hasB at h2
     rw [List.any_eq_false] at h2
     exact h2 w hw (by rw [hc]; exact beq_self_eq_true _)
    refine ⟨⟨⟨hS.th,hS.c,hS.wd,hS.wn,fun w hw => ?_, ?_⟩,.op e1 rfl p0⟩,hM1,.inr (.inl ⟨rfl,rfl,e1,p0,.inr e2⟩)⟩
    ·have hw : w ∈ s.rs ++ [⟨s.row,0⟩] := hw
     rcases List.mem_append.1 hw with h | h
     ·exact hS.rd w h
     ·rw [List.mem_singleton] at h
      subst h
      exact hr
    ·show ((s.rs ++ [(⟨s.row,0⟩ : Wo)]).map (·.pl)).Nodup
     rw [List.map_append,List.nodup_append]
     refine ⟨hS.rn,(List.nodup_cons.2 ⟨List.not_mem_nil,List.nodup_nil⟩),fun a ha b hb => ?_⟩
     obtain ⟨w,hw,rfl⟩ := List.mem_map.1 ha
     have hb : b ∈ [s.row] := hb
     rw [List.mem_singleton] at hb
     subst hb
     exact h3 w hw
 | m e1 e2 e3 p0 e7 =>
  unfold stepX markX
  rw [if_neg (by rw [e2]; decide),if_neg (by rw [e2]; decide),if_pos e2,if_pos e3]
  have hm : MI (n + 1) (s.W.set (11 + 2 * s.th).toNat 2) := hM1.hi (by have := hS.th; omega) (by have := hS.th; omega)
  cases h : gtB (s.ws.length : Int) 0 with
  | true =>
   have h := of_decide_eq_true h
   have hw : s.ws ≠ [] := List.length_pos_iff.1 (by omega)
   exact ⟨⟨⟨hS.th,hS.c,hS.wd,hS.wn,hS.rd,hS.rn⟩,.l e1 e2 rfl ⟨rfl,rowsT_rb _,⟨by show s.tk.length ≤ _; rw [p0.2.1]; exact Nat.zero_le _,fun j hj => by have hj : j < s.tk.length := hj; rw [p0.2.1] at hj; cases hj⟩⟩ hw
    (by show s.i < (rowsT (s.ws.map (·.pl))).length; rw [e7]; exact rowsT_pos (by rw [List.length_map]; omega) fun a ha => by obtain ⟨w,hw,rfl⟩ := List.mem_map.1 ha; exact hS.wd w hw) (by show s.tk.length = s.i; rw [p0.2.1,e7]; rfl) rfl rfl rfl rfl⟩,hm,.inl ⟨rfl,hj,.inl rfl⟩⟩
  | false => exact ⟨⟨⟨hS.th,hS.c,hS.wd,hS.wn,hS.rd,hS.rn⟩,.e rfl e2 rfl rfl⟩,hm,.inl ⟨rfl,hj,.inl rfl⟩⟩
 | l e1 e2 e3 p0 e5 e6 e7 e8 e9 e10 e11 =>
  unfold stepX lockX
  rw [if_neg (by rw [e2]; decide),if_neg (by rw [e2]; decide),if_pos e2,if_neg (by rw [e3]; decide),if_pos e3,if_pos e3]
  have hr := p0.2.1.at_ e6
  cases hb : !ltB (at0 s.W (2 + at0 s.rows (s.i : Int)) % 16 - 1) 0 with
  | true => exact ab_aft ⟨hS.th,hS.c,hS.wd,hS.wn,hS.rd,hS.rn⟩ (.inr p0) hM1
  | false => exact ⟨⟨⟨hS.th,hS.c,hS.wd,hS.wn,hS.rd,hS.rn⟩,.t e1 e2 rfl p0 e5 e6 e7 e8 e9 e10 e11 (hM.str _ hr.1 hr.2)⟩,hM1,.inl ⟨rfl,hj,.inl rfl⟩⟩
 | t e1 e2 e3 p0 e5 e6 e7 e8 e9 e10 e11 e12 =>
  unfold stepX lockX
  rw [if_neg (by rw [e2]; decide),if_neg (by rw [e2]; decide),if_pos e2,if_neg (by rw [e3]; decide),if_neg (by rw [e3]; decide),if_pos e3,if_neg (by rw [e3]; decide)]
  have hr := p0.2.1.at_ e6
  have hm : MI (n + 1) (bif (at0 s.W (2 + at0 s.rows (s.i : Int)) == s.seen) then s.W.set (2 + at0 s.rows (s.i : Int)).toNat (s.seen - s.seen % 16 + s.th + 1) else s.W) :=
   set_if hM1 fun _ => hM1.strp (by omega) (by omega) (by have := hS.th; omega) (by have := hS.th; omega)
  have htk : TkOk (s.tk ++ [⟨2 + at0 s.rows (s.i : Int),s.seen⟩]) s.rows := by
   refine ⟨by rw [List.length_append,e7]; exact e6,fun j hj => ?_⟩
   rw [List.length_append] at hj
   have hj : j < s.tk.length + 1 := hj
   rcases Nat.lt_or_ge j s.tk.length with k | k
   ·rw [at3_get (by rw [List.length_append]; exact Nat.lt_succ_of_lt k),List.getElem_append_left k,← at3_get k]
    exact p0.2.2.at_ j k
   ·have : j = s.i := by omega
    subst this
    rw [at3_get (by rw [List.length_append]; exact hj),List.getElem_append_right k]
    simp only [e7,Nat.sub_self,List.getElem_cons_zero]
    exact ⟨trivial,e12⟩
  cases hb : (at0 s.W (2 + at0 s.rows (s.i : Int)) == s.seen) with
  | true =>
   cases h2 : geB (((s.i + 1 : Nat) : Int)) ((s.rows.length : Int)) with
   | true =>
    refine ⟨⟨⟨hS.th,hS.c,hS.wd,hS.wn,hS.rd,hS.rn⟩,.o e1 e2 rfl ⟨p0.1,p0.2.1,htk⟩ e5 (List.length_pos_iff.1 (by show 0 < s.rows.length; omega)) ⟨e8,e9,e10,e8.symm,e9.symm,e10.symm,e11.symm⟩⟩, ?_,.inl ⟨rfl,hj,.inl rfl⟩⟩
    show MI (n + 1) (bif (at0 s.W (2 + at0 s.rows (s.i : Int)) == s.seen) then s.W.set (2 + at0 s.rows (s.i : Int)).toNat (s.seen - s.seen % 16 + s.th + 1) else s.W)
    exact hm
   | false =>
    have h2 := of_decide_eq_false h2
    exact ⟨⟨⟨hS.th,hS.c,hS.wd,hS.wn,hS.rd,hS.rn⟩,.l e1 e2 rfl ⟨p0.1,p0.2.1,htk⟩ e5 (show s.i + 1 < s.rows.length by omega) (show (s.tk ++ [_]).length = s.i + 1 by rw [List.length_append,e7]; rfl) e8 e9 e10 e11⟩,hm,.inl ⟨rfl,hj,.inl rfl⟩⟩
  | false => exact ab_aft ⟨hS.th,hS.c,hS.wd,hS.wn,hS.rd,hS.rn⟩ (.inr p0) hm
 | o e1 e2 e3 p0 e5 e6 p1 =>
  unfold stepX bumpX
  rw [if_neg (by rw [e2]; decide),if_neg (by rw [e2]; decide),if_pos e2,if_neg (by rw [e3]; decide),if_neg (by rw [e3]; decide),if_neg (by rw [e3]; decide),if_pos e3]
  have hc := hM.clk
  rw [clk_wrap hM hn]
  rcases hS.c with e | e
  ·rw [if_pos (by rw [p1.1]; exact e),e2]
   exact bu_aft (q := 0) e1 e2 ⟨hS.th,hS.c,hS.wd,hS.wn,hS.rd,hS.rn⟩ p0 e5 e6 ⟨p1.1,p1.2.2.1,p1.2.2.2.1,p1.2.2.2.2.2.1⟩ (by omega) (hM1.clkp (by omega) (by omega))
  ·rw [if_neg (by rw [p1.1,e]; decide),if_pos p1.2.1]
   exact ⟨⟨⟨hS.th,hS.c,hS.wd,hS.wn,hS.rd,hS.rn⟩,.k (at0 s.W 0) e1 e2 e3 p0 e5 e6 e ⟨p1.1,rfl,rfl,p1.2.2.2.1,rfl,rfl,p1.2.2.2.2.2.2⟩ ⟨hc.1,by omega⟩⟩,hM1,.inl ⟨rfl,hj,.inl rfl⟩⟩
 | k q e1 e2 e3 p0 e5 e6 e7 p1 e8 =>
  unfold stepX bumpX
  rw [if_neg (by rw [e2]; decide),if_neg (by rw [e2]; decide),if_pos e2,if_neg (by rw [e3]; decide),if_neg (by rw [e3]; decide),if_neg (by rw [e3]; decide),if_pos e3,if_neg (by rw [p1.1,e7]; decide),if_neg (by rw [p1.2.1]; decide),e2]
  have hc := hM.clk
  have hq : i64.wrap (s.bse + 1) = q + 1 := by rw [p1.2.2.1,wrap_id (by omega) (by omega)]
  rw [hq]
  refine bu_aft (q := q) e1 e2 ⟨hS.th,hS.c,hS.wd,hS.wn,hS.rd,hS.rn⟩ p0 e5 e6 ⟨p1.1,p1.2.2.1,p1.2.2.2.1,p1.2.2.2.2.2.1⟩ (by cases (at0 s.W 0 == s.bse) <;> simp only [cond_true,cond_false] <;> omega) ?_
  show MI (n + 1) (bif (at0 s.W 0 == s.bse) then s.W.set 0 (q + 1) else s.W)
  exact set_if hM1 fun _ => hM1.clkp (by omega) (by omega)
 | ch q e1 e2 e3 p0 e5 e6 p1 e7 e8 e9 =>
  unfold stepX chX
  rw [if_neg (by rw [e2]; decide),if_neg (by rw [e2]; decide),if_pos e2,if_neg (by rw [e3]; decide),if_neg (by rw [e3]; decide),if_neg (by rw [e3]; decide),if_neg (by rw [e3]; decide),if_pos e3,e2]
  cases h : (geB (at0 s.W (2 + (at3 s.rs (s.i : Int)).pl) % 16 - 1) 0 && at0 s.W (2 + (at3 s.rs (s.i : Int)).pl) % 16 - 1 != (ldX (2 + (at3 s.rs (s.i : Int)).pl) s).th) with
  | true => exact ab_aft ⟨hS.th,hS.c,hS.wd,hS.wn,hS.rd,hS.rn⟩ (.inr p0) hM1
  | false =>
   cases h2 : gtB (at0 s.W (2 + (at3 s.rs (s.i : Int)).pl) / 16) (ldX (2 + (at3 s.rs (s.i : Int)).pl) s).stamp with
   | true => exact ab_aft ⟨hS.th,hS.c,hS.wd,hS.wn,hS.rd,hS.rn⟩ (.inr p0) hM1
   | false => exact go_aft (q := q) e1 e2 ⟨hS.th,hS.c,hS.wd,hS.wn,hS.rd,hS.rn⟩ p0 e5 e6 p1 rfl e8 hM1
 | w e1 e2 e3 p0 e5 e6 e7 =>
  unfold stepX endX
  rw [if_neg (by rw [e2]; decide),if_neg (by rw [e2]; decide),if_pos e2,if_neg (by rw [e3]; decide),if_neg (by rw [e3]; decide),if_neg (by rw [e3]; decide),if_neg (by rw [e3]; decide),if_neg (by rw [e3]; decide),if_pos e3]
  have hd := data_lt (at3_data hS.wd e6)
  have hm : MI (n + 1) (s.W.set (at3 s.ws (s.i : Int)).pl.toNat (at3 s.ws (s.i : Int)).vl) := hM1.hi (by rcases at3_data hS.wd e6 with h | h | h | h <;> omega) hd.2
  cases h : ltB (((s.i + 1 : Nat) : Int)) ((s.ws.length : Int)) with
  | true =>
   have h := of_decide_eq_true h
   exact ⟨⟨⟨hS.th,hS.c,hS.wd,hS.wn,hS.rd,hS.rn⟩,.w e1 e2 e3 p0 e5 (show s.i + 1 < s.ws.length by omega) e7⟩,hm,.inl ⟨rfl,hj,.inl rfl⟩⟩
  | false => exact ⟨⟨⟨hS.th,hS.c,hS.wd,hS.wn,hS.rd,hS.rn⟩,.f e1 e2 rfl p0 (pos_of e5) e7⟩,hm,.inl ⟨rfl,hj,.inl rfl⟩⟩
 | f e1 e2 e3 p0 e5 e6 =>
  unfold stepX endX
  rw [if_neg (by rw [e2]; decide),if_neg (by rw [e2]; decide),if_pos e2,if_neg (by rw [e3]; decide),if_neg (by rw [e3]; decide),if_neg (by rw [e3]; decide),if_neg (by rw [e3]; decide),if_neg (by rw [e3]; decide),if_neg (by rw [e3]; decide),if_pos e3]
  have hr := p0.2.1.at_ e5
  have hm : MI (n + 1) (s.W.set (2 + at0 s.rows (s.i : Int)).toNat (s.made * 16)) := hM1.strp (by omega) (by omega) (by have := e6.1; omega) (by have := e6.2; omega)
  cases h : geB (((s.i + 1 : Nat) : Int)) ((s.rows.length : Int)) with
  | true => exact ⟨⟨⟨hS.th,hS.c,hS.wd,hS.wn,hS.rd,hS.rn⟩,.e e1 e2 rfl p0.1⟩,hm,.inl ⟨rfl,hj,.inl rfl⟩⟩
  | false =>
   have h := of_decide_eq_false h
   exact ⟨⟨⟨hS.th,hS.c,hS.wd,hS.wn,hS.rd,hS.rn⟩,.f e1 e2 rfl p0 (show s.i + 1 < s.rows.length by omega) e6⟩,hm,.inl ⟨rfl,hj,.inl rfl⟩⟩
 | e e1 e2 e3 e4 =>
  unfold stepX endX
  rw [if_neg (by rw [e2]; decide),if_neg (by rw [e2]; decide),if_pos e2,if_neg (by rw [e3]; decide),if_neg (by rw [e3]; decide),if_neg (by rw [e3]; decide),if_neg (by rw [e3]; decide),if_neg (by rw [e3]; decide),if_neg (by rw [e3]; decide),if_neg (by rw [e3]; decide)]
  exact ⟨⟨⟨hS.th,hS.c,hS.wd,hS.wn,hS.rd,hS.rn⟩,.no rfl (.inr (.inl e1))⟩,hM1.hi (by have := hS.th; omega) (by have := hS.th; omega),.inr (.inr (.inl ⟨rfl,rfl,e1,e2⟩))⟩
 | u e1 e2 e3 p0 =>
  unfold stepX
  rw [if_neg (by rw [e2]; decide),if_neg (by rw [e2]; decide),if_neg (by rw [e2]; decide)]
  cases h : ltB ((s.i : Int)) ((s.tk.length : Int)) with
  | true =>
   have h := of_decide_eq_true h
   have h : s.i < s.tk.length := by omega
   have ht := p0.2.2.at_ s.i h
   have hr := p0.2.1.at_ (i := s.i) (by have := p0.2.2.len; omega)
   exact ⟨⟨⟨hS.th,hS.c,hS.wd,hS.wn,hS.rd,hS.rn⟩,.u e1 e2 e3 p0⟩,hM1.strp (by rw [ht.1]; omega) (by rw [ht.1]; omega) ht.2.1 ht.2.2,.inl ⟨rfl,hj,.inl rfl⟩⟩
  | false => exact ⟨⟨⟨hS.th,hS.c,hS.wd,hS.wn,hS.rd,hS.rn⟩,.no rfl (.inr (.inr e1))⟩,hM1.hi (by have := hS.th; omega) (by have := hS.th; omega),.inr (.inr (.inr ⟨rfl,rfl,.inr (.inr e1)⟩))⟩
theorem beg_ai {n : Nat} {s : XM} (hS : SB s) : AI n (beginX s) := ⟨⟨hS.th,hS.c,fun w hw => absurd hw List.not_mem_nil,List.nodup_nil,fun w hw => absurd hw List.not_mem_nil,List.nodup_nil⟩,.b rfl rfl rfl ⟨rfl,rfl,rfl⟩⟩
theorem com_ai {n : Nat} {s : XM} (h : opX s) : AI n (commitX s) := ⟨⟨h.1.th,h.1.c,h.1.wd,h.1.wn,h.1.rd,h.1.rn⟩,.m h.2.1 rfl rfl h.2.2.2 rfl⟩
theorem read_ai {n : Nat} {s : XM} {p : Int} (h : opX s) (hp : isData p) : AI n (readX p s) := by
 have hS := h.1
 unfold readX
 cases hasB s.ws p with
 | true => exact ⟨⟨hS.th,hS.c,hS.wd,hS.wn,hS.rd,hS.rn⟩,.op h.2.1 h.2.2.1 h.2.2.2⟩
 | false => exact ⟨⟨hS.th,hS.c,hS.wd,hS.wn,hS.rd,hS.rn⟩,.r0 h.2.1 rfl rfl h.2.2.2 hp rfl⟩
theorem put_pl (l : List Wo) (p v : Int) : (putT l p v).map (·.pl) = bif hasB l p then l.map (·.pl) else l.map (·.pl) ++ [p] := by
 unfold putT
 cases h : hasB l p with
 | false => simp only [cond_false,List.map_append,List.map_cons,List.map_nil]
 | true =>
  simp only [cond_true]
  rw [List.map_set]
  have h0 := findGo_ge l p 0 (Int.le_refl _) h
  rcases Nat.lt_or_ge (findT l p).toNat l.length with k | k
  ·have e : findT l p = ((findT l p).toNat : Int) := by unfold findT at *; omega
   rw [e,at3_get k,Int.toNat_natCast]
   refine List.ext_getElem (by rw [List.length_set]) fun j h1 h2 => ?_
   rw [List.getElem_set]
   split
   ·rename_i hj; subst hj; rw [List.getElem_map]
   ·rfl
  ·rw [List.set_eq_of_length_le (by rw [List.length_map]; exact k)]
theorem put_mem {l : List Wo} {p v : Int} (hp : isData p) (h : ∀ w ∈ l,isData w.pl) : ∀ w ∈ putT l p v,isData w.pl := by
 intro w hw
 have hw : w.pl ∈ (putT l p v).map (·.pl) := List.mem_map_of_mem hw
 rw [put_pl] at hw
 have h2 : w.pl ∈ l.map (·.pl) ∨ w.pl = p := by
  cases hb : hasB l p with
  | true => rw [hb] at hw; exact .inl hw
  | false =>
   rw [hb] at hw
   rcases List.mem_append.1 hw with k | k
   ·exact .inl k
   ·exact .inr (List.mem_singleton.1 k)
 rcases h2 with k | k
 ·obtain ⟨x,hx,e⟩ := List.mem_map.1 k
  rw [← e]
  exact h x hx
 ·rw [k]; exact hp
theorem put_nodup {l : List Wo} {p v : Int} (h : (l.map (·.pl)).Nodup) : ((putT l p v).map (·.pl)).Nodup := by
 rw [put_pl]
 cases hb : hasB l p with
 | true => exact h
 | false =>
  rw [cond_false,List.nodup_append]
  refine ⟨h,(List.nodup_cons.2 ⟨List.not_mem_nil,List.nodup_nil⟩),fun a ha b hb2 => ?_⟩
  rw [List.mem_singleton] at hb2
  subst hb2
  intro e
  subst e
  obtain ⟨w,hw,e⟩ := List.mem_map.1 ha
  unfold hasB at hb
  rw [List.any_eq_false] at hb
  exact hb w hw (by rw [e]; exact beq_self_eq_true _)
theorem write_ai {n : Nat} {s : XM} {p v : Int} (h : opX s) (hp : isData p) : AI n (writeX p v s) :=
 ⟨⟨h.1.th,h.1.c,put_mem hp h.1.wd,put_nodup h.1.wn,h.1.rd,h.1.rn⟩,.op h.2.1 h.2.2.1 h.2.2.2⟩
end Go.Proofs.Ytmjjljngaefpaaa
