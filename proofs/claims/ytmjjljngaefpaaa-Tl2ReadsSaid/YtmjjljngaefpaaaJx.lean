/- Tl2Two: a step of each, from any state: one contract each. Printed by a program (gen_jx.py). -/
import Derived.Test.YtmjjljngaefpaaaIv
import Derived.Test.YtmjjljngaefpaaaX0
import Derived.Test.YtmjjljngaefpaaaX1
import Derived.Test.YtmjjljngaefpaaaX2
import Derived.Test.YtmjjljngaefpaaaX3
import Derived.Test.YtmjjljngaefpaaaX4
import Derived.Test.YtmjjljngaefpaaaX5
namespace Go.Proofs.Ytmjjljngaefpaaa
open Go.RowKit Go.Am Go.Sy
open Go.IntKind (i64 u64)
set_option linter.unusedVariables false
theorem x_paid (s : XM) (hI : atX s ∧ ¬(s.job = 4 ∧ s.part = 4)) (h : SH cod) (hl : h.length = 60) : Paid (vcX (xStepD stepX (fun s => atX s ∧ ¬(s.job = 4 ∧ s.part = 4)) 62) s h) := by
 obtain ⟨o,rfl⟩ := hpE (i := 0) hl
 obtain ⟨⟨n,⟨hS,hK⟩,hM,hj⟩,hm⟩ := hI
 have h4 := hS.ws4
 have hw9 : s.ws.length ≤ 9 := by omega
 have h9 : s.rs.length ≤ 9 := by have := hS.rs3; omega
 obtain ⟨code,th,c,life,job,part,i,at_,row,seen,val,value,cause,stamp,made,bk,bst,bse,bsp,ph,rs,ws,asked,rows,tk,W,steps,lk,la,lv,ls,ld,ybk,ybst,ybse,ybsp⟩ := s
 cases hK with
 | no a b => exact absurd a hj
 | op a b c => exact absurd b hj
 | b e1 e2 e3 p0 =>
  obtain ⟨e4,e5,e6⟩ := p0
  obtain rfl : life = 1 := e1
  obtain rfl : job = 1 := e2
  obtain rfl : part = 0 := e3
  obtain rfl : ph = false := e4
  obtain rfl : tk = [] := e5
  obtain rfl : rows = [] := e6
  apply xs_b_ok
  ·exact hM.len
 | r0 e1 e2 e3 p0 e7 e8 =>
  obtain ⟨e4,e5,e6⟩ := p0
  obtain rfl : life = 1 := e1
  obtain rfl : job = 2 := e2
  obtain rfl : part = 0 := e3
  obtain rfl : ph = false := e4
  obtain rfl : tk = [] := e5
  obtain rfl : rows = [] := e6
  obtain rfl : row = hashT at_ := e8
  apply xs_r0_ok
  ·exact hM.len
  ·exact hM.str
  ·exact hash_ge e7
  ·exact rfl
 | r1 e1 e2 e3 p0 e7 e8 =>
  obtain ⟨e4,e5,e6⟩ := p0
  obtain rfl : life = 1 := e1
  obtain rfl : job = 2 := e2
  obtain rfl : part = 1 := e3
  obtain rfl : ph = false := e4
  obtain rfl : tk = [] := e5
  obtain rfl : rows = [] := e6
  obtain rfl : row = hashT at_ := e8
  apply xs_r1_ok
  ·exact hM.len
  ·exact data_lt e7
  ·exact hash_ge e7
 | r2 e1 e2 e3 p0 e7 e8 =>
  obtain ⟨e4,e5,e6⟩ := p0
  obtain rfl : life = 1 := e1
  obtain rfl : job = 2 := e2
  obtain rfl : part = 2 := e3
  obtain rfl : ph = false := e4
  obtain rfl : tk = [] := e5
  obtain rfl : rows = [] := e6
  obtain rfl : row = hashT at_ := e8
  apply xs_r2_ok
  ·exact hM.len
  ·exact hash_ge e7
  ·exact rfl
  ·exact h9
 | m e1 e2 e3 p0 e7 => exact absurd ⟨e2,e3⟩ hm
 | l e1 e2 e3 p0 e5 e6 e7 e8 e9 e10 e11 =>
  obtain ⟨e4,g1,g2⟩ := p0
  obtain rfl : life = 1 := e1
  obtain rfl : job = 4 := e2
  obtain rfl : part = 5 := e3
  obtain rfl : ph = true := e4
  apply xs_l_ok
  ·exact hM.len
  ·exact hM.str
  ·exact e6
  ·exact g1.mem
  ·exact g1.len
 | t e1 e2 e3 p0 e5 e6 e7 e8 e9 e10 e11 e12 =>
  obtain ⟨e4,g1,g2⟩ := p0
  obtain rfl : life = 1 := e1
  obtain rfl : job = 4 := e2
  obtain rfl : part = 6 := e3
  obtain rfl : ph = true := e4
  apply xs_t_ok
  ·exact hM.len
  ·exact hM.str
  ·exact e6
  ·exact g1.mem
  ·exact g1.len
  ·exact hS.th
  ·exact e12
  ·exact Nat.le_trans g2.len (Nat.le_trans g1.len (by decide))
 | o e1 e2 e3 p0 e5 e6 p1 =>
  obtain ⟨e4,g1,g2⟩ := p0
  obtain ⟨f1,f2,f3,f4,f5,f6,f7⟩ := p1
  obtain rfl : life = 1 := e1
  obtain rfl : job = 4 := e2
  obtain rfl : part = 7 := e3
  obtain rfl : ph = true := e4
  obtain rfl : bk = ybk := f4.symm
  obtain rfl : bst = ybst := f5.symm
  obtain rfl : bse = ybse := f6.symm
  obtain rfl : bsp = ybsp := f7.symm
  obtain rfl : bk = c := f1
  obtain rfl : bst = 0 := f2
  obtain rfl : bse = 0 := f3
  rcases hS.c with e | e
  ·obtain rfl : bk = 1 := e
   apply xs_o_ok
   ·exact hM.len
   ·exact pos_of e5
   ·exact hw9
  ·obtain rfl : bk = 2 := e
   apply xs_j_ok
   ·exact hM.len
 | k q e1 e2 e3 p0 e5 e6 e7 p1 e8 =>
  obtain ⟨e4,g1,g2⟩ := p0
  obtain ⟨f1,f2,f3,f4,f5,f6,f7⟩ := p1
  obtain rfl : life = 1 := e1
  obtain rfl : job = 4 := e2
  obtain rfl : part = 7 := e3
  obtain rfl : ph = true := e4
  obtain rfl : bk = ybk := f4.symm
  obtain rfl : bst = ybst := f5.symm
  obtain rfl : bse = ybse := f6.symm
  obtain rfl : bsp = ybsp := f7.symm
  obtain rfl : bk = c := f1
  obtain rfl : bst = 1 := f2
  obtain rfl : bk = 2 := e7
  apply xs_k_ok
  ·exact hM.len
  ·exact pos_of e5
  ·exact hw9
 | ch q e1 e2 e3 p0 e5 e6 p1 e7 e8 e9 =>
  obtain ⟨e4,g1,g2⟩ := p0
  obtain ⟨f1,f2,f3,f4,f5,f6,f7⟩ := p1
  obtain rfl : life = 1 := e1
  obtain rfl : job = 4 := e2
  obtain rfl : part = 8 := e3
  obtain rfl : ph = true := e4
  obtain rfl : bk = ybk := f4.symm
  obtain rfl : bst = ybst := f5.symm
  obtain rfl : bse = ybse := f6.symm
  obtain rfl : bsp = ybsp := f7.symm
  obtain rfl : bk = c := f1
  obtain rfl : bst = 9 := f2
  rcases hS.c with e | e
  ·obtain rfl : bk = 1 := e
   apply xs_c1_ok
   ·exact hM.len
   ·exact hM.str
   ·exact pos_of e5
   ·exact hw9
   ·exact e7
   ·exact hS.rd
   ·exact h9
  ·obtain rfl : bk = 2 := e
   apply xs_c2_ok
   ·exact hM.len
   ·exact hM.str
   ·exact pos_of e5
   ·exact hw9
   ·exact e7
   ·exact hS.rd
   ·exact h9
 | w e1 e2 e3 p0 e5 e6 e7 =>
  obtain ⟨e4,g1,g2⟩ := p0
  obtain rfl : life = 2 := e1
  obtain rfl : job = 4 := e2
  obtain rfl : part = 9 := e3
  obtain rfl : ph = true := e4
  apply xs_w_ok
  ·exact hM.len
  ·exact e6
  ·exact hw9
  ·exact hS.wd
  ·exact pos_of e5
 | f e1 e2 e3 p0 e5 e6 =>
  obtain ⟨e4,g1,g2⟩ := p0
  obtain rfl : life = 2 := e1
  obtain rfl : job = 4 := e2
  obtain rfl : part = 10 := e3
  obtain rfl : ph = true := e4
  apply xs_f_ok
  ·exact hM.len
  ·exact e5
  ·exact g1.mem
  ·exact g1.len
  ·exact ⟨e6.1,Int.lt_of_le_of_lt e6.2 (by decide)⟩
 | e e1 e2 e3 e4 =>
  obtain rfl : life = 2 := e1
  obtain rfl : job = 4 := e2
  obtain rfl : part = 11 := e3
  obtain rfl : ph = true := e4
  apply xs_e_ok
  ·exact hM.len
  ·exact hS.th
 | u e1 e2 e3 p0 =>
  obtain ⟨e4,g1,g2⟩ := p0
  obtain rfl : life = 3 := e1
  obtain rfl : job = 5 := e2
  obtain rfl : part = 0 := e3
  obtain rfl : ph = true := e4
  apply xs_u_ok
  ·exact hM.len
  ·exact hS.th
  ·exact g2.mem g1
  ·exact Nat.le_trans g2.len (Nat.le_trans g1.len (by decide))
end Go.Proofs.Ytmjjljngaefpaaa
