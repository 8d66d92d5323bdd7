import Derived.Test.YtcholkmididfmaaGreatDoorOc
import Derived.Test.YtcholkmididfmaaGreatDoorOi
import Derived.Test.YtcholkmididfmaaGreatDoorNb
set_option linter.unusedVariables false
set_option linter.unusedSimpArgs false
namespace Go.Proofs.Y
open Go.RowKit Go.Am Go.Sy
set_option maxRecDepth 100000
theorem Sz:cv F.S (bf Fm):=bW fun p h=>by
 simp only[Fm,qt]at h;subst h;exact lW Rw
theorem JS:cv F.S (bf gn):=bW fun p h=>by
 simp only[gn,Kj,List.cons_append,List.nil_append,List.mem_cons,List.not_mem_nil,or_false]at h;rcases h with rfl|rfl|rfl|rfl|rfl|rfl|rfl|rfl|rfl|rfl|rfl|rfl|rfl|rfl|rfl|rfl|rfl|rfl|rfl
 ·exact Oy
 ·exact Jq
 ·exact LT
 ·exact lW PN
 ·exact Rh
 ·exact lW (nF 22 Sz)
 ·exact Fk
 ·exact n9 k20
 ·exact n9 k23
 ·exact n9 k24
 ·exact n9 k25
 ·exact n9 k17
 ·exact n9 k26
 ·exact Dj
 ·exact Js
 ·exact mQ Ku
 ·exact mQ Kw
 ·exact M3
 ·exact LE
theorem rq{n:Nat}(h1:1≤n)(a:n≤3)(s:C4)(h:C4I n s):b7 (mf F (bf gn) 3000 Tryz.f8 b8 ⟨hN,.b true,[]⟩ nL 4 (l4 n) s):=by
 refine⟨?_⟩;have:n=1∨n=2∨n=3:=by omega
 rcases this with rfl|rfl|rfl
 ·rw[OZ];exact MN h a
 ·rw[Ot];exact FC h a (by decide)
 ·rw[PA];exact FC h a (by decide)
theorem Dk(k:K8)(rows:List (List Int))(l:List Int){av:List bc}(c:Ers (C:=cod) (gg []) [.agg (B8 k),.tl (T:=T) 5 rows,.tl (T:=T) 0 l] av):∃n H',ro S n 0 8 av []=some (.bool true,H'):=
 C3 (F:=F) (fn:=Tryz.f8) (body:=b8) (ctr:=bf gn) bE noExt bC JS Tryz.func8 rfl rfl rfl 3000 (args:=[.agg (B8 k),.tl (T:=T) 5 rows,.tl (T:=T) 0 l]) hN nL (show 3≤Tryz.f8.ntmps by decide) (show Tryz.f8.ntmps≤512 by decide) (by kernel_rfl)
  ⟨by rw[T8];exact PI k rows l⟩ (fun p b s a=>by
   simp only[hN,J5,List.cons_append,List.nil_append,List.mem_cons,List.not_mem_nil,or_false]at b;rcases b with rfl|rfl|rfl|rfl|rfl|rfl|rfl|rfl|rfl
   ·exact sj (by decide) (by decide) s a
   ·exact sj (by decide) (by decide) s a
   ·exact sj (by decide) (by decide) s a
   ·exact od (by decide) (by decide) s a
   ·exact od (by decide) (by decide) s a
   ·exact od (by decide) (by decide) s a
   ·exact rq (by decide) (by decide) s a
   ·exact rq (by decide) (by decide) s a
   ·exact rq (by decide) (by decide) s a) c
end Go.Proofs.Y
