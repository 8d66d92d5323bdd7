import Derived.Test.YtcholkmididfmaaGreatDoorNb
set_option linter.unusedVariables false
set_option linter.unusedSimpArgs false
namespace Go.Proofs.Y
open Go.RowKit Go.Am Go.Sy
set_option maxRecDepth 100000
def A5(n:Nat)(l:List Int)(K:MK)(c:bg)(S:MT)(R:RM)(Q:LS→Prop):Prop:=∃z:LS,l=z.l∧kE K z.K (S.w=z.S.w∧S.o=z.S.o∧sL S.th z.S.th n (S.q 0=z.S.q 0∧S.q 1=z.S.q 1∧S.q 2=z.S.q 2∧
 cE c z.K.c (moE R.th z.R.th n (R.w=z.R.w∧R.o=z.R.o∧R.q 0=z.R.q 0∧R.q 1=z.R.q 1∧R.q 2=z.R.q 2∧Q z))))
def noP:Prop:=false=true∧True
def Cv(n:Nat)(s:LS)(u:Int)(P:Prop):Prop:=caD.pre (bw s.K n s.S,u,())∧rcD.pre (de s.K.c n s.R,u,())∧((cj (bw s.K n s.S) u !=ik (de s.K.c n s.R) u)=true→noP)∧((cj (bw s.K n s.S) u !=ik (de s.K.c n s.R) u)=false→P)
def smW(a b:List Int)(P:Prop):Prop:=smD.pre (a,b,())∧((!hT a b)=true→noP)∧((!hT a b)=false→P)
def MP(f:Nat→One)(g:Nat→Man):Nat→Prop→Prop
 |0,P=>P
 |k+1,P=>MP f g k (smW (f k).log (g k).told P)
def Lj(f:Nat→One):Nat→Prop→Prop
 |0,P=>P
 |k+1,P=>Lj f k (clD.pre ((f k).log,())∧P)
def lnP(a:List Int):Prop:=a.length*8≤140737488355328
def L6(g:Nat→Man):Nat→Prop→Prop
 |0,P=>P
 |k+1,P=>L6 g k (lnP (g k).told∧P)
def B1(f:Nat→One):Nat→List Int
 |0=>[]
 |k+1=>B1 f k++[(f k).status]
def IR(g:Nat→Man):Nat→List Int
 |0=>[]
 |k+1=>IR g k++[(g k).status]
def Kc(n:Nat)(s:LS)(P:Prop):Prop:=Lj s.S.th n (clD.pre (s.S.w,())∧clD.pre (s.S.o,())∧clD.pre (s.S.q 0,())∧clD.pre (s.S.q 1,())∧clD.pre (s.S.q 2,())∧
 lnP s.R.w∧lnP s.R.o∧L6 s.R.th n (lnP (s.R.q 0)∧lnP (s.R.q 1)∧lnP (s.R.q 2)∧
 smW s.S.w s.R.w (smW s.S.o s.R.o (smW (B1 s.S.th n) (IR s.R.th n) (MP s.S.th s.R.th n (smW (s.S.q 0) (s.R.q 0) (smW (s.S.q 1) (s.R.q 1) (smW (s.S.q 2) (s.R.q 2) P))))))))
def IB(n:Nat)(s:LS):Prop:=Cv n s (-1) (Cv n s 0 (Cv n s 1 (Cv n s 2 (Cv n s 3 (Kc n s (A5 n s.l s.K s.K.c s.S s.R fun z=>IntKind.i64.wrap ((s.k:Int)+1)=z.k∧LI n z∧2*(200-z.k)+1<2*(200-s.k)∧True))))))
theorem KO(s:LS):Go.Sy.Tree.holds (mf F (bf gn) 3000 Tryz.f8 b8 ⟨hN,.b true,[]⟩ nL 20 (l20 1) s)=IB 1 s:=by kernel_rfl
theorem LL(s:LS):Go.Sy.Tree.holds (mf F (bf gn) 3000 Tryz.f8 b8 ⟨hN,.b true,[]⟩ nL 20 (l20 2) s)=IB 2 s:=by kernel_rfl
theorem ML(s:LS):Go.Sy.Tree.holds (mf F (bf gn) 3000 Tryz.f8 b8 ⟨hN,.b true,[]⟩ nL 20 (l20 3) s)=IB 3 s:=by kernel_rfl
def lwX(s:LS):Int:=IntKind.i64.wrap (IntKind.i64.wrap ((IntKind.u64.wrap (at0 s.l (s.k:Int))).tmod 5)-1)
def lwV(s:LS):Int:=(IntKind.u64.wrap ((IntKind.u64.wrap (at0 s.l (s.k:Int))).tdiv 5)).tmod 8
def Ov(x:Int)(K:Nat→Prop):Prop:=((-1:Int)≤x∧x≤3)∧((x==0)=true→K 1)∧((x==0)=false→((x==1)=true→K 2)∧((x==1)=false→((x==2)=true→K 3)∧((x==2)=false→((x==3)=true→K 4)∧((x==3)=false→K 0))))
def inB(n j:Nat):Bool:=Nat.ble 1 j && Nat.ble j n
def BX(n:Nat)(x:Int)(c o:Nat→Prop):Prop:=Ov x fun j=>bif inB n j then c (j-1)else o j
def E7(g:Nat→Man):Nat→Prop→Prop
 |0,P=>P
 |k+1,P=>E7 g k (lnP (g k).has∧P)
section
variable (n:Nat)(s:LS)
def rK(K:MK)(c:bg)(S:MT)(R:RM):Prop:=A5 n s.l K c S R fun z=>(s.k:Int)=z.k∧(LI n z∧z.k<z.l.length)∧2*(200-z.k)<2*(200-s.k)+1∧True
def SI(t:Nat)(F G:MK→MT→Prop):Prop:=∃z:RsS,toE n s.K z.K s.S z.S (ai t=ai t) (PH n z.K z.S∧(∀y:MK×MT,y.1=z.K∧y.2=z.S∧kb z.K n t z.S=none→F y.1 y.2)∧(∀y:MK×MT,y.1=z.K∧kb z.K n t z.S=some y.2→G y.1 y.2)∧True)
def TD(t:Nat)(F G:bg→RM→Prop):Prop:=∃z:RpS,s.R.w=z.S.w∧s.R.o=z.S.o∧s.R.q 0=z.S.q 0∧s.R.q 1=z.S.q 1∧s.R.q 2=z.S.q 2∧mlE s.R.th z.S.th n (ai t=ai t∧mcE s.R.th z.S.th n (cE s.K.c z.K.c (PR n z.K z.S∧
 (∀y:bg×RM,y.1=z.K.c∧y.2=z.S∧iH z.K n t z.S=none→F y.1 y.2)∧(∀y:bg×RM,y.1=z.K.c∧iH z.K n t z.S=some y.2→G y.1 y.2)∧True)))
def OL(Q:MK→MT→Prop):Prop:=∃z:RsS,s.S.w=z.S.w∧s.S.o=z.S.o∧s.S.q 0=z.S.q 0∧s.S.q 1=z.S.q 1∧s.S.q 2=z.S.q 2∧lsE s.S.th z.S.th n (sP s.S.th z.S.th n (kE s.K z.K (PH n z.K z.S∧(∀y:MK×MT,y.1=z.K∧y.2=lM z.K n n z.S→Q y.1 y.2)∧True)))
def Pg(Q:bg→RM→Prop):Prop:=∃z:RpS,s.R.w=z.S.w∧s.R.o=z.S.o∧s.R.q 0=z.S.q 0∧s.R.q 1=z.S.q 1∧s.R.q 2=z.S.q 2∧mlE s.R.th z.S.th n (mcE s.R.th z.S.th n (cE s.K.c z.K.c (PR n z.K z.S∧
 (∀y:bg×RM,y.1=z.K.c∧y.2=mA z.K n n z.S→Q y.1 y.2)∧True)))
def KC(P:Prop):Prop:=lnP s.R.w∧lnP s.R.o∧E7 s.R.th n (lnP (s.R.q 0)∧lnP (s.R.q 1)∧lnP (s.R.q 2)∧P)
def Ba(b:Bool)(K:MK)(S:MT):Prop:=BX n (lwX s)
 (fun t=>TD n s t (fun c R=>bif b then noP else rK n s K c S R) (fun c R=>bif b then rK n s K c S R else noP))
 (fun _=>KC n s (bif b then noP else rK n s K s.K.c S s.R))
def NW:Prop:=BX n (lwX s) (fun t=>SI n s t (Ba n s false) (Ba n s true)) (fun _=>Ba n s false s.K s.S)
def Tn(b:Bool)(K:MK)(S:MT):Prop:=BX n (lwX s)
 (fun t=>p9 n t s.K.c s.R fun r=>((b !=r.2.2)=true→noP)∧((b !=r.2.2)=false→rK n s K r.1 S r.2.1))
 (fun j=>rcD.pre (de s.K.c n s.R,(j:Int)-1,())∧bc.bool (ik (de s.K.c n s.R) ((j:Int)-1))=bc.bool false∧(bif b then noP else rK n s K s.K.c S s.R))
def Pl(K:MK)(S:MT)(b:Bool):Prop:=BX n (lwX s)
 (fun t=>p9 n t s.K.c s.R fun r=>((b !=r.2.2)=true→noP)∧((b !=r.2.2)=false→rK n s K r.1 S r.2.1))
 (fun j=>rcD.pre (de s.K.c n s.R,(j:Int)-1,())∧bc.bool (ik (de s.K.c n s.R) ((j:Int)-1))=bc.bool false∧((b !=false)=true→noP)∧((b !=false)=false→rK n s K s.K.c S s.R))
def lPk:Prop:=BX n (lwX s)
 (fun t=>∃z:PkS,toE n s.K z.K s.S z.S (ai t=ai t) (PkI n t z∧(∀r:MK×MT×Bool,r.1=z.K∧r.2.1=bZ z.K n t z.S∧r.2.2=cj (bw z.K n z.S) t→Pl n s r.1 r.2.1 r.2.2)∧True))
 (fun j=>caD.pre (bw s.K n s.S,(j:Int)-1,())∧bc.bool (cj (bw s.K n s.S) ((j:Int)-1))=bc.bool false∧Tn n s false s.K s.S)
def bnK:Prop:=(0:Int)≤s.k∧(s.k:Int)<s.l.length
def lC8:Prop:=(decide ((s.k:Int)<s.l.length)=true→bnK s∧bnK s∧((lwV s==0)=true→NW n s)∧((lwV s==0)=false→((lwV s==1)=true→OL n s fun K S=>Pg n s fun c R=>rK n s K c S R)∧((lwV s==1)=false→lPk n s)))∧
 (decide ((s.k:Int)<s.l.length)=false→true=true∧True)
end
theorem Qz(s:LS):Go.Sy.Tree.holds (mf F (bf gn) 3000 Tryz.f8 b8 ⟨hN,.b true,[]⟩ nL 8 (l8 1) s)=lC8 1 s:=by kernel_rfl
theorem O9(s:LS):Go.Sy.Tree.holds (mf F (bf gn) 3000 Tryz.f8 b8 ⟨hN,.b true,[]⟩ nL 8 (l8 2) s)=lC8 2 s:=by kernel_rfl
theorem OX(s:LS):Go.Sy.Tree.holds (mf F (bf gn) 3000 Tryz.f8 b8 ⟨hN,.b true,[]⟩ nL 8 (l8 3) s)=lC8 3 s:=by kernel_rfl
end Go.Proofs.Y
