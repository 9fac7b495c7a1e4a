import Derived.Test.YtghemgdfmldoeaaGreatS35
set_option linter.unusedVariables false
set_option linter.unusedSimpArgs false

namespace Go.Proofs.YtghemgdfmldoeaaGreat
open Go.RowKit

set_option maxRecDepth 100000
section
def dBo:Dec where
 α:=Bool
 C:=fun b=>⟨false,[.b b]⟩
 d:=fun|⟨false,[.v (.bool c)]⟩=>some (c,[])|⟨false,[.b c]⟩=>some (c,[])|_=>none
 ok:=by
  intro v a ps h hp W x hr
  split at h
  ·cases h
   obtain⟨cs,⟨_,_,rfl,h,rfl⟩,e,h2⟩:=hr
   exact⟨_,⟨_,[],rfl,h.1,rfl⟩,e,h2⟩
  ·cases h
   exact hr
  ·cases h
theorem drs_ok(p:Pnl)(n:Nat)(F:Nat->Drw)(b:Bool)(h:DrOk p n F):Fok Tryz.prog fDr [panV p,drR1 n F,⟨false,[.b b]⟩] (.one (drsO (drN p n F+bif b then p.nm else 0) (drK p n F))):=by
 cases b
 ·exact drF_ok p n F h
 ·exact drT_ok p n F h
def cDrs:Con:=con3 dPan dDrs dBo fDr (fun p L b=>.one (drsO (drN p L.1 L.2+bif b then p.nm else 0) (drK p L.1 L.2))) (fun p L _=>[DrOk p L.1 L.2]) fun p L b h=>drs_ok p L.1 L.2 b h.1
def fSa:FuncId:=10
def KSan:List Con:=[cExample,cRectP,cChkP,cDiscP,cDrs,dSdr,cProbes,cHoles,dSho,cSingle]
def lsR(l:List (List It)):Nat->List It:=fun i=>(l.getD i []).map nrmR
def drwR(s:Sh):List It:=[.i s.k lim,edD s.n s.e,.i s.r lim,.b false]
def sA:Sh:=discS 10 5 1
def sB:Sh:=discS 65 10 1
def F1:Nat->Drw:=fun j=>drA' (lsR [drwR sA] j)
def F2:Nat->Drw:=fun j=>drA' (lsR [drwR sA,drwR sB] j)
def F3:Nat->Drw:=fun j=>drA' (lsR [drwR sA,drwR sB,drwR exDc] j)
def e0S:ByteArray:=⟨#[]⟩
def P1:Nat->Prb:=fun j=>prbA (lsR [[.k 0,.v (.string e0S),.v (.string e0S),.k 10,.k 5,.k 1]] j)
def H0:Nat->Hol:=fun j=>hoA (z0F j)
def H1:Nat->Hol:=fun j=>hoA (lsR [[.i exTb.k lim,edD exTb.n exTb.e,.i exTb.r lim,.k 1,.k 2,.b false]] j)
def scP(q:Prb):List Sc:=[.i q.c,.s q.a,.s q.b,.i q.x,.i q.y,.i q.l]
def pX:Pnl:=exP 70
def qRf{α:Type}(I:α->List It)(f:Nat->List It)(A:List It->α)(n:Nat)(h:∀j,j<n->f j=I (A (f j))):Pf:=⟨∀j,j<n->f j=I (A (f j)),h⟩
theorem lt1{j:Nat}(h:j<1):j=0:=by omega
theorem lt2{j:Nat}(h:j<2):j=0\/j=1:=by omega
theorem lt3{j:Nat}(h:j<3):j=0\/j=1\/j=2:=by omega
theorem sa_mv(k:Nat)(hk:k<2):MvOk sA (pX.c k):=by
 rcases lt2 hk with rfl|rfl
 ·exact⟨by decide,by decide,fun i hi=>by obtain rfl:=lt1 hi;decide,by decide,by decide,by decide⟩
 ·exact⟨by decide,by decide,fun i hi=>by obtain rfl:=lt1 hi;decide,by decide,by decide,by decide⟩
theorem sa_rp:RpOk pX 1 fun i=>(F1 i).s:=⟨by decide,by decide,by decide,fun k j hk hj=>by obtain rfl:=lt1 hj;exact sa_mv k hk⟩
theorem sa_dr:DrOk pX 1 F1:=⟨sa_rp,by decide⟩
theorem sa_pb:PbOk pX 1 P1:=⟨by decide,by decide,by decide,fun k j hk hj=>by
 obtain rfl:=lt1 hj
 rcases lt2 hk with rfl|rfl
 ·exact⟨⟨⟨by decide,by decide⟩,by decide⟩,by decide,by decide⟩
 ·exact⟨⟨⟨by decide,by decide⟩,by decide⟩,by decide,by decide⟩⟩
theorem sa_ho:HoOk pX 0 H0:=⟨⟨by decide,by decide,by decide,fun k j _ hj=>absurd hj (Nat.not_lt_zero j)⟩,by decide,fun i hi=>by obtain rfl:=lt1 hi;decide⟩
def saPn(p:Pnl):List Pf:=qPO p
def sa1:List Pf:=[pP (show CkC (exP 70) exO from .inr ⟨.inl rfl,rfl⟩)]++saPn (exP 70)++[pEd exO,pT (show (chkR (exP 70)==0)=true by decide),pP (show CkC (exP 60) exO from .inr ⟨.inr rfl,rfl⟩)]++saPn (exP 60)++[pEd exO]
def saD(b:Bool)(m:Nat)(F:Nat->Drw)(f:Nat->List It)(h:∀j,j<m->f j=drI (drA' (f j)))(g:eqRows eqDr (drN pX 1 F1+bif b then pX.nm else 0) m (drK pX 1 F1) F=true)(hl:drN pX 1 F1+(bif b then pX.nm else 0)<=1000)(hn:∀i,i<drN pX 1 F1+(bif b then pX.nm else 0)->(drK pX 1 F1 i).s.n<=1000)(e:F=fun j=>drA' (f j)):List Pf :=
 [pP sa_dr]++saPn pX++[qRf drI (lsR [drwR sA]) drA' 1 (fun j hj=>by obtain rfl:=lt1 hj;rfl),pP hl,pP hn,⟨∀j,j<drN pX 1 F1+(bif b then pX.nm else 0)->drI (drK pX 1 F1 j)=drI (drA' (drI (drK pX 1 F1 j))),fun _ _=>rfl⟩,⟨∀j,j<m->f j=drI (drA' (f j)),h⟩]
theorem sa_eq2:eqRows eqDr (drN pX 1 F1+bif false then pX.nm else 0) 2 (drK pX 1 F1) F2=true:=by kernel_rfl
theorem sa_eq3:eqRows eqDr (drN pX 1 F1+bif true then pX.nm else 0) 3 (drK pX 1 F1) F3=true:=by kernel_rfl
theorem sa_eqH:eqRows eqHo (pX.nc*0+pX.nt) 1 (hoK pX 0 H0 2) H1=true:=by kernel_rfl
theorem sa_n(b:Bool)(i:Nat)(h:i<drN pX 1 F1+(bif b then pX.nm else 0)):(drK pX 1 F1 i).s.n<=1000:=by
 have h3:i<3:=by
  have:drN pX 1 F1+(bif b then pX.nm else 0)<=3:=by cases b<;>decide
  omega
 rcases lt3 h3 with rfl|rfl|rfl<;>decide
theorem sa_hn(i:Nat)(h:i<pX.nc*0+pX.nt):(hoK pX 0 H0 2 i).s.n<=1000:=by
 obtain rfl:i=0:=lt1 h
 decide
def sa4:List Pf:=[pP sa_pb]++saPn pX++[qRf prbI (lsR [[.k 0,.v (.string e0S),.v (.string e0S),.k 10,.k 5,.k 1]]) prbA 1 (fun j hj=>by obtain rfl:=lt1 hj;rfl),
 pT (show ((((pX.nc*1:Nat):Int))==2)=true by decide),ixA 0 (pX.nc*1) (by decide),pT (show eqZ (scP (pbMv pX 1 P1 0)) [.i 0,.s e0S,.s e0S,.i 10,.i 5,.i 1]=true by kernel_rfl),ixA 1 (pX.nc*1) (by decide)]
def sa6:List Pf:=[pP sa_ho]++saPn pX++[qRf hoI z0F hoA 0 (fun j hj=>absurd hj (Nat.not_lt_zero j)),pT (show (chkR (exP 60)==74)=true by decide),pT sa_eq3,pT (show eqZ (scP (pbMv pX 1 P1 1)) [.i 1,.s e0S,.s e0S,.i 65,.i 10,.i 1]=true by kernel_rfl),ixA 0 pX.nt (by decide),
 pP (show pX.nc*0+pX.nt<=1000 by decide),pP sa_hn,⟨∀j,j<pX.nc*0+pX.nt->hoI (hoK pX 0 H0 2 j)=hoI (hoA (hoI (hoK pX 0 H0 2 j))),fun _ _=>rfl⟩,qRf hoI (lsR [[.i exTb.k lim,edD exTb.n exTb.e,.i exTb.r lim,.k 1,.k 2,.b false]]) hoA 1 (fun j hj=>by obtain rfl:=lt1 hj;rfl),pT sa_eqH]
def saPf:List Pf:=sa1++saD false 2 F2 (lsR [drwR sA,drwR sB]) (fun j hj=>by rcases lt2 hj with rfl|rfl<;>rfl) sa_eq2 (by decide) (sa_n false) rfl++[pT sa_eq2] ++
 saD true 3 F3 (lsR [drwR sA,drwR sB,drwR exDc]) (fun j hj=>by rcases lt3 hj with rfl|rfl|rfl<;>rfl) sa_eq3 (by decide) (sa_n true) rfl++sa4++sa6
theorem sanity_ok:Fok Tryz.prog fSa [] (.one (blV true)) :=
 fokX [xAll] KSan [true,true,true,true,true,true,true,true] saPf (by kernel_rfl)
end

set_option maxRecDepth 100000
section
def dsA:List It->List Int
 | [.ds L]=>L
 | _=>[]
def dCs:Dec where
 α:=Cs
 C:=csV
 d:=fun
  | ⟨true,[.ds o,.ds p,.i a _,.i b _,.i c _,.ro z n f,.ro y m g]⟩=>if z=1/\y=1 then some (⟨o,p,a,b,c,n,fun i=>dsA (f i),m,fun i=>dsA (g i)⟩,[∀j,j<n->f j=dsI (dsA (f j)),∀j,j<m->g j=dsI (dsA (g j))]) else none
  | _=>none
 ok:=by
  intro v a ps h hp W x hr
  split at h
  ·split at h <;> cases h
   rename_i hz
   obtain⟨rfl,rfl⟩:=hz
   obtain⟨cs,⟨_,_,rfl,h1,_,_,rfl,h2,_,_,rfl,⟨rfl,_,i1⟩,_,_,rfl,⟨rfl,_,i2⟩,_,_,rfl,⟨rfl,_,i3⟩,c6,_,rfl,⟨v6,e6,h6⟩,c7,_,rfl,⟨v7,e7,h7⟩,rfl⟩,e,_⟩:=hr
   exact⟨_,⟨_,_,rfl,h1,_,_,rfl,h2,_,_,rfl,⟨rfl,i64_lim i1,i1⟩,_,_,rfl,⟨rfl,i64_lim i2,i2⟩,_,_,rfl,⟨rfl,i64_lim i3,i3⟩,c6,_,rfl,⟨v6,e6,rowC_cg hp.1 h6⟩,c7,[],rfl,⟨v7,e7,rowC_cg hp.2.1 h7⟩,rfl⟩,e,nofun⟩
  ·cases h
def cMk:Con:=con1 dCs fMc (fun c=>.tup [shdV (outQ c),panO (panQ c)]) (fun _=>[]) fun c _=>mk_ok c
def nD(c:Cs):Nat:=min c.nd 9
def nS(c:Cs):Nat:=min c.ns 5
def cLists:Con:=con1 dCs fLs (fun c=>.tup [hosO (nS c) (csH c),prsO (nS c) (csQ c)]) (fun _=>[]) fun c _=>lists_ok c
def dLs:Dec:=decRow 1 dsI dsA
def c37:Con:=con1 dLs f37 (fun a=>.one (drsO (min a.1 9) fun i=>drwQ (a.2 i) i)) (fun _=>[]) fun a _=>m37_ok a.1 a.2
def cSanity:Con where
 f:=fSa
 g:=fun | []=>some (.one (blV true),[])|_=>none
 ok:=by
  intro args res ps h hp
  split at h<;>cases h
  exact sanity_ok
def fPS:FuncId:=5
def csF(c:Cs)(i:Nat):Drw:=drwQ (c.d i) i
def psB(c:Cs):List (Option Mb):=[none,some ⟨30,shIs (outQ c)⟩,none,some ⟨43,(panO oneP).l⟩]
def psR(c:Cs):List (Nat×Rq):=[(3,.eq (blV true)),(4,.eq (ptrN 1)),(6,.le (drsO (nD c) (csF c))),(7,.le (hosO (nS c) (csH c))),(8,.le (prsO (nS c) (csQ c))),(9,.eq (ptrN 3)),(10,.le (prsO (1*nS c) (pbMv oneP (nS c) (csQ c))))]
def psD(c:Cs)(k:Nat):Ds:=⟨(37,.le (inV (nS c:Int) lim))::(38,.le (inV (k:Int) 2000))::psR c,psB c⟩
def KPs:List Con:=[cSanity,cMk,c37,cLists,cSingle,cProbes,cChkP,cDrs,dSdr,cHoles,dSho]
def csZ(c:Cs)(k:Nat):Prb:={ csQ c k with c:=0 }
def psX(c:Cs)(k:Nat):Ds:=⟨(11,.le (inV (k:Int) 2000))::(12,.eq (ptrN 4))::(37,.le (inV (nS c:Int) lim))::(38,.le (inV (k:Int) 2000))::psR c,psB c++[some ⟨64,prbI (csZ c k)⟩]⟩
def psY(c:Cs)(k:Nat):Ds:=⟨(51,.eq (blV false))::(37,.le (inV (nS c:Int) lim))::(38,.le (inV (k:Int) 2000))::psR c,psB c⟩
theorem mv00(x y:Int):mvP m00 (x,y)=(x,y):=by
 unfold mvP m00
 rw[tn0 (by decide)]
 simp
theorem psg_eq(c:Cs)(k:Nat)(h:k<nS c):pbMv oneP (nS c) (csQ c) k=csZ c k:=by
 unfold pbMv csZ
 rw[Nat.div_eq_of_lt h,Nat.mod_eq_of_lt h]
 show (⟨0,_,_,(mvP m00 _).1,(mvP m00 _).2,_⟩:Prb)=_
 rw[mv00]
theorem ba_rfl(a:ByteArray):(a==a)=true:=by
 obtain⟨d⟩:=a
 show (d==d)=true
 simp
theorem eqZ_rfl(q:Prb):eqZ (scP q) (scP q)=true:=by simp[scP,eqZ,eqS,ba_rfl]
def qLs(c:Cs):List Pf:=[pR (blV true),pR (ptrN 1),qL drI (csF c) (nD c) (nD c) rfl,qL hoI (csH c) (nS c) (nS c) rfl,qL prbI (csQ c) (nS c) (nS c) rfl,pR (ptrN 3),qL prbI (pbMv oneP (nS c) (csQ c)) (1*nS c) (1*nS c) rfl]
def qBx(c:Cs):List Pf:=[qZ (outQ c).k,qIt (edD (outQ c).n (outQ c).e),qZ (outQ c).r,qL moI oneP.c oneP.nc oneP.nc rfl,qL shIs oneP.t oneP.nt oneP.nt rfl,qL ptI oneP.m oneP.nm oneP.nm rfl,qZ oneP.r]
def XPs:List Eff:=[xAll,xNext]
theorem ps_14(c:Cs)(k:Nat)(h:k<nS c):OrcOk Tryz.prog (lpC fPS 29) ⟨nF fPS,psX c k,.nm,psY c k⟩ :=
 orc_pur (X:=XPs) (K:=KPs) [] ([pP (show 0<=(k:Int)/\(k:Int)<((1*nS c:Nat):Int) by omega),⟨(⟨false,[.v (.bool (!eqZ (scP (pbMv oneP (nS c) (csQ c) k)) (scP (csZ c k))))]⟩:V1)=⟨false,[.v (.bool false)]⟩,by rw[psg_eq c k h,eqZ_rfl];rfl⟩,qZ (nS c),qZ k]++qLs c++qBx c) (by kernel_rfl)
noncomputable def psT(c:Cs)(k:Nat):List (Nat×Orc):=if k<nS c then [(29,⟨nF fPS,psX c k,.nm,psY c k⟩)] else []
def psE(c:Cs):Ds:=⟨psR c,psB c⟩
theorem nS_le(c:Cs):nS c<=5:=Nat.min_le_right _ _
theorem ps_l(c:Cs):OrcOk Tryz.prog (lpC fPS 20) ⟨nF fPS,psD c 0,.ex 0,psE c⟩ :=
 orc (X:=XPs) (K:=KPs) (f:=fPS) (id:=20) (n:=nF fPS) (nS c) (psD c) (fun k=>psT c k) (e:=.ex 0) (d1:=psE c) (by kernel_rfl) (fun k=>by unfold psT;by_cases h:k<nS c<;>simp only[h,if_true,if_false]<;>kernel_rfl) (fun k _=>by
   unfold psT
   by_cases hk:k<nS c
   ·rw[if_pos hk];exact LT.cons (ps_14 c k hk) LT.nil
   ·rw[if_neg hk];exact LT.nil)
  (fun k hk => by
   unfold psT
   rw[if_pos hk]
   have h5:=nS_le c
   exact⟨[true,false],[pT (ltT (show (k:Int)<(nS c:Int) by omega)),pP (show 0<=(k:Int)/\(k:Int)<(nS c:Int) by omega),qZ k,pR (ptrN 4),qZ (nS c),qZ k]++qLs c++qBx c++[qZ 0,qIt (.v (.string (csQ c k).a)),qIt (.v (.string (csQ c k).b)),qZ (csQ c k).x,qZ (csQ c k).y,qZ (csQ c k).l,⟨false=false,rfl⟩,qZ (nS c),pI k (by omega)]++qLs c++qBx c,by kernel_rfl⟩)
  (by
   unfold psT
   rw[if_neg (Nat.lt_irrefl _)]
   exact⟨[false],[pF (ltF (show ¬(nS c:Int)<(nS c:Int) by omega))]++qLs c++qBx c,by kernel_rfl⟩) nofun
end

set_option maxRecDepth 100000
section
theorem ap00(x y:Int):applyP 0 0 0 false x y=(x,y):=by simp[applyP,rot,mir]
theorem mvE00(e:Ed):moveE e 0 0 (modZ 0 4) false=e:=by
  rw[show modZ 0 4=0 by decide]
  unfold moveE
  simp only[ap00,Bool.false_eq_true,if_false,ite_self]
theorem mvS00(s:Sh):mvS m00 s=s:=by
  show movS s 0 0 0 false=s
  unfold movS
  simp only[mvE00]
theorem fine_mv{s:Sh}(h:FineS s):MvOk s m00 :=
  ⟨by have:=h.1.n0;unfold fewS at this;split at this<;>omega,by have:=h.1.n1;omega,h.1.ok,Nat.zero_le _,Nat.zero_le _,by simp[m00]⟩
theorem drw_fine(L:List Int)(k:Nat):FineS (drwQ L k).s:=by
  unfold drwQ
  split
  . have b1 := nV_bd L 1 (m := 40) (by omega)
    have b2:=nV_bd L 2 (m:=40) (by omega)
    have b3:=nV_bd L 3 (m:=40) (by omega)
    have b4:=nV_bd L 4 (m:=40) (by omega)
    exact rect_fine (by omega) (by omega) (by omega) (by omega)
  . exact made_fine L
theorem out_fine(c:Cs):FineS (outQ c)/\(outQ c).k=2:=by
  unfold outQ
  split
  . exact⟨made_fine c.o,by assumption⟩
  . exact⟨rect_fine (by omega) (by omega) (by omega) (by omega),rfl⟩
theorem ps_chk(c:Cs):CkC oneP (outQ c):=.inl ⟨rfl,(out_fine c).2,(out_fine c).1.1.chk,fine_mv (out_fine c).1,by rw[mvS00];exact (out_fine c).1.1.chk⟩
theorem ps_pb(c:Cs):PbOk oneP (nS c) (csQ c):=⟨by decide,by have:=nS_le c;omega,by have:=nS_le c;show 1*nS c<=1000;omega,fun k j _ _=>by
  have f:=made_fine (c.s j)
  have h0:=(madeS_pos (c.s j)).1
  have b:=f.2.1 0 h0
  unfold EdSm Sm3 at b
  have c0:1000<=c40:=by decide
  refine⟨⟨⟨Nat.zero_le _,Nat.zero_le _⟩,?_⟩,?_,?_⟩
  . show -8 <= (0 : Int) /\ (0 : Int) <= 8
    omega
  . show ((madeS (c.s j)).e 0).ax.natAbs <= c40
    omega
  . show ((madeS (c.s j)).e 0).ay.natAbs <= c40
    omega⟩
theorem nD_le(c:Cs):nD c<=9:=Nat.min_le_right _ _
theorem one_rp{n:Nat}(hn:n<=1000){S:Nat->Sh}(h:∀j,j<n->FineS (S j)):RpOk oneP n S:=⟨by decide,hn,by show 1*n<=1000;omega,fun k j hk hj=>by
  obtain rfl:k=0:=lt1 hk
  exact fine_mv (h j hj)⟩
theorem ps_dr(c:Cs):DrOk oneP (nD c) (csF c):=⟨one_rp (by have:=nD_le c;omega) fun j _=>drw_fine _ _,by have:=nD_le c;show 1*nD c+0<=1000;omega⟩
theorem ps_ho(c:Cs):HoOk oneP (nS c) (csH c):=⟨one_rp (by have:=nS_le c;omega) fun j _=>made_fine _,by have:=nS_le c;show 1*nS c+0<=1000;omega,fun i hi=>absurd hi (Nat.not_lt_zero i)⟩
theorem one_mv{f:Nat}{F:Nat->Drw}{i:Nat}(h:i<f):drMv oneP f F i=F i:=by
  unfold drMv
  rw[Nat.div_eq_of_lt h,Nat.mod_eq_of_lt h]
  show (⟨mvS m00 (F i).s,(F i).c⟩:Drw)=F i
  rw[mvS00]
theorem one_drK{n:Nat}{F:Nat->Drw}{i:Nat}(h:i<n):drK oneP n F i=F i:=by
  have hf:=frF_le F n
  have hN:=drN_eq oneP n F
  have e1:oneP.nc*n=n:=Nat.one_mul n
  have e2:oneP.nc*frF F n=frF F n:=Nat.one_mul _
  unfold drK
  rw[if_pos (by omega)]
  unfold drB
  rw[e2]
  split
  . exact one_mv (by assumption)
  . rw[one_mv (by omega),show frF F n+(i-frF F n)=i by omega]
theorem one_hoK{n:Nat}{F:Nat->Hol}{y:Int}{i:Nat}(h:i<n):hoK oneP n F y i=F i:=by
  have e1:oneP.nc*n=n:=Nat.one_mul n
  unfold hoK
  rw[if_pos (by omega)]
  unfold hoMv
  rw[Nat.div_eq_of_lt h,Nat.mod_eq_of_lt h]
  show (⟨mvS m00 (F i).s,(F i).f,(F i).t,(F i).p⟩:Hol)=F i
  rw[mvS00]
theorem eqEd_rfl(e:Ed):eqEd e e=true:=by simp[eqEd]
theorem eqSh_rfl(s:Sh):eqSh s s=true:=by
  unfold eqSh
  rw[allB_t.2 fun i _=>eqEd_rfl _]
  simp
theorem eqDr_rfl(d:Drw):eqDr d d=true:=by simp[eqDr,eqSh_rfl]
theorem eqHo_rfl(d:Hol):eqHo d d=true:=by simp[eqHo,eqSh_rfl]
theorem eqRows_t{α:Type}{eq:α->α->Bool}{n m:Nat}{F G:Nat->α}(hn:n=m)(h:∀i,i<n->F i=G i)(hr:∀x,eq x x=true):eqRows eq n m F G=true:=by
  unfold eqRows
  rw[allB_t.2 fun i hi=>by rw[h i hi];exact hr _]
  simp[hn]
theorem ps_n(c:Cs):drN oneP (nD c) (csF c)+(bif true then oneP.nm else 0)=nD c:=by
  rw[drN_eq]
  show 1*nD c+0=nD c
  omega
theorem ps_eqD(c:Cs):eqRows eqDr (drN oneP (nD c) (csF c)+bif true then oneP.nm else 0) (nD c) (drK oneP (nD c) (csF c)) (csF c)=true :=
  eqRows_t (ps_n c) (fun i hi=>one_drK (by rw[ps_n] at hi;exact hi)) eqDr_rfl
theorem ps_nH(c:Cs):oneP.nc*nS c+oneP.nt=nS c:=by show 1*nS c+0=nS c;omega
theorem ps_eqH(c:Cs):eqRows eqHo (oneP.nc*nS c+oneP.nt) (nS c) (hoK oneP (nS c) (csH c) 2) (csH c)=true :=
  eqRows_t (ps_nH c) (fun i hi=>one_hoK (by rw[ps_nH] at hi;exact hi)) eqHo_rfl
theorem ps_dn(c:Cs)(i:Nat)(h:i<drN oneP (nD c) (csF c)+(bif true then oneP.nm else 0)):(drK oneP (nD c) (csF c) i).s.n<=1000:=by
  rw[ps_n] at h
  rw[one_drK h]
  have:=(drw_fine (c.d i) i).1.n1
  show (drwQ (c.d i) i).s.n<=1000
  omega
theorem ps_hn(c:Cs)(i:Nat)(h:i<oneP.nc*nS c+oneP.nt):(hoK oneP (nS c) (csH c) 2 i).s.n<=1000:=by
  rw[ps_nH] at h
  rw[one_hoK h]
  have:=(made_fine (c.s i)).1.n1
  show (madeS (c.s i)).n<=1000
  omega
def qDs(n:Nat)(f:Nat->List Int):Pf:=⟨∀j,j<n->dsI (f j)=dsI (f j),fun _ _=>rfl⟩
def qRr{α:Type}(I:α->List It)(n:Nat)(f:Nat->α):Pf:=⟨∀j,j<n->I (f j)=I (f j),fun _ _=>rfl⟩
def psPf(c:Cs):List Pf:=[qDs c.nd c.d,qDs c.ns c.s,qDs c.nd c.d,qDs c.nd c.d,qDs c.ns c.s,pP (ps_pb c)]++qPO oneP++[qRr prbI (nS c) (csQ c),pF (neF (show ((1*nS c:Nat):Int)=(nS c:Int) by omega)),qZ (nS c),q0]++qLs c++qBx c ++
  [⟨true=true,rfl⟩,pP (ps_chk c)]++qPO oneP++[pEd (outQ c),pT (show (chkR oneP==0)=true by decide),pP (ps_dr c)]++qPO oneP++[qDO (nD c) (csF c),pP (show drN oneP (nD c) (csF c)+(bif true then oneP.nm else 0)<=1000 by rw[ps_n];have:=nD_le c;omega),pP (ps_dn c),⟨∀j,j<drN oneP (nD c) (csF c)+(bif true then oneP.nm else 0)->drI (drK oneP (nD c) (csF c) j)=drI (drK oneP (nD c) (csF c) j),fun _ _=>rfl⟩,qDO (nD c) (csF c),pT (ps_eqD c),
   pP (ps_ho c)]++qPO oneP++[qRr hoI (nS c) (csH c),pP (show oneP.nc*nS c+oneP.nt<=1000 by rw[ps_nH];have:=nS_le c;omega),pP (ps_hn c),qRr hoI (oneP.nc*nS c+oneP.nt) (hoK oneP (nS c) (csH c) 2),qRr hoI (nS c) (csH c)]
theorem ps_raw(c:Cs):Fok Tryz.prog fPS [csV c] (.one (blV (eqRows eqHo (oneP.nc*nS c+oneP.nt) (nS c) (hoK oneP (nS c) (csH c) 2) (csH c)))) :=
  fokL [] KPs [(20,⟨nF fPS,psD c 0,.ex 0,psE c⟩)] (LT.cons (ps_l c) LT.nil) [false,true,true,true] (psPf c) (by kernel_rfl)
theorem ps_ok(c:Cs):Fok Tryz.prog fPS [csV c] (.one (blV true)):=Fok.bb (ps_eqH c).symm (ps_raw c)
end

set_option maxRecDepth 100000
section
def fEq:FuncId:=85
def sqD(n:Nat)(e e':Nat->Ed)(k:Nat):Ds:=⟨[(0,.eq ⟨false,[roE n e]⟩),(1,.eq ⟨false,[roE n e']⟩),(12,.le (inV (n:Int) lim)),(13,.le (inV (k:Int) 2000))],[]⟩
theorem sleq_ok(n:Nat)(e e':Nat->Ed)(hn:n<=1000)(h:∀i,i<n->eqEd (e i) (e' i)=true):Fok Tryz.prog fEq [⟨false,[roE n e]⟩,⟨false,[roE n e']⟩] (.one (blV true)):=by
 have o:=orc (X:=[]) (K:=[]) (f:=fEq) (id:=8) (n:=nF fEq) n (sqD n e e') (fun _=>[]) (e:=.ex 0) (d1:=⟨[],[]⟩) (by kernel_rfl) (fun _=>by kernel_rfl) (fun _ _=>LT.nil)
  (fun k hk=>⟨[true,false],[pT (ltT (show (k:Int)<(n:Int) by omega)),pP (show 0<=(k:Int)/\(k:Int)<(n:Int) by omega),pP (show 0<=(k:Int)/\(k:Int)<(n:Int) by omega),pF (show (!eqEd (e k) (e' k))=false by rw[h k hk];rfl),pR ⟨false,[roE n e]⟩,pR ⟨false,[roE n e']⟩,qZ n,pI k (by omega)],by kernel_rfl⟩)
  ⟨[false],[pF (ltF (show ¬(n:Int)<(n:Int) by omega))],by kernel_rfl⟩ nofun
 exact fokL [] [] _ (LT.cons o LT.nil) [false] [pF (neF (a:=n) (b:=n) rfl),pR ⟨false,[roE n e]⟩,pR ⟨false,[roE n e']⟩,qZ n,q0] (by kernel_rfl)
def cSlEq:Con:=con2 dEds dEds fEq (fun _ _=>.one (blV true)) (fun a b=>[a.1=b.1/\a.1<=1000/\∀i,i<a.1->eqEd (a.2 i) (b.2 i)=true]) fun a b h=>by
 obtain⟨⟨h1,h2,h3⟩,_⟩:=h
 obtain⟨n,e⟩:=a
 obtain⟨m,e'⟩:=b
 simp only at h1 h2 h3
 subst h1
 exact sleq_ok n e e' h2 h3
theorem eqEd_rfl'(e:Ed):eqEd e e=true:=by simp[eqEd]
theorem sameT_ok(s:Sh)(hn:s.n<=1000):Fok Tryz.prog 28 [shpV s,shpV s] (.one (blV true)) :=
 fokX [] [cSlEq] [true,true] [pT (b_T (show s.k=s.k from rfl)),pT (b_T (show s.r=s.r from rfl)),pP (⟨rfl,hn,fun i _=>eqEd_rfl' _⟩:s.n=s.n/\s.n<=1000/\∀i,i<s.n->eqEd (s.e i) (s.e i)=true),pEd s,pEd s] (by kernel_rfl)
def cSameT:Con:=con2 dSh dSh 28 (fun _ _=>.one (blV true)) (fun a b=>[a=b/\a.n<=1000]) fun a b h=>h.1.1 ▸ sameT_ok a h.1.2
end
def fPC:FuncId:=6
def cfr(c:Cs)(k:Nat):Nat:=frF (csF c) k
def pcN(c:Cs):Nat:=drN (panQ c) (nD c) (csF c)+(panQ c).nm
def pcA(c:Cs):Nat->Drw:=drK (panQ c) (nD c) (csF c)
def pcM(c:Cs):Nat:=(panQ c).nc*nS c+(panQ c).nt
def pcH(c:Cs):Nat->Hol:=hoK (panQ c) (nS c) (csH c) 2
def pcP(c:Cs):Nat->Prb:=pbMv (panQ c) (nS c) (csQ c)
def pcR(c:Cs):List (Nat×Rq):=[(3,.eq (blV true)),(6,.le (drsO (nD c) (csF c))),(7,.le (hosO (nS c) (csH c))),(8,.le (prsO (nS c) (csQ c))),(9,.le (inV ((panQ c).nc:Int) lim)),(10,.le (drsO (pcN c) (pcA c))),(11,.le (hosO (pcM c) (pcH c))),(12,.le (prsO ((panQ c).nc*nS c) (pcP c)))]
def pc1(c:Cs)(k:Nat):Ds:=⟨(5,.eq (ptrN 2))::(13,.le (inV (cfr c k:Int) 2000))::(86,.le (inV (nD c:Int) lim))::(87,.le (inV (k:Int) 2000))::pcR c,[none,none,some ⟨43,(panO (panQ c)).l⟩]⟩
def pc1e(c:Cs):Ds:=⟨(5,.eq (ptrN 2))::(13,.le (inV (cfr c (nD c):Int) 2000))::pcR c,[none,none,some ⟨43,(panO (panQ c)).l⟩]⟩
def KPc:List Con:=[cSanity,cMk,c37,cLists,cDrs,cHoles,cProbes,cShMv,cSameT,cVAp]
def pcF(c:Cs):List (Nat×Rq):=(13,.le (inV (cfr c (nD c):Int) 2000))::pcR c
def moLv(n:Nat)(f:Nat->Mot):V1:=⟨false,[moO n f]⟩
def pc2(c:Cs)(k:Nat):Ds:=⟨(99,.le (moLv (panQ c).nc (panQ c).c))::(100,.le (inV ((panQ c).nc:Int) lim))::(101,.le (inV (k:Int) 2000))::pcF c,[none,none,none]⟩
def pcB(c:Cs)(k:Nat):List (Option Mb):=[none,none,none,some ⟨74,moI ((panQ c).c k)⟩]
def pcK(c:Cs)(k:Nat):List (Nat×Rq):=(15,.le (inV (k:Int) 2000))::(16,.eq (ptrN 3))::(99,.le (moLv (panQ c).nc (panQ c).c))::(100,.le (inV ((panQ c).nc:Int) lim))::(101,.le (inV (k:Int) 2000))::pcF c
def pc3(c:Cs)(k i:Nat):Ds:=⟨(106,.le (drsO (nD c) (csF c)))::(107,.le (inV (nD c:Int) lim))::(108,.le (inV (i:Int) 2000))::pcK c k,pcB c k⟩
def pc3e(c:Cs)(k:Nat):Ds:=⟨pcK c k,pcB c k⟩
def pc4(c:Cs)(k i:Nat):Ds:=⟨(157,.le (hosO (nS c) (csH c)))::(158,.le (inV (nS c:Int) lim))::(159,.le (inV (i:Int) 2000))::pcK c k,pcB c k⟩
def pc5(c:Cs)(k i:Nat):Ds:=⟨(203,.le (prsO (nS c) (csQ c)))::(204,.le (inV (nS c:Int) lim))::(205,.le (inV (i:Int) 2000))::pcK c k,pcB c k⟩
def pcT(c:Cs)(k i:Nat):Int:=if i<cfr c (nD c) then (k:Int)*cfr c (nD c)+i else (panQ c).nc*cfr c (nD c)+k*((nD c:Int)-cfr c (nD c))+i-cfr c (nD c)
def pcX(c:Cs)(k i:Nat):Ds:=⟨(17,.le (inV (i:Int) 2000))::(18,.eq (ptrN 4))::(19,.le (inV (pcT c k i) 100000000))::(106,.le (drsO (nD c) (csF c)))::(107,.le (inV (nD c:Int) lim))::(108,.le (inV (i:Int) 2000))::pcK c k,pcB c k++[some ⟨72,drI (csF c i)⟩]⟩
theorem pq_n(c:Cs):1<=(panQ c).nc/\(panQ c).nc<=3:=⟨(pnN_bd c.p).1,(pnN_bd c.p).2.1⟩
theorem pq_t(c:Cs):(panQ c).nt<=2:=(pnNt_bd c.p).1
theorem pq_m(c:Cs):(panQ c).nm<=2:=(pnNm_bd c.p).1
theorem pq_c(c:Cs)(k:Nat)(hk:k<3):((panQ c).c k).x.natAbs<=30000/\((panQ c).c k).y.natAbs<=30000/\0<=((panQ c).c k).t/\((panQ c).c k).t<4:=by
 have h:=outOk c
 have t:=nV_bd c.p (1+3*k) (m:=4) (by omega)
 have d:=nV_bd c.p (1+3*k+1) (m:=4) (by omega)
 have b:=h.bx _ t.1 t.2
 have b0:=b.x0
 have b1:=b.y0
 have e0:(trn (outQ c) (nV c.p (1+3*k) 4)).n=(outQ c).n:=rfl
 rw[e0] at b0 b1
 have p:=pnX_bd h c.p k
 show (pnC (outQ c) c.p k).x.natAbs<=30000/\(pnC (outQ c) c.p k).y.natAbs<=30000/\0<=(pnC (outQ c) c.p k).t/\(pnC (outQ c) c.p k).t<4
 unfold pnC bX
 simp only
 omega
theorem pq_mv(c:Cs){s:Sh}(hs:FineS s)(k:Nat)(hk:k<(panQ c).nc):MvOk s ((panQ c).c k):=by
 have n:=pq_n c
 have b:=pq_c c k (by omega)
 have c0:30000<=c26:=by decide
 exact⟨by have:=hs.1.n0;unfold fewS at this;split at this<;>omega,by have:=hs.1.n1;omega,hs.1.ok,by omega,by omega,by omega⟩
theorem mul3{a b:Nat}(h:a<=3):a*b<=3*b:=Nat.mul_le_mul_right b h
theorem pq_rp(c:Cs){n:Nat}(hn:n<=100){S:Nat->Sh}(h:∀j,j<n->FineS (S j)):RpOk (panQ c) n S:=by
 have q:=pq_n c
 have m:=mul3 (b:=n) q.2
 exact⟨by omega,by omega,by omega,fun k j hk hj=>pq_mv c (h j hj) k hk⟩
theorem pc_dr(c:Cs):DrOk (panQ c) (nD c) (csF c):=by
 have m:=mul3 (b:=nD c) (pq_n c).2
 have:=nD_le c
 have:=pq_m c
 exact⟨pq_rp c (by omega) fun j _=>drw_fine _ _,by omega⟩
theorem pc_ho(c:Cs):HoOk (panQ c) (nS c) (csH c):=by
 have m:=mul3 (b:=nS c) (pq_n c).2
 have:=nS_le c
 have:=pq_t c
 exact⟨pq_rp c (by omega) fun j _=>made_fine _,by omega,fun i hi=>⟨show 1<=1 by decide,show 1<=1000 by decide⟩⟩
theorem pc_mo(c:Cs)(k j:Nat)(hk:k<(panQ c).nc):moOk ((panQ c).c k) ((csQ c j).x,(csQ c j).y):=by
 have n:=pq_n c
 have b:=pq_c c k (by omega)
 have f:=made_fine (c.s j)
 have h0:=(madeS_pos (c.s j)).1
 have e:=f.2.1 0 h0
 unfold EdSm Sm3 at e
 have c0:30000<=c40:=by decide
 refine⟨⟨⟨by omega,by omega⟩,by omega⟩,?_,?_⟩
 ·show ((madeS (c.s j)).e 0).ax.natAbs <= c40
  omega
 ·show ((madeS (c.s j)).e 0).ay.natAbs <= c40
  omega
theorem pc_pb(c:Cs):PbOk (panQ c) (nS c) (csQ c):=by
 have m:=mul3 (b:=nS c) (pq_n c).2
 have:=pq_n c
 have:=nS_le c
 exact⟨by omega,by omega,by omega,fun k j hk _=>pc_mo c k j hk⟩
def idN(nc f n k i:Nat):Nat:=if i<f then k*f+i else nc*f+(k*(n-f)+(i-f))
theorem pcT_eq(c:Cs)(k i:Nat)(hi:i<nD c):pcT c k i=(idN (panQ c).nc (cfr c (nD c)) (nD c) k i:Nat):=by
 have hf:cfr c (nD c)<=nD c:=frF_le _ _
 unfold pcT idN
 split
 ·simp
 ·have : ((nD c : Int) - cfr c (nD c)) = ((nD c - cfr c (nD c) : Nat) : Int) := by omega
  rw[this]
  simp only[Int.natCast_add,Int.natCast_mul]
  have e:((i-cfr c (nD c):Nat):Int)=(i:Int)-cfr c (nD c):=by omega
  rw[e]
  omega
theorem idN_lt{nc f n k i:Nat}(hk:k<nc)(hf:f<=n)(hi:i<n):idN nc f n k i<nc*f+nc*(n-f):=by
 unfold idN
 split
 ·have := Nat.mul_le_mul_right f (show k + 1 <= nc from hk)
  rw[Nat.succ_mul] at this
  omega
 ·have := Nat.mul_le_mul_right (n - f) (show k + 1 <= nc from hk)
  rw[Nat.succ_mul] at this
  omega
theorem drK_id{p:Pnl}{n:Nat}{F:Nat->Drw}{k i:Nat}(hk:k<p.nc)(hi:i<n):drK p n F (idN p.nc (frF F n) n k i)=⟨mvS (p.c k) (F i).s,(F i).c⟩:=by
 have hf:=frF_le F n
 unfold drK
 rw[if_pos (show idN p.nc (frF F n) n k i<drN p n F from idN_lt hk hf hi)]
 unfold drB idN
 by_cases h:i<frF F n
 ·have := Nat.mul_le_mul_right (frF F n) (show k + 1 <= p.nc from hk)
  rw[Nat.succ_mul] at this
  rw[if_pos h,if_pos (by omega)]
  obtain⟨e1,e2⟩:=dvm (k:=k) h
  unfold drMv
  rw[e1,e2]
 ·rw [if_neg h, if_neg (by omega), Nat.add_sub_cancel_left]
  obtain⟨e1,e2⟩:=dvm (k:=k) (show i-frF F n<n-frF F n by omega)
  unfold drMv
  rw[e1,e2]
  simp only
  rw[show frF F n+(i-frF F n)=i by omega]
theorem pcA_at(c:Cs)(k i:Nat)(hk:k<(panQ c).nc)(hi:i<nD c):pcA c (pcT c k i).toNat=⟨mvS ((panQ c).c k) (csF c i).s,(csF c i).c⟩:=by
 rw[pcT_eq c k i hi]
 exact drK_id hk hi
theorem pcT_bd(c:Cs)(k i:Nat)(hk:k<(panQ c).nc)(hi:i<nD c):0<=pcT c k i/\pcT c k i<(pcN c:Int):=by
 rw[pcT_eq c k i hi]
 have h:=idN_lt (f:=cfr c (nD c)) hk (frF_le _ _) hi
 have e:pcN c=(panQ c).nc*cfr c (nD c)+(panQ c).nc*(nD c-cfr c (nD c))+(panQ c).nm:=rfl
 omega
theorem pcM_at(c:Cs)(k i:Nat)(hk:k<(panQ c).nc)(hi:i<nS c):pcH c (k*nS c+i)=⟨mvS ((panQ c).c k) (csH c i).s,(csH c i).f,(csH c i).t,(csH c i).p⟩:=by
 have:=Nat.mul_le_mul_right (nS c) (show k+1<=(panQ c).nc from hk)
 rw[Nat.succ_mul] at this
 unfold pcH hoK
 rw[if_pos (by omega)]
 obtain⟨e1,e2⟩:=dvm (k:=k) hi
 unfold hoMv
 rw[e1,e2]
theorem pcP_at(c:Cs)(k i:Nat)(hi:i<nS c):pcP c (k*nS c+i)=⟨k,(csQ c i).a,(csQ c i).b,(mvP ((panQ c).c k) ((csQ c i).x,(csQ c i).y)).1,(mvP ((panQ c).c k) ((csQ c i).x,(csQ c i).y)).2,(csQ c i).l⟩:=by
 obtain⟨e1,e2⟩:=dvm (k:=k) hi
 unfold pcP pbMv
 rw[e1,e2]

set_option maxRecDepth 100000
section
def qB(c:Cs):List Pf:=[pR (blV true),qL drI (csF c) (nD c) (nD c) rfl,qL hoI (csH c) (nS c) (nS c) rfl,qL prbI (csQ c) (nS c) (nS c) rfl,qZ (panQ c).nc,qL drI (pcA c) (pcN c) (pcN c) rfl,qL hoI (pcH c) (pcM c) (pcM c) rfl,qL prbI (pcP c) ((panQ c).nc*nS c) ((panQ c).nc*nS c) rfl]
def qPn(p:Pnl):List Pf:=[qL moI p.c p.nc p.nc rfl,qL shIs p.t p.nt p.nt rfl,qL ptI p.m p.nm p.nm rfl,qZ p.r]
def qFc(c:Cs)(k:Nat)(z:Int)(h:z=cfr c (k+1))(hb:k<1000):Pf:=qFr (csF c) k z h hb
theorem pc1_o(c:Cs):OrcOk Tryz.prog (lpC fPC 22) ⟨nF fPC,pc1 c 0,.ex 0,pc1e c⟩ :=
 orc (X:=[]) (K:=KPc) (f:=fPC) (id:=22) (n:=nF fPC) (nD c) (pc1 c) (fun _=>[]) (e:=.ex 0) (d1:=pc1e c) (by kernel_rfl) (fun _=>by kernel_rfl) (fun _ _=>LT.nil)
  (fun k hk => by
   have h9:=nD_le c
   have ih:0<=(k:Int)/\(k:Int)<(nD c:Int):=by omega
   cases h:(csF c k).c with
   | true=>exact⟨[true,true],[pT (ltT (show (k:Int)<(nD c:Int) by omega)),pP ih,pT h,pR (ptrN 2),qFc c k ((k:Int)+1) (by unfold cfr frF;rw[h];rfl) (by omega),qZ (nD c),pI k (by omega)]++qB c++qPn (panQ c),by kernel_rfl⟩
   | false=>exact⟨[true,false],[pT (ltT (show (k:Int)<(nD c:Int) by omega)),pP ih,pF h,pR (ptrN 2),⟨(cfr c k:Int)=cfr c (k+1),by simp[cfr,frF,h]⟩,qZ (nD c),pI k (by omega)]++qB c++qPn (panQ c),by kernel_rfl⟩)
  ⟨[false],[pF (ltF (show ¬(nD c:Int)<(nD c:Int) by omega)),pR (ptrN 2),qZ (cfr c (nD c))]++qB c++qPn (panQ c),by kernel_rfl⟩ nofun
theorem csF_n(c:Cs)(i:Nat):(csF c i).s.n<=1000:=by
 have:=(drw_fine (c.d i) i).1.n1
 show (drwQ (c.d i) i).s.n<=1000
 omega
theorem pc_same(c:Cs)(k i:Nat)(hk:k<(panQ c).nc)(hi:i<nD c):(pcA c (pcT c k i).toNat).s=mvS ((panQ c).c k) (csF c i).s/\(pcA c (pcT c k i).toNat).s.n<=1000:=by
 rw[pcA_at c k i hk hi]
 exact⟨rfl,csF_n c i⟩
theorem pc_25(c:Cs)(k i:Nat)(hk:k<(panQ c).nc)(hi:i<nD c):OrcOk Tryz.prog (lpC fPC 51) ⟨nF fPC,pcX c k i,.nm,⟨(155,.eq (blV false))::(pcX c k i).l,(pcX c k i).m⟩⟩ :=
 orc_reb (X:=[]) (K:=KPc) (by kernel_rfl) (by kernel_rfl) [false]
  [pP (pcT_bd c k i hk hi),pF (show (!(pcA c (pcT c k i).toNat).c==(csF c i).c)=false by rw[pcA_at c k i hk hi];simp),pP (pcT_bd c k i hk hi),pP (pq_mv c (drw_fine (c.d i) i) k hk),pEd (csF c i).s,pP (pc_same c k i hk hi),pEd (pcA c (pcT c k i).toNat).s,pEd (mvS ((panQ c).c k) (csF c i).s),⟨(⟨false,[.v (.bool (!true))]⟩:V1)=blV false,rfl⟩] (by kernel_rfl)
def qK(c:Cs)(k:Nat):List Pf:=[qZ k,pR (ptrN 3),qL moI (panQ c).c (panQ c).nc (panQ c).nc rfl,qZ (panQ c).nc,qZ k,qZ (cfr c (nD c))]++qB c
def qMo(m:Mot):List Pf:=[qZ m.x,qZ m.y,qZ m.t,qIt (.v (.bool m.m))]
def qDw(d:Drw):List Pf:=[qZ d.s.k,qIt (edD d.s.n d.s.e),qZ d.s.r,qIt (.v (.bool d.c))]
theorem wrM{z:Int}(h:z.natAbs<=1000000):IntKind.i64.wrap z=z:=wrap_in (by unfold I64;omega)
theorem mulB{a b A B:Nat}(ha:a<=A)(hb:b<=B):(a:Int)*(b:Int)=((a*b:Nat):Int)/\a*b<=A*B:=⟨by simp,Nat.mul_le_mul ha hb⟩
def zT(c:Cs)(k i:Nat):Int:=IntKind.i64.wrap (IntKind.i64.wrap (IntKind.i64.wrap (IntKind.i64.wrap (((panQ c).nc:Int)*(cfr c (nD c):Int))+IntKind.i64.wrap ((k:Int)*IntKind.i64.wrap ((nD c:Int)-(cfr c (nD c):Int))))+(i:Int))-(cfr c (nD c):Int))
theorem zT_eq(c:Cs)(k i:Nat)(hk:k<(panQ c).nc)(hi:i<nD c)(h:¬i<cfr c (nD c)):zT c k i=pcT c k i/\(zT c k i).natAbs<=100000000:=by
 have n3:=(pq_n c).2
 have n9:=nD_le c
 have hf:cfr c (nD c)<=nD c:=frF_le _ _
 obtain⟨e1,b1⟩:=mulB (a:=(panQ c).nc) (b:=cfr c (nD c)) n3 (show _<=9 by omega)
 obtain⟨e2,b2⟩:=mulB (a:=k) (b:=nD c-cfr c (nD c)) (show _<=3 by omega) (show _<=9 by omega)
 have e3:((nD c:Int)-cfr c (nD c))=((nD c-cfr c (nD c):Nat):Int):=by omega
 have key:zT c k i=pcT c k i:=by
  unfold zT pcT
  rw[if_neg h,e3,wrM (z:=((nD c-cfr c (nD c):Nat):Int)) (by omega),e1,e2,wrM (z:=(((panQ c).nc*cfr c (nD c):Nat):Int)) (by omega),wrM (z:=((k*(nD c-cfr c (nD c)):Nat):Int)) (by omega)]
  generalize (panQ c).nc*cfr c (nD c)=A at *
  generalize k*(nD c-cfr c (nD c))=B at *
  rw[wrM (z:=(A:Int)+(B:Int)) (by omega),wrM (z:=(A:Int)+(B:Int)+(i:Int)) (by omega),wrM (by omega)]
 refine⟨key,?_⟩
 rw[key]
 unfold pcT
 rw[if_neg h,e3,e1,e2]
 omega
noncomputable def pcS(c:Cs)(k i:Nat):Orc:=⟨nF fPC,pcX c k i,.nm,⟨(155,.eq (blV false))::(pcX c k i).l,(pcX c k i).m⟩⟩
noncomputable def pcT3(c:Cs)(k i:Nat):List (Nat×Orc):=if i<nD c then [(51,pcS c k i)] else []
def qXl(c:Cs)(k i:Nat):List Pf:=[qL drI (csF c) (nD c) (nD c) rfl,qZ (nD c),qZ i]++qK c k++qMo ((panQ c).c k)++qDw (csF c i)
def q3e(c:Cs)(k i:Nat)(hi:i<100):List Pf:=[⟨false=false,rfl⟩,qL drI (csF c) (nD c) (nD c) rfl,qZ (nD c),pI i (by omega)]++qK c k++qMo ((panQ c).c k)
theorem pc3_o(c:Cs)(k:Nat)(hk:k<(panQ c).nc):OrcOk Tryz.prog (lpC fPC 40) ⟨nF fPC,pc3 c k 0,.ex 4,pc3e c k⟩ :=
 orc (X:=[]) (K:=KPc) (f:=fPC) (id:=40) (n:=nF fPC) (nD c) (pc3 c k) (fun i=>pcT3 c k i) (e:=.ex 4) (d1:=pc3e c k) (by kernel_rfl) (fun i=>by unfold pcT3;by_cases h:i<nD c<;>simp only[h,if_true,if_false]<;>kernel_rfl) (fun i _=>by
   unfold pcT3
   by_cases hi:i<nD c
   ·rw[if_pos hi];exact LT.cons (pc_25 c k i hk hi) LT.nil
   ·rw[if_neg hi];exact LT.nil)
  (fun i hi => by
   unfold pcT3
   rw[if_pos hi]
   have n9:=nD_le c
   have ih:0<=(i:Int)/\(i:Int)<(nD c:Int):=by omega
   by_cases h:i<cfr c (nD c)
   ·exact⟨[true,false,false],[pT (ltT (show (i:Int)<(nD c:Int) by omega)),pP ih,pF (show decide ((i:Int) >= (cfr c (nD c):Int))=false by simpa using h),qZ i,pR (ptrN 4),⟨(k:Int)*(cfr c (nD c):Int)+(i:Int)=pcT c k i,by unfold pcT;rw[if_pos h]⟩]++qXl c k i++q3e c k i (by omega),by kernel_rfl⟩
   ·exact⟨[true,true,false],[pT (ltT (show (i:Int)<(nD c:Int) by omega)),pP ih,pT (show decide ((i:Int) >= (cfr c (nD c):Int))=true by simp;omega),qZ i,pR (ptrN 4),⟨zT c k i=pcT c k i/\(zT c k i).natAbs<=100000000,zT_eq c k i hk hi h⟩]++qXl c k i++q3e c k i (by omega),by kernel_rfl⟩)
  (by
   unfold pcT3
   rw[if_neg (Nat.lt_irrefl _)]
   exact⟨[false],[pF (ltF (show ¬(nD c:Int)<(nD c:Int) by omega))]++qK c k++qMo ((panQ c).c k),by kernel_rfl⟩) nofun
def zH(c:Cs)(k i:Nat):Int:=IntKind.i64.wrap (IntKind.i64.wrap ((k:Int)*(nS c:Int))+(i:Int))
theorem zH_eq(c:Cs)(k i:Nat)(hk:k<(panQ c).nc)(hi:i<nS c):zH c k i=((k*nS c+i:Nat):Int):=by
 have n3:=(pq_n c).2
 have n5:=nS_le c
 obtain⟨e1,b1⟩:=mulB (a:=k) (b:=nS c) (show _<=3 by omega) n5
 unfold zH
 rw[e1,wrM (z:=((k*nS c:Nat):Int)) (by omega),wrM (by omega)]
 simp
theorem zM_at(c:Cs)(k i:Nat)(hk:k<(panQ c).nc)(hi:i<nS c):pcH c (zH c k i).toNat=⟨mvS ((panQ c).c k) (csH c i).s,(csH c i).f,(csH c i).t,(csH c i).p⟩:=by
 rw[zH_eq c k i hk hi,Int.toNat_natCast]
 exact pcM_at c k i hk hi
theorem zP_at(c:Cs)(k i:Nat)(hk:k<(panQ c).nc)(hi:i<nS c):pcP c (zH c k i).toNat=⟨k,(csQ c i).a,(csQ c i).b,(mvP ((panQ c).c k) ((csQ c i).x,(csQ c i).y)).1,(mvP ((panQ c).c k) ((csQ c i).x,(csQ c i).y)).2,(csQ c i).l⟩:=by
 rw[zH_eq c k i hk hi,Int.toNat_natCast]
 exact pcP_at c k i hi
theorem zH_bd(c:Cs)(k i:Nat)(hk:k<(panQ c).nc)(hi:i<nS c):0<=zH c k i/\zH c k i<(((panQ c).nc*nS c:Nat):Int)/\zH c k i<(pcM c:Int):=by
 have:=Nat.mul_le_mul_right (nS c) (show k+1<=(panQ c).nc from hk)
 rw[Nat.succ_mul] at this
 rw[zH_eq c k i hk hi]
 unfold pcM
 omega
theorem csH_n(c:Cs)(i:Nat):(csH c i).s.n<=1000:=by
 have:=(made_fine (c.s i)).1.n1
 show (madeS (c.s i)).n<=1000
 omega
theorem pc_sameH(c:Cs)(k i:Nat)(hk:k<(panQ c).nc)(hi:i<nS c):(pcH c (zH c k i).toNat).s=mvS ((panQ c).c k) (csH c i).s/\(pcH c (zH c k i).toNat).s.n<=1000:=by
 rw[zM_at c k i hk hi]
 exact⟨rfl,csH_n c i⟩
theorem pc4_o(c:Cs)(k:Nat)(hk:k<(panQ c).nc):OrcOk Tryz.prog (lpC fPC 58) ⟨nF fPC,pc4 c k 0,.ex 6,pc3e c k⟩ :=
 orc (X:=[]) (K:=KPc) (f:=fPC) (id:=58) (n:=nF fPC) (nS c) (pc4 c k) (fun _=>[]) (e:=.ex 6) (d1:=pc3e c k) (by kernel_rfl) (fun _=>by kernel_rfl) (fun _ _=>LT.nil)
  (fun i hi => by
   have n5:=nS_le c
   have e:=zM_at c k i hk hi
   have b:=zH_bd c k i hk hi
   exact⟨[true,false,false,false,false],[pT (ltT (show (i:Int)<(nS c:Int) by omega)),pP (show 0<=(i:Int)/\(i:Int)<(nS c:Int) by omega),pP (show 0<=zH c k i/\zH c k i<(pcM c:Int) from⟨b.1,b.2.2⟩),pF (neF (show (pcH c (zH c k i).toNat).f=(csH c i).f by rw[e])),pF (neF (show (pcH c (zH c k i).toNat).t=(csH c i).t by rw[e])),pF (show (!(pcH c (zH c k i).toNat).p==(csH c i).p)=false by rw[e];simp),pP (pq_mv c (made_fine (c.s i)) k hk),pEd (csH c i).s,pP (pc_sameH c k i hk hi),pEd (pcH c (zH c k i).toNat).s,pEd (mvS ((panQ c).c k) (csH c i).s),pF (show (!true)=false from rfl),qL hoI (csH c) (nS c) (nS c) rfl,qZ (nS c),pI i (by omega)]++qK c k++qMo ((panQ c).c k),by kernel_rfl⟩)
  ⟨[false],[pF (ltF (show ¬(nS c:Int)<(nS c:Int) by omega))]++qK c k++qMo ((panQ c).c k),by kernel_rfl⟩ nofun
theorem eqZ2(a b:ByteArray):eqZ [.s a,.s b] [.s a,.s b]=true:=by simp[eqZ,eqS,ba_rfl]
theorem eqZi(a b:Int):eqZ [.i a,.i b] [.i a,.i b]=true:=by simp[eqZ,eqS]
theorem pc5_o(c:Cs)(k:Nat)(hk:k<(panQ c).nc):OrcOk Tryz.prog (lpC fPC 72) ⟨nF fPC,pc5 c k 0,.ex 8,pc3e c k⟩ :=
 orc (X:=[]) (K:=KPc) (f:=fPC) (id:=72) (n:=nF fPC) (nS c) (pc5 c k) (fun _=>[]) (e:=.ex 8) (d1:=pc3e c k) (by kernel_rfl) (fun _=>by kernel_rfl) (fun _ _=>LT.nil)
  (fun i hi => by
   have n5:=nS_le c
   have e:=zP_at c k i hk hi
   have b:=zH_bd c k i hk hi
   exact⟨[true,false,false,false,false],[pT (ltT (show (i:Int)<(nS c:Int) by omega)),pP (show 0<=(i:Int)/\(i:Int)<(nS c:Int) by omega),pP (show 0<=zH c k i/\zH c k i<(((panQ c).nc*nS c:Nat):Int) from⟨b.1,b.2.1⟩),pF (neF (show (pcP c (zH c k i).toNat).c=(k:Int) by rw[e])),
    pF (show (!eqZ [.s (pcP c (zH c k i).toNat).a,.s (pcP c (zH c k i).toNat).b] [.s (csQ c i).a,.s (csQ c i).b])=false by rw[e,eqZ2];rfl),pF (neF (show (pcP c (zH c k i).toNat).l=(csQ c i).l by rw[e])),pP (pc_mo c k i hk),
    pF (show (!eqZ [.i (pcP c (zH c k i).toNat).x,.i (pcP c (zH c k i).toNat).y] [.i (mvP ((panQ c).c k) ((csQ c i).x,(csQ c i).y)).1,.i (mvP ((panQ c).c k) ((csQ c i).x,(csQ c i).y)).2])=false by rw[e,eqZi];rfl),qL prbI (csQ c) (nS c) (nS c) rfl,qZ (nS c),pI i (by omega)]++qK c k++qMo ((panQ c).c k),by kernel_rfl⟩)
  ⟨[false],[pF (ltF (show ¬(nS c:Int)<(nS c:Int) by omega))]++qK c k++qMo ((panQ c).c k),by kernel_rfl⟩ nofun
noncomputable def pcT2(c:Cs)(k:Nat):List (Nat×Orc):=if k<(panQ c).nc then [(40,⟨nF fPC,pc3 c k 0,.ex 4,pc3e c k⟩),(58,⟨nF fPC,pc4 c k 0,.ex 6,pc3e c k⟩),(72,⟨nF fPC,pc5 c k 0,.ex 8,pc3e c k⟩)] else []
def pc2e(c:Cs):Ds:=⟨[(3,.eq (blV true))],[]⟩
def qFr2(c:Cs):List Pf:=[qZ (cfr c (nD c))]++qB c
theorem pc2_o(c:Cs):OrcOk Tryz.prog (lpC fPC 34) ⟨nF fPC,pc2 c 0,.ex 2,pc2e c⟩ :=
 orc (X:=[]) (K:=KPc) (f:=fPC) (id:=34) (n:=nF fPC) (panQ c).nc (pc2 c) (fun k=>pcT2 c k) (e:=.ex 2) (d1:=pc2e c) (by kernel_rfl) (fun k=>by unfold pcT2;by_cases h:k<(panQ c).nc<;>simp only[h,if_true,if_false]<;>kernel_rfl) (fun k _=>by
   unfold pcT2
   by_cases hk:k<(panQ c).nc
   ·rw[if_pos hk];exact LT.cons (pc3_o c k hk) (LT.cons (pc4_o c k hk) (LT.cons (pc5_o c k hk) LT.nil))
   ·rw[if_neg hk];exact LT.nil)
  (fun k hk => by
   unfold pcT2
   rw[if_pos hk]
   have n3:=(pq_n c).2
   exact⟨[true],[pT (ltT (show (k:Int)<((panQ c).nc:Int) by omega)),pP (show 0<=(k:Int)/\(k:Int)<((panQ c).nc:Int) by omega),qL drI (csF c) (nD c) (nD c) rfl,qZ (nD c),q0]++qK c k++qMo ((panQ c).c k)++[qL hoI (csH c) (nS c) (nS c) rfl,qZ (nS c),q0]++qK c k++qMo ((panQ c).c k)++[qL prbI (csQ c) (nS c) (nS c) rfl,qZ (nS c),q0]++qK c k++qMo ((panQ c).c k)++[qL moI (panQ c).c (panQ c).nc (panQ c).nc rfl,qZ (panQ c).nc,pI k (by omega)]++qFr2 c,by kernel_rfl⟩)
  (by
   unfold pcT2
   rw[if_neg (Nat.lt_irrefl _)]
   exact⟨[false],[pF (ltF (show ¬((panQ c).nc:Int)<((panQ c).nc:Int) by omega)),pR (blV true)],by kernel_rfl⟩) nofun
end

set_option maxRecDepth 100000
section
theorem pc_l1(c:Cs):(pcN c:Int)=IntKind.i64.wrap (IntKind.i64.wrap (((panQ c).nc:Int)*(nD c:Int))+((panQ c).nm:Int)):=by
 have n3:=(pq_n c).2
 have n9:=nD_le c
 have m2:=pq_m c
 obtain⟨e1,b1⟩:=mulB (a:=(panQ c).nc) (b:=nD c) n3 n9
 have e:=drN_eq (panQ c) (nD c) (csF c)
 rw[e1,wrM (z:=(((panQ c).nc*nD c:Nat):Int)) (by omega),wrM (by omega)]
 unfold pcN
 rw[e]
 simp
theorem pc_l2(c:Cs):(pcM c:Int)=IntKind.i64.wrap (IntKind.i64.wrap (((panQ c).nc:Int)*(nS c:Int))+((panQ c).nt:Int)):=by
 have n3:=(pq_n c).2
 have n5:=nS_le c
 have m2:=pq_t c
 obtain⟨e1,b1⟩:=mulB (a:=(panQ c).nc) (b:=nS c) n3 n5
 rw[e1,wrM (z:=(((panQ c).nc*nS c:Nat):Int)) (by omega),wrM (by omega)]
 unfold pcM
 simp
theorem pc_l3(c:Cs):(((panQ c).nc*nS c:Nat):Int)=IntKind.i64.wrap (((panQ c).nc:Int)*(nS c:Int)):=by
 have n3:=(pq_n c).2
 have n5:=nS_le c
 obtain⟨e1,b1⟩:=mulB (a:=(panQ c).nc) (b:=nS c) n3 n5
 rw[e1,wrM (by omega)]
def pcPf(c:Cs):List Pf:=[qDs c.nd c.d,qDs c.ns c.s,qDs c.nd c.d,qDs c.nd c.d,qDs c.ns c.s,pP (pc_dr c)]++qPO (panQ c)++[qDO (nD c) (csF c),pP (pc_ho c)]++qPO (panQ c)++[qRr hoI (nS c) (csH c),pP (pc_pb c)]++qPO (panQ c)++[qRr prbI (nS c) (csQ c),pF (neF (pc_l1 c)),pF (neF (pc_l2 c)),pF (neF (pc_l3 c)),pR (ptrN 2),⟨(0:Int)=(cfr c 0:Int),rfl⟩,qZ (nD c),q0]++qB c++qPn (panQ c)++[qL moI (panQ c).c (panQ c).nc (panQ c).nc rfl,qZ (panQ c).nc,q0]++qFr2 c
theorem pc_ok(c:Cs):Fok Tryz.prog fPC [csV c] (.one (blV true)) :=
 fokL [] KPc [(22,⟨nF fPC,pc1 c 0,.ex 0,pc1e c⟩),(34,⟨nF fPC,pc2 c 0,.ex 2,pc2e c⟩)] (LT.cons (pc1_o c) (LT.cons (pc2_o c) LT.nil)) [false,false,false] (pcPf c) (by kernel_rfl)
end
end Go.Proofs.YtghemgdfmldoeaaGreat
