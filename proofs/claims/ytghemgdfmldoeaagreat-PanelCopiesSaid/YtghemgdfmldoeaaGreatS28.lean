import Derived.Test.YtghemgdfmldoeaaGreatS27
set_option linter.unusedVariables false
set_option linter.unusedSimpArgs false

namespace Go.Proofs.YtghemgdfmldoeaaGreat
open Go.RowKit

set_option maxHeartbeats 1000000
set_option maxRecDepth 100000
section
def toRt:List It->Option (Rt×List It)
 | a::s::.d (.num n)::.d (.num d)::l=>match asI a,asI s with|some (a,_),some (s,_)=>some (⟨a,s,n,d⟩,l)|_,_=>none
 | _=>none
theorem asI_F{V:World}{i:It}{z:Int}{B:Nat}{cs:List Value}(h:asI i=some (z,B))(hr:Rep0 V i cs):cs=[.int .i64 z]/\I64 z:=by
 unfold asI at h
 split at h<;>cases h
 ·exact⟨hr.1,hr.2.2⟩
 ·exact hr
theorem toRt_rep{V:World}{l m:List It}{a:Rt}{cs:List Value}(h:toRt l=some (a,m))(hr:RepF V l cs):∃n p k c b q j d r,cs=.int .i64 a.add::.int .i64 a.s::.bool n::.slice p k c::.bool b::.slice q j d::r/\NR V n p k c a.n/\NR V b q j d a.d/\(I64 a.add/\I64 a.s)/\RepF V m r:=by
 unfold toRt at h
 split at h
 ·split at h
  ·cases h
   rename_i h1 h2
   obtain⟨c1,d1,rfl,r1,c2,d2,rfl,r2,c3,d3,rfl,⟨n,p,k,c,rfl,h3⟩,c4,d4,rfl,⟨b,q,j,d,rfl,h4⟩,r5⟩:=hr
   obtain⟨rfl,i1⟩:=asI_F h1 r1
   obtain⟨rfl,i2⟩:=asI_F h2 r2
   exact⟨n,p,k,c,b,q,j,d,d4,rfl,h3,h4,⟨i1,i2⟩,r5⟩
  ·cases h
 ·cases h
def intsN:Nat->List It->Option (List Int×List It)
 | 0,l=>some ([],l)
 | _+1,[]=>none
 | n+1,i::l=>match asI i,intsN n l with|some (z,_),some (r,m)=>some (z::r,m)|_,_=>none
theorem intsN_rep{V:World}:∀ {n:Nat} {l m:List It} {zs:List Int} {cs:List Value},intsN n l=some (zs,m)->RepF V l cs->zs.length=n/\(∀z∈zs,I64 z)/\∃r,cs=zs.map (Value.int .i64)++r/\RepF V m r
 | 0,_,_,_,cs,h,hr=>by unfold intsN at h;cases h;exact⟨rfl,nofun,cs,rfl,hr⟩
 | n+1,[],_,_,_,h,_=>by unfold intsN at h;cases h
 | n+1,i::l,m,zs,cs,h,⟨c,d,e,h1,h2⟩=>by
  unfold intsN at h
  split at h
  ·rename_i z _ r m' hz hr
   cases h
   obtain⟨k1,k2,q,k3,k4⟩:=intsN_rep hr h2
   obtain⟨rfl,hi⟩:=asI_F hz h1
   refine⟨by simp[k1],fun x hx=>?_,q,by rw[e,k3];rfl,k4⟩
   rcases List.mem_cons.1 hx with rfl|hx
   ·exact hi
   ·exact k2 x hx
  ·cases h
def Sp.of:List Int->Sp
 | [x,y,dx,dy,p,q,len]=>⟨x,y,dx,dy,p,q,len⟩
 | _=>Sp.no
def toPr(l:List It):Option (Pr×List It) :=
 match toRt l with
 | some (d,l)=>(match intsN 7 l with
  | some (a,l)=>(match intsN 7 l with
   | some (b,l)=>some (⟨d,Sp.of a,Sp.of b⟩,l)
   | none=>none)
  | none=>none)
 | none=>none
def toPrs:Nat->List It->Option (List Pr)
 | 0,_=>some []
 | n+1,l=>match toPr l with
  | some (x,l)=>(match toPrs n l with|some r=>some (x::r)|none=>none)
  | none=>none
def Sp.i64(s:Sp):Prop:=I64 s.x/\I64 s.y/\I64 s.dx/\I64 s.dy/\I64 s.p/\I64 s.q/\I64 s.len
def Pr.i64(x:Pr):Prop:=(I64 x.d.add/\I64 x.d.s)/\x.a.i64/\x.b.i64
theorem seven{zs:List Int}(h:zs.length=7):∃a b c d e f g,zs=[a,b,c,d,e,f,g]:=by
 match zs,h with
 | [a,b,c,d,e,f,g],_=>exact⟨a,b,c,d,e,f,g,rfl⟩
theorem sp_of{zs:List Int}(h:zs.length=7)(hi:∀z∈zs,I64 z):(Sp.of zs).i64/\zs=[(Sp.of zs).x,(Sp.of zs).y,(Sp.of zs).dx,(Sp.of zs).dy,(Sp.of zs).p,(Sp.of zs).q,(Sp.of zs).len]:=by
 obtain⟨a,b,c,d,e,f,g,rfl⟩:=seven h
 exact⟨⟨hi a (by simp),hi b (by simp),hi c (by simp),hi d (by simp),hi e (by simp),hi f (by simp),hi g (by simp)⟩,rfl⟩
def prV(e:Pr)(n:Bool)(p:Option Addr)(l c:Nat)(m:Bool)(q:Option Addr)(k d:Nat):List Value :=
 [.int .i64 e.d.add,.int .i64 e.d.s,.bool n,.slice p l c,.bool m,.slice q k d,.int .i64 e.a.x,.int .i64 e.a.y,.int .i64 e.a.dx,.int .i64 e.a.dy,.int .i64 e.a.p,.int .i64 e.a.q,.int .i64 e.a.len,
  .int .i64 e.b.x,.int .i64 e.b.y,.int .i64 e.b.dx,.int .i64 e.b.dy,.int .i64 e.b.p,.int .i64 e.b.q,.int .i64 e.b.len]
theorem toPr_rep{V:World}{l m:List It}{x:Pr}{cs:List Value}(hx:toPr l=some (x,m))(hr:RepF V l cs):∃n p k c b q j d r,cs=prV x n p k c b q j d++r/\NR V n p k c x.d.n/\NR V b q j d x.d.d/\x.i64/\RepF V m r:=by
 unfold toPr at hx
 split at hx<;>(try (cases hx;done))
 rename_i d l1 h1
 split at hx<;>(try (cases hx;done))
 rename_i a l2 h2
 split at hx<;>(try (cases hx;done))
 rename_i b l3 h3
 cases hx
 obtain⟨n1,p1,k1,c1,m1,q1,j1,d1,r1,e1,nr1,nr2,i1,rf1⟩:=toRt_rep h1 hr
 obtain⟨la,ia,r2,e2,rf2⟩:=intsN_rep h2 rf1
 obtain⟨lb,ib,r3,e3,rf3⟩:=intsN_rep h3 rf2
 refine⟨n1,p1,k1,c1,m1,q1,j1,d1,r3,?_,nr1,nr2,⟨i1,(sp_of la ia).1,(sp_of lb ib).1⟩,rf3⟩
 obtain⟨a0,a1,a2,a3,a4,a5,a6,rfl⟩:=seven la
 obtain⟨b0,b1,b2,b3,b4,b5,b6,rfl⟩:=seven lb
 rw[e1,e2,e3]
 rfl
def prL(x:Pr):List It:=(rtV x.d).l++((spV x.a).l++(spV x.b).l)
theorem rf_i{V:World}{z:Int}{l:List It}{cs:List Value}(h:I64 z)(h2:RepF V l cs):RepF V (.i z lim::l) (.int .i64 z::cs):=⟨[_],cs,rfl,⟨rfl,lim64 h⟩,h2⟩
theorem rf_n{V:World}{x:Nm}{n:Bool}{p:Option Addr}{k c:Nat}{l:List It}{cs:List Value}(h:NR V n p k c x)(h2:RepF V l cs):RepF V (.d (.num x)::l) (.bool n::.slice p k c::cs):=⟨[_,_],cs,rfl,⟨n,p,k,c,rfl,h⟩,h2⟩
theorem pr_low{V:World}{x:Pr}{n b:Bool}{p q:Option Addr}{k c j d:Nat}{m:List It}{cs:List Value}(hi:x.i64)(h1:NR V n p k c x.d.n)(h2:NR V b q j d x.d.d)(h:RepF V m cs):RepF V (prL x++m) (prV x n p k c b q j d++cs):=by
 obtain⟨⟨i1,i2⟩,⟨a1,a2,a3,a4,a5,a6,a7⟩,⟨b1,b2,b3,b4,b5,b6,b7⟩⟩:=hi
 exact rf_i i1 (rf_i i2 (rf_n h1 (rf_n h2 (rf_i a1 (rf_i a2 (rf_i a3 (rf_i a4 (rf_i a5 (rf_i a6 (rf_i a7 (rf_i b1 (rf_i b2 (rf_i b3 (rf_i b4 (rf_i b5 (rf_i b6 (rf_i b7 h)))))))))))))))))
theorem toPrs_low{V:World}:∀ {n:Nat} {l:List It} {L:List Pr} {cs:List Value},toPrs n l=some L->RepF V l cs->cs.length=n*20->L.length=n/\RepF V (L.map prL).flatten cs
 | 0,l,L,cs,h,_,hl=>by
  unfold toPrs at h
  cases h
  have:cs=[]:=List.eq_nil_of_length_eq_zero (by simpa using hl)
  subst this
  exact⟨rfl,rfl⟩
 | n+1,l,L,cs,h,hr,hl=>by
  unfold toPrs at h
  split at h<;>(try (cases h;done))
  rename_i x l' hx
  split at h<;>(try (cases h;done))
  rename_i r hr'
  cases h
  obtain⟨n1,p1,k1,c1,m1,q1,j1,d1,r3,e1,nr1,nr2,i1,rf⟩:=toPr_rep hx hr
  have hl3:r3.length=n*20:=by
   rw[e1,List.length_append] at hl
   have:(prV x n1 p1 k1 c1 m1 q1 j1 d1).length=20:=rfl
   omega
  obtain⟨z1,z2⟩:=toPrs_low hr' rf hl3
  refine⟨by simp[z1],?_⟩
  rw[e1,List.map_cons,List.flatten_cons]
  exact pr_low i1 nr1 nr2 z2
def prI(x:Pr):V1:=⟨true,(rtV x.d).l++((spV x.a).l++(spV x.b).l)⟩
def lessP(x y:Pr):Bool:=decide (cmpRt y.d x.d<0)
theorem betterP_T{x y:Pr}(h:lessP x y=true):betterP x y=y:=if_pos (of_decide_eq_true h)
theorem betterP_F{x y:Pr}(h:lessP x y=false):betterP x y=x:=if_neg (of_decide_eq_false h)
def lsA(L:List Pr):List V1:=[⟨false,[.fs 0 (L.map prL).flatten L.length 20]⟩,⟨false,[.v (.func (.func 137) #[] #[])]⟩]
theorem least_4(p1 p2 p3 p4:Pr):Fok Tryz.prog 136 (lsA [p1,p2,p3,p4]) (.one (prI (leastP [p1,p2,p3,p4]))):=by
 cases H2:lessP p1 p2 with
 | true =>
  cases H3:lessP p2 p3 with
  | true =>
   cases H4:lessP p3 p4 with
   | true =>
    rw[show leastP [p1,p2,p3,p4]=p4 by simp only[leastP,List.foldl_cons,List.foldl_nil,betterP_T H2,betterP_T H3,betterP_T H4]]
    exact fok [cCmp] [true,true,true] [pT H2,pT H3,pT H4] (by kernel_rfl)
   | false =>
    rw[show leastP [p1,p2,p3,p4]=p3 by simp only[leastP,List.foldl_cons,List.foldl_nil,betterP_T H2,betterP_T H3,betterP_F H4]]
    exact fok [cCmp] [true,true,false] [pT H2,pT H3,pF H4] (by kernel_rfl)
  | false =>
   cases H4:lessP p2 p4 with
   | true =>
    rw[show leastP [p1,p2,p3,p4]=p4 by simp only[leastP,List.foldl_cons,List.foldl_nil,betterP_T H2,betterP_F H3,betterP_T H4]]
    exact fok [cCmp] [true,false,true] [pT H2,pF H3,pT H4] (by kernel_rfl)
   | false =>
    rw[show leastP [p1,p2,p3,p4]=p2 by simp only[leastP,List.foldl_cons,List.foldl_nil,betterP_T H2,betterP_F H3,betterP_F H4]]
    exact fok [cCmp] [true,false,false] [pT H2,pF H3,pF H4] (by kernel_rfl)
 | false =>
  cases H3:lessP p1 p3 with
  | true =>
   cases H4:lessP p3 p4 with
   | true =>
    rw[show leastP [p1,p2,p3,p4]=p4 by simp only[leastP,List.foldl_cons,List.foldl_nil,betterP_F H2,betterP_T H3,betterP_T H4]]
    exact fok [cCmp] [false,true,true] [pF H2,pT H3,pT H4] (by kernel_rfl)
   | false =>
    rw[show leastP [p1,p2,p3,p4]=p3 by simp only[leastP,List.foldl_cons,List.foldl_nil,betterP_F H2,betterP_T H3,betterP_F H4]]
    exact fok [cCmp] [false,true,false] [pF H2,pT H3,pF H4] (by kernel_rfl)
  | false =>
   cases H4:lessP p1 p4 with
   | true =>
    rw[show leastP [p1,p2,p3,p4]=p4 by simp only[leastP,List.foldl_cons,List.foldl_nil,betterP_F H2,betterP_F H3,betterP_T H4]]
    exact fok [cCmp] [false,false,true] [pF H2,pF H3,pT H4] (by kernel_rfl)
   | false =>
    rw[show leastP [p1,p2,p3,p4]=p1 by simp only[leastP,List.foldl_cons,List.foldl_nil,betterP_F H2,betterP_F H3,betterP_F H4]]
    exact fok [cCmp] [false,false,false] [pF H2,pF H3,pF H4] (by kernel_rfl)
theorem least_5T(p1 p2 p3 p4 p5:Pr)(H2:lessP p1 p2=true):Fok Tryz.prog 136 (lsA [p1,p2,p3,p4,p5]) (.one (prI (leastP [p1,p2,p3,p4,p5]))):=by
 cases H3:lessP p2 p3 with
 | true =>
  cases H4:lessP p3 p4 with
  | true =>
   cases H5:lessP p4 p5 with
   | true =>
    rw[show leastP [p1,p2,p3,p4,p5]=p5 by simp only[leastP,List.foldl_cons,List.foldl_nil,betterP_T H2,betterP_T H3,betterP_T H4,betterP_T H5]]
    exact fok [cCmp] [true,true,true,true] [pT H2,pT H3,pT H4,pT H5] (by kernel_rfl)
   | false =>
    rw[show leastP [p1,p2,p3,p4,p5]=p4 by simp only[leastP,List.foldl_cons,List.foldl_nil,betterP_T H2,betterP_T H3,betterP_T H4,betterP_F H5]]
    exact fok [cCmp] [true,true,true,false] [pT H2,pT H3,pT H4,pF H5] (by kernel_rfl)
  | false =>
   cases H5:lessP p3 p5 with
   | true =>
    rw[show leastP [p1,p2,p3,p4,p5]=p5 by simp only[leastP,List.foldl_cons,List.foldl_nil,betterP_T H2,betterP_T H3,betterP_F H4,betterP_T H5]]
    exact fok [cCmp] [true,true,false,true] [pT H2,pT H3,pF H4,pT H5] (by kernel_rfl)
   | false =>
    rw[show leastP [p1,p2,p3,p4,p5]=p3 by simp only[leastP,List.foldl_cons,List.foldl_nil,betterP_T H2,betterP_T H3,betterP_F H4,betterP_F H5]]
    exact fok [cCmp] [true,true,false,false] [pT H2,pT H3,pF H4,pF H5] (by kernel_rfl)
 | false =>
  cases H4:lessP p2 p4 with
  | true =>
   cases H5:lessP p4 p5 with
   | true =>
    rw[show leastP [p1,p2,p3,p4,p5]=p5 by simp only[leastP,List.foldl_cons,List.foldl_nil,betterP_T H2,betterP_F H3,betterP_T H4,betterP_T H5]]
    exact fok [cCmp] [true,false,true,true] [pT H2,pF H3,pT H4,pT H5] (by kernel_rfl)
   | false =>
    rw[show leastP [p1,p2,p3,p4,p5]=p4 by simp only[leastP,List.foldl_cons,List.foldl_nil,betterP_T H2,betterP_F H3,betterP_T H4,betterP_F H5]]
    exact fok [cCmp] [true,false,true,false] [pT H2,pF H3,pT H4,pF H5] (by kernel_rfl)
  | false =>
   cases H5:lessP p2 p5 with
   | true =>
    rw[show leastP [p1,p2,p3,p4,p5]=p5 by simp only[leastP,List.foldl_cons,List.foldl_nil,betterP_T H2,betterP_F H3,betterP_F H4,betterP_T H5]]
    exact fok [cCmp] [true,false,false,true] [pT H2,pF H3,pF H4,pT H5] (by kernel_rfl)
   | false =>
    rw[show leastP [p1,p2,p3,p4,p5]=p2 by simp only[leastP,List.foldl_cons,List.foldl_nil,betterP_T H2,betterP_F H3,betterP_F H4,betterP_F H5]]
    exact fok [cCmp] [true,false,false,false] [pT H2,pF H3,pF H4,pF H5] (by kernel_rfl)
theorem least_5F(p1 p2 p3 p4 p5:Pr)(H2:lessP p1 p2=false):Fok Tryz.prog 136 (lsA [p1,p2,p3,p4,p5]) (.one (prI (leastP [p1,p2,p3,p4,p5]))):=by
 cases H3:lessP p1 p3 with
 | true =>
  cases H4:lessP p3 p4 with
  | true =>
   cases H5:lessP p4 p5 with
   | true =>
    rw[show leastP [p1,p2,p3,p4,p5]=p5 by simp only[leastP,List.foldl_cons,List.foldl_nil,betterP_F H2,betterP_T H3,betterP_T H4,betterP_T H5]]
    exact fok [cCmp] [false,true,true,true] [pF H2,pT H3,pT H4,pT H5] (by kernel_rfl)
   | false =>
    rw[show leastP [p1,p2,p3,p4,p5]=p4 by simp only[leastP,List.foldl_cons,List.foldl_nil,betterP_F H2,betterP_T H3,betterP_T H4,betterP_F H5]]
    exact fok [cCmp] [false,true,true,false] [pF H2,pT H3,pT H4,pF H5] (by kernel_rfl)
  | false =>
   cases H5:lessP p3 p5 with
   | true =>
    rw[show leastP [p1,p2,p3,p4,p5]=p5 by simp only[leastP,List.foldl_cons,List.foldl_nil,betterP_F H2,betterP_T H3,betterP_F H4,betterP_T H5]]
    exact fok [cCmp] [false,true,false,true] [pF H2,pT H3,pF H4,pT H5] (by kernel_rfl)
   | false =>
    rw[show leastP [p1,p2,p3,p4,p5]=p3 by simp only[leastP,List.foldl_cons,List.foldl_nil,betterP_F H2,betterP_T H3,betterP_F H4,betterP_F H5]]
    exact fok [cCmp] [false,true,false,false] [pF H2,pT H3,pF H4,pF H5] (by kernel_rfl)
 | false =>
  cases H4:lessP p1 p4 with
  | true =>
   cases H5:lessP p4 p5 with
   | true =>
    rw[show leastP [p1,p2,p3,p4,p5]=p5 by simp only[leastP,List.foldl_cons,List.foldl_nil,betterP_F H2,betterP_F H3,betterP_T H4,betterP_T H5]]
    exact fok [cCmp] [false,false,true,true] [pF H2,pF H3,pT H4,pT H5] (by kernel_rfl)
   | false =>
    rw[show leastP [p1,p2,p3,p4,p5]=p4 by simp only[leastP,List.foldl_cons,List.foldl_nil,betterP_F H2,betterP_F H3,betterP_T H4,betterP_F H5]]
    exact fok [cCmp] [false,false,true,false] [pF H2,pF H3,pT H4,pF H5] (by kernel_rfl)
  | false =>
   cases H5:lessP p1 p5 with
   | true =>
    rw[show leastP [p1,p2,p3,p4,p5]=p5 by simp only[leastP,List.foldl_cons,List.foldl_nil,betterP_F H2,betterP_F H3,betterP_F H4,betterP_T H5]]
    exact fok [cCmp] [false,false,false,true] [pF H2,pF H3,pF H4,pT H5] (by kernel_rfl)
   | false =>
    rw[show leastP [p1,p2,p3,p4,p5]=p1 by simp only[leastP,List.foldl_cons,List.foldl_nil,betterP_F H2,betterP_F H3,betterP_F H4,betterP_F H5]]
    exact fok [cCmp] [false,false,false,false] [pF H2,pF H3,pF H4,pF H5] (by kernel_rfl)
theorem len4{L:List Pr}(h:L.length=4):∃a b c d,L=[a,b,c,d]:=by
 obtain⟨a,_,rfl,h1⟩:=len_s h
 obtain⟨b,_,rfl,h2⟩:=len_s h1
 obtain⟨c,_,rfl,h3⟩:=len_s h2
 obtain⟨d,_,rfl,h4⟩:=len_s h3
 obtain rfl:=List.eq_nil_of_length_eq_zero h4
 exact⟨a,b,c,d,rfl⟩
theorem least_ok{L:List Pr}{n:Nat}(hn:n=4\/n=5)(hl:L.length=n):Fok Tryz.prog 136 (lsA L) (.one (prI (leastP L))):=by
 rcases hn with h|h
 ·obtain ⟨a, b, c, d, rfl⟩ := len4 (hl.trans h)
  exact least_4 a b c d
 ·obtain ⟨a, M, rfl, hM⟩ := len_s (hl.trans h)
  obtain⟨b,c,d,e,rfl⟩:=len4 hM
  cases H2:lessP a b with
  | true=>exact least_5T a b c d e H2
  | false=>exact least_5F a b c d e H2
def cLeast:Con where
 f:=136
 g:=fun | [⟨false,[.fs o l n z]⟩,⟨false,[.v (.func (.func k) a b)]⟩]=>if (o=0/\z=20/\(n=4\/n=5))/\(k=137/\a.size=0/\b.size=0) then (toPrs n l).map fun L=>(.one (prI (leastP L)),[]) else none|_=>none
 ok:=by
  intro args res ps h hp
  split at h<;>try cases h
  rename_i o l n z k a b
  split at h<;>try cases h
  rename_i hb
  obtain⟨⟨rfl,rfl,hn⟩,rfl,ha,hb⟩:=hb
  cases hL:toPrs n l with
  | none=>simp[hL] at h
  | some L =>
   simp only[hL,Option.map_some,Option.some.injEq,Prod.mk.injEq] at h
   obtain⟨rfl,rfl⟩:=h
   rw[Array.eq_empty_of_size_eq_zero ha,Array.eq_empty_of_size_eq_zero hb]
   intro W vals hv
   have hv2:=hv
   simp only[rvs_cons,rvs_nil] at hv2
   obtain⟨x,hx,_,rfl,y,hy,_,rfl,rfl⟩:=hv2
   obtain⟨g,q,xs,T,e1,e2,e3,e4,e5,c,d,e6,e7,e8⟩:=hx.scal
   obtain⟨l1,l2⟩:=toPrs_low hL e7 e8
   have hA:RepVs W W (fun _=>0) 0 (lsA L) [x,y]:=by
    refine rvs_cons.2 ⟨x,?_,_,rfl,rvs_cons.2 ⟨y,hy,_,rfl,rfl⟩⟩
    rw[l1]
    exact RepI.val (i:=.fs 0 _ n 20) ⟨g,q,xs,T,e1,e2,e3,e4,e5,c,d,e6,l2,e8⟩
   exact least_ok hn l1 W _ hA
end
theorem int_rt(i:Int):Rt.right ⟨i,0,zero,ofZ 1⟩=true:=by
 have h:=ofP_nat (add:=i) (s:=0) (n:=0) (d:=1) (by decide) (by decide +kernel) (by decide +kernel) (by decide)
 obtain⟨q1,q2,_⟩:=ofP_ok (dig_digs _) (dig_digs _) h
 have e:rootOf i 0 0 1=⟨i,0,zero,ofZ 1⟩:=by unfold rootOf;rw[if_pos (.inl rfl)]
 rw[e] at q1 q2
 exact right_of q2 q1.nr q1.dr
theorem cmp_rint{add s i:Int}{n d:Nat}(hs:s=1\/s = -1)(hn:n<4294967296 ^ 8)(hd:d<4294967296 ^ 8)(h0:0<d):cmpRt (rootOf add s n d) ⟨i,0,zero,ofZ 1⟩=sideZ ((add-i)*d) s ((n:Int)*d):=by
 unfold cmpRt
 rw[(whole_ok (by omega) hn hd h0).2,int_rt]
 simp only[Bool.and_self,if_true]
 rw[zero_z,ofZ_z]
 exact cmp_int h0 (by omega)
theorem dR_root{add s n d:Int}(hs : -1<=s/\s<=1)(hn:0<=n)(hn2:n<85070591730234615865843651857942052864*4)(hd:0<d)(hd2:d<85070591730234615865843651857942052864*4):dR add s n d=rootOf add s n.toNat d.toNat/\n.toNat<4294967296 ^ 8/\d.toNat<4294967296 ^ 8/\0<d.toNat:=by
 have b:(85070591730234615865843651857942052864*4:Int)<((4294967296 ^ 8:Nat):Int):=by decide +kernel
 have h1:n.toNat<4294967296 ^ 8:=by omega
 have h2:d.toNat<4294967296 ^ 8:=by omega
 refine⟨?_,h1,h2,by omega⟩
 have:=ofP_nat (add:=add) hs h1 h2 (by omega)
 rw[Int.toNat_of_nonneg hn,Int.toNat_of_nonneg (by omega)] at this
 unfold dR
 rw[this]
theorem sq_lt{c:Int}(h : -9223372036854775808<=c/\c<=9223372036854775807):0<=c*c/\c*c<85070591730234615865843651857942052864*4:=by
 refine⟨sqz_nn c,?_⟩
 have h1:c.natAbs<=9223372036854775808:=by omega
 have h2:=Nat.mul_le_mul h1 h1
 rw[<- Int.natAbs_mul_self]
 omega
theorem foot_cmp{r c q:Int}(hr:0<=r)(hc : -9223372036854775808<=c/\c<=9223372036854775807)(hq:0<q)(hq2:q<=9223372036854775807):cmpRt (dR (-r) 1 (c*c) q) ⟨0,0,zero,ofZ 1⟩<=0 <-> c*c<=r*r*q:=by
 obtain⟨s1,s2⟩:=sq_lt hc
 obtain⟨e,h1,h2,h3⟩:=dR_root (add := -r) (s:=1) (by decide) s1 s2 hq (by omega)
 rw[e,cmp_rint (.inl rfl) h1 h2 h3,Int.toNat_of_nonneg s1,Int.toNat_of_nonneg (by omega),show (-r-0) = -r by omega,side_whole hr hq s1]
 have e2:q*r*r=r*r*q:=by rw[Int.mul_assoc,Int.mul_comm]
 rw[e2]
 unfold sgn cmpZ
 (repeat' split)<;>omega

set_option maxHeartbeats 4000000
set_option maxRecDepth 100000
section
def KE:List Con:=[cPoint,cLeast,cMeet,cCmpInt,cNOf,cPower,cRtOf,cChk,cRad,cQuarter]
def edgV(p:Pr):AV:=.tup [rtV p.d,spV p.a,spV p.b]
theorem edges_no(e f:Ed)(h:(e.ok&&f.ok&&(countE e f==0))=false):Fok Tryz.prog 94 [edV e lim lim,edV f lim lim] (edgV ⟨Rt.no,Sp.no,Sp.no⟩):=by
 cases h1:e.ok with
 | false=>exact fok KE [true] [pT (chk_T h1)] (by kernel_rfl)
 | true =>
  cases h2:f.ok with
  | false=>exact fok KE [false,true] [pF (chk_F h1),pT (chk_T h2)] (by kernel_rfl)
  | true =>
   rw[h1,h2] at h
   have h3:(!(countE e f==0))=true:=by simpa using h
   exact fok KE [false,false,true] [pF (chk_F h1),pF (chk_F h2),pT h3] (by kernel_rfl)
theorem leastP_cand(e f:Ed){l:List Pr}(h:innerR e f=l):leastP (candR e f)=leastP ([⟨(pointR f e.ax e.ay).1,spP e.ax e.ay,(pointR f e.ax e.ay).2⟩,⟨(pointR f e.bx e.by').1,spP e.bx e.by',(pointR f e.bx e.by').2⟩,
  ⟨(pointR e f.ax f.ay).1,(pointR e f.ax f.ay).2,spP f.ax f.ay⟩,⟨(pointR e f.bx f.by').1,(pointR e f.bx f.by').2,spP f.bx f.by'⟩]++l):=by subst h;rfl
def tF(l a:Ed):Int:=(a.cx-l.ax)*(l.bx-l.ax)+(a.cy-l.ay)*(l.by'-l.ay)
def cF(l a:Ed):Int:=(l.bx-l.ax)*(a.cy-l.ay)-(l.by'-l.ay)*(a.cx-l.ax)
def qF(l:Ed):Int:=sqI (l.bx-l.ax) (l.by'-l.ay)
def dF(l a:Ed):Rt:=dR (0-radZ a) 1 (cF l a*cF l a) (max (qF l) 1)
def zF:Rt:=⟨0,0,zero,ofZ 1⟩
theorem footR_eq(l a:Ed)(nx ny:Int)(hx:nx=if 0<cF l a then l.by'-l.ay else 0-(l.by'-l.ay))(hy:ny=if 0<cF l a then 0-(l.bx-l.ax) else l.bx-l.ax) :
  footR l a=if tF l a<=0\/qF l<=tF l a\/cF l a*cF l a<=radZ a*radZ a*qF l\/inQ a nx ny=false then [] else [⟨dR (-radZ a) 1 (cF l a*cF l a) (qF l),⟨l.ax,l.ay,l.bx-l.ax,l.by'-l.ay,tF l a,qF l,0⟩,⟨a.cx,a.cy,nx,ny,0,0,radZ a⟩⟩]:=by
 subst hx hy
 simp only[zero_sub']
 rfl
theorem foot_cases{l a:Ed}(hl:l.ok=true)(ha:a.ok=true)(ka:¬a.k=1)(nx ny:Int)(hx:nx=if 0<cF l a then l.by'-l.ay else 0-(l.by'-l.ay))(hy:ny=if 0<cF l a then 0-(l.bx-l.ax) else l.bx-l.ax) :
  (tF l a<=0/\footR l a=[])\/(¬tF l a<=0/\qF l<=tF l a/\footR l a=[])\/(¬tF l a<=0/\¬qF l<=tF l a/\cmpRt (dF l a) zF<=0/\footR l a=[]) \/
  (¬tF l a<=0/\¬qF l<=tF l a/\¬cmpRt (dF l a) zF<=0/\inQ a nx ny=false/\footR l a=[]) \/
  (¬tF l a<=0/\¬qF l<=tF l a/\¬cmpRt (dF l a) zF<=0/\inQ a nx ny=true/\footR l a=[⟨dF l a,⟨l.ax,l.ay,l.bx-l.ax,l.by'-l.ay,tF l a,qF l,0⟩,⟨a.cx,a.cy,nx,ny,0,0,radZ a⟩⟩]):=by
 have E:=footR_eq l a nx ny hx hy
 obtain⟨⟨l1,l2⟩,⟨l3,l4⟩,_⟩:=ok_right hl
 obtain⟨_,_,a5,a6⟩:=ok_right ha
 have iC:I64 (cF l a):=(l3.sub l1).cross (a6.sub l2) (l4.sub l2) (a5.sub l1)
 have iQ:I64 (qF l):=(l3.sub l1).sq (l4.sub l2)
 have hr:=rad_pos ha ka
 by_cases h1:tF l a<=0
 ·exact .inl ⟨h1,by rw[E,if_pos (.inl h1)]⟩
 by_cases h2:qF l<=tF l a
 ·exact .inr (.inl ⟨h1,h2,by rw[E,if_pos (.inr (.inl h2))]⟩)
 have hm:max (qF l) 1=qF l:=by omega
 have hd:dF l a=dR (-radZ a) 1 (cF l a*cF l a) (qF l):=by unfold dF;rw[hm,zero_sub']
 have hc:=foot_cmp (r:=radZ a) (c:=cF l a) (q:=qF l) (by omega) iC (by omega) iQ.2
 rw[<- hd] at hc
 by_cases h3:cmpRt (dF l a) zF<=0
 ·exact .inr (.inr (.inl ⟨h1,h2,h3,by rw[E,if_pos (.inr (.inr (.inl (hc.1 h3))))]⟩))
 have h3':¬cF l a*cF l a<=radZ a*radZ a*qF l:=fun h=>h3 (hc.2 h)
 cases h4:inQ a nx ny with
 | false=>exact .inr (.inr (.inr (.inl ⟨h1,h2,h3,rfl,by rw[E,if_pos (.inr (.inr (.inr h4)))]⟩)))
 | true =>
  refine .inr (.inr (.inr (.inr ⟨h1,h2,h3,rfl,?_⟩)))
  rw[E,if_neg (by rintro (h|h|h|h);exact h1 h;exact h2 h;exact h3' h;rw[h4] at h;cases h),hd]
theorem edges_2T(e f:Ed)(h1:e.ok=true)(h2:f.ok=true)(h3:(!(countE e f==0))=false)(L1:eqZ [.b (e.k==1),.b (f.k==1)] [.b true,.b false]=true)(kf:¬f.k=1)(IN:innerR e f=footR e f)(hc:0<cF e f):Fok Tryz.prog 94 [edV e 3 c26,edV f 3 c26] (edgV (leastP (candR e f))):=by
 rcases foot_cases (l:=e) (a:=f) h1 h2 kf (e.by'-e.ay) (0-(e.bx-e.ax)) (by rw[if_pos hc]) (by rw[if_pos hc]) with⟨a1,a9⟩|⟨a1,a2,a9⟩|⟨a1,a2,a3,a9⟩|⟨a1,a2,a3,a4,a9⟩|⟨a1,a2,a3,a4,a9⟩
 ·rw [leastP_cand e f (l := _) (by rw [IN, a9])]
  exact fok KE [false,false,false,true,true,true] [pF (chk_F h1),pF (chk_F h2),pF h3,pT L1,pP h2,pT (gt_T hc),pT (decide_eq_true a1)] (by kernel_rfl)
 ·rw [leastP_cand e f (l := _) (by rw [IN, a9])]
  exact fok KE [false,false,false,true,true,false,true] [pF (chk_F h1),pF (chk_F h2),pF h3,pT L1,pP h2,pT (gt_T hc),pF (decide_eq_false a1),pT (ge_T a2)] (by kernel_rfl)
 ·rw [leastP_cand e f (l := _) (by rw [IN, a9])]
  exact fok KE [false,false,false,true,true,false,false,true] [pF (chk_F h1),pF (chk_F h2),pF h3,pT L1,pP h2,pT (gt_T hc),pF (decide_eq_false a1),pF (ge_F a2),pT (decide_eq_true a3)] (by kernel_rfl)
 ·rw [leastP_cand e f (l := _) (by rw [IN, a9])]
  exact fok KE [false,false,false,true,true,false,false,false,true] [pF (chk_F h1),pF (chk_F h2),pF h3,pT L1,pP h2,pT (gt_T hc),pF (decide_eq_false a1),pF (ge_F a2),pF (decide_eq_false a3),pP h2,pT (not_T a4)] (by kernel_rfl)
 ·rw [leastP_cand e f (l := _) (by rw [IN, a9])]
  exact fok KE [false,false,false,true,true,false,false,false,false] [pF (chk_F h1),pF (chk_F h2),pF h3,pT L1,pP h2,pT (gt_T hc),pF (decide_eq_false a1),pF (ge_F a2),pF (decide_eq_false a3),pP h2,pF (not_F a4)] (by kernel_rfl)
theorem edges_2F(e f:Ed)(h1:e.ok=true)(h2:f.ok=true)(h3:(!(countE e f==0))=false)(L1:eqZ [.b (e.k==1),.b (f.k==1)] [.b true,.b false]=true)(kf:¬f.k=1)(IN:innerR e f=footR e f)(hc:¬0<cF e f):Fok Tryz.prog 94 [edV e 3 c26,edV f 3 c26] (edgV (leastP (candR e f))):=by
 rcases foot_cases (l:=e) (a:=f) h1 h2 kf (0-(e.by'-e.ay)) (e.bx-e.ax) (by rw[if_neg hc]) (by rw[if_neg hc]) with⟨a1,a9⟩|⟨a1,a2,a9⟩|⟨a1,a2,a3,a9⟩|⟨a1,a2,a3,a4,a9⟩|⟨a1,a2,a3,a4,a9⟩
 ·rw [leastP_cand e f (l := _) (by rw [IN, a9])]
  exact fok KE [false,false,false,true,false,true] [pF (chk_F h1),pF (chk_F h2),pF h3,pT L1,pP h2,pF (gt_F hc),pT (decide_eq_true a1)] (by kernel_rfl)
 ·rw [leastP_cand e f (l := _) (by rw [IN, a9])]
  exact fok KE [false,false,false,true,false,false,true] [pF (chk_F h1),pF (chk_F h2),pF h3,pT L1,pP h2,pF (gt_F hc),pF (decide_eq_false a1),pT (ge_T a2)] (by kernel_rfl)
 ·rw [leastP_cand e f (l := _) (by rw [IN, a9])]
  exact fok KE [false,false,false,true,false,false,false,true] [pF (chk_F h1),pF (chk_F h2),pF h3,pT L1,pP h2,pF (gt_F hc),pF (decide_eq_false a1),pF (ge_F a2),pT (decide_eq_true a3)] (by kernel_rfl)
 ·rw [leastP_cand e f (l := _) (by rw [IN, a9])]
  exact fok KE [false,false,false,true,false,false,false,false,true] [pF (chk_F h1),pF (chk_F h2),pF h3,pT L1,pP h2,pF (gt_F hc),pF (decide_eq_false a1),pF (ge_F a2),pF (decide_eq_false a3),pP h2,pT (not_T a4)] (by kernel_rfl)
 ·rw [leastP_cand e f (l := _) (by rw [IN, a9])]
  exact fok KE [false,false,false,true,false,false,false,false,false] [pF (chk_F h1),pF (chk_F h2),pF h3,pT L1,pP h2,pF (gt_F hc),pF (decide_eq_false a1),pF (ge_F a2),pF (decide_eq_false a3),pP h2,pF (not_F a4)] (by kernel_rfl)
theorem edges_3T(e f:Ed)(h1:e.ok=true)(h2:f.ok=true)(h3:(!(countE e f==0))=false)(L1:eqZ [.b (e.k==1),.b (f.k==1)] [.b true,.b false]=false)(L2:eqZ [.b (e.k==1),.b (f.k==1)] [.b false,.b true]=true)(ke:¬e.k=1)(IN:innerR e f=(footR f e).map Pr.swap)(hc:0<cF f e):Fok Tryz.prog 94 [edV e 3 c26,edV f 3 c26] (edgV (leastP (candR e f))):=by
 rcases foot_cases (l:=f) (a:=e) h2 h1 ke (f.by'-f.ay) (0-(f.bx-f.ax)) (by rw[if_pos hc]) (by rw[if_pos hc]) with⟨a1,a9⟩|⟨a1,a2,a9⟩|⟨a1,a2,a3,a9⟩|⟨a1,a2,a3,a4,a9⟩|⟨a1,a2,a3,a4,a9⟩
 ·rw [leastP_cand e f (l := _) (by rw [IN, a9])]
  exact fok KE [false,false,false,false,true,true,true] [pF (chk_F h1),pF (chk_F h2),pF h3,pF L1,pT L2,pP h1,pT (gt_T hc),pT (decide_eq_true a1)] (by kernel_rfl)
 ·rw [leastP_cand e f (l := _) (by rw [IN, a9])]
  exact fok KE [false,false,false,false,true,true,false,true] [pF (chk_F h1),pF (chk_F h2),pF h3,pF L1,pT L2,pP h1,pT (gt_T hc),pF (decide_eq_false a1),pT (ge_T a2)] (by kernel_rfl)
 ·rw [leastP_cand e f (l := _) (by rw [IN, a9])]
  exact fok KE [false,false,false,false,true,true,false,false,true] [pF (chk_F h1),pF (chk_F h2),pF h3,pF L1,pT L2,pP h1,pT (gt_T hc),pF (decide_eq_false a1),pF (ge_F a2),pT (decide_eq_true a3)] (by kernel_rfl)
 ·rw [leastP_cand e f (l := _) (by rw [IN, a9])]
  exact fok KE [false,false,false,false,true,true,false,false,false,true] [pF (chk_F h1),pF (chk_F h2),pF h3,pF L1,pT L2,pP h1,pT (gt_T hc),pF (decide_eq_false a1),pF (ge_F a2),pF (decide_eq_false a3),pP h1,pT (not_T a4)] (by kernel_rfl)
 ·rw [leastP_cand e f (l := _) (by rw [IN, a9])]
  exact fok KE [false,false,false,false,true,true,false,false,false,false] [pF (chk_F h1),pF (chk_F h2),pF h3,pF L1,pT L2,pP h1,pT (gt_T hc),pF (decide_eq_false a1),pF (ge_F a2),pF (decide_eq_false a3),pP h1,pF (not_F a4)] (by kernel_rfl)
theorem edges_3F(e f:Ed)(h1:e.ok=true)(h2:f.ok=true)(h3:(!(countE e f==0))=false)(L1:eqZ [.b (e.k==1),.b (f.k==1)] [.b true,.b false]=false)(L2:eqZ [.b (e.k==1),.b (f.k==1)] [.b false,.b true]=true)(ke:¬e.k=1)(IN:innerR e f=(footR f e).map Pr.swap)(hc:¬0<cF f e):Fok Tryz.prog 94 [edV e 3 c26,edV f 3 c26] (edgV (leastP (candR e f))):=by
 rcases foot_cases (l:=f) (a:=e) h2 h1 ke (0-(f.by'-f.ay)) (f.bx-f.ax) (by rw[if_neg hc]) (by rw[if_neg hc]) with⟨a1,a9⟩|⟨a1,a2,a9⟩|⟨a1,a2,a3,a9⟩|⟨a1,a2,a3,a4,a9⟩|⟨a1,a2,a3,a4,a9⟩
 ·rw [leastP_cand e f (l := _) (by rw [IN, a9])]
  exact fok KE [false,false,false,false,true,false,true] [pF (chk_F h1),pF (chk_F h2),pF h3,pF L1,pT L2,pP h1,pF (gt_F hc),pT (decide_eq_true a1)] (by kernel_rfl)
 ·rw [leastP_cand e f (l := _) (by rw [IN, a9])]
  exact fok KE [false,false,false,false,true,false,false,true] [pF (chk_F h1),pF (chk_F h2),pF h3,pF L1,pT L2,pP h1,pF (gt_F hc),pF (decide_eq_false a1),pT (ge_T a2)] (by kernel_rfl)
 ·rw [leastP_cand e f (l := _) (by rw [IN, a9])]
  exact fok KE [false,false,false,false,true,false,false,false,true] [pF (chk_F h1),pF (chk_F h2),pF h3,pF L1,pT L2,pP h1,pF (gt_F hc),pF (decide_eq_false a1),pF (ge_F a2),pT (decide_eq_true a3)] (by kernel_rfl)
 ·rw [leastP_cand e f (l := _) (by rw [IN, a9])]
  exact fok KE [false,false,false,false,true,false,false,false,false,true] [pF (chk_F h1),pF (chk_F h2),pF h3,pF L1,pT L2,pP h1,pF (gt_F hc),pF (decide_eq_false a1),pF (ge_F a2),pF (decide_eq_false a3),pP h1,pT (not_T a4)] (by kernel_rfl)
 ·rw [leastP_cand e f (l := _) (by rw [IN, a9])]
  exact fok KE [false,false,false,false,true,false,false,false,false,false] [pF (chk_F h1),pF (chk_F h2),pF h3,pF L1,pT L2,pP h1,pF (gt_F hc),pF (decide_eq_false a1),pF (ge_F a2),pF (decide_eq_false a3),pP h1,pF (not_F a4)] (by kernel_rfl)
def nFr(e f:Ed):Int:=sqI (f.cx-e.cx) (f.cy-e.cy)
def wF(e f:Ed)(x y u v:Int)(d:Rt):List Pr:=if inQ e x y&&inQ f u v then [⟨d,⟨e.cx,e.cy,x,y,0,0,radZ e⟩,⟨f.cx,f.cy,u,v,0,0,radZ f⟩⟩] else []
theorem centR_eq(e f:Ed):centR e f=if (radZ e+radZ f)*(radZ e+radZ f)<nFr e f then wF e f (f.cx-e.cx) (f.cy-e.cy) (0-(f.cx-e.cx)) (0-(f.cy-e.cy)) (dR (0-radZ e-radZ f) 1 (nFr e f) 1)
  else if (radZ e-radZ f)*(radZ e-radZ f)<=nFr e f then []
  else if radZ f<radZ e then wF e f (f.cx-e.cx) (f.cy-e.cy) (f.cx-e.cx) (f.cy-e.cy) (dR (radZ e-radZ f) (-1) (nFr e f) 1)
  else wF e f (0-(f.cx-e.cx)) (0-(f.cy-e.cy)) (0-(f.cx-e.cx)) (0-(f.cy-e.cy)) (dR (radZ f-radZ e) (-1) (nFr e f) 1):=by
 simp only[zero_sub']
 rfl
theorem edges_4a(e f:Ed)(h1:e.ok=true)(h2:f.ok=true)(h3:(!(countE e f==0))=false)(L1:eqZ [.b (e.k==1),.b (f.k==1)] [.b true,.b false]=false)(L2:eqZ [.b (e.k==1),.b (f.k==1)] [.b false,.b true]=false)(L3:eqZ [.b (e.k==1),.b (f.k==1)] [.b false,.b false]=true)(IN:innerR e f=centR e f)(g:(radZ e+radZ f)*(radZ e+radZ f)<nFr e f):Fok Tryz.prog 94 [edV e 3 c26,edV f 3 c26] (edgV (leastP (candR e f))):=by
 have C:=centR_eq e f
 rw[if_pos g] at C
 unfold wF at C
 cases q1:inQ e (f.cx-e.cx) (f.cy-e.cy) with
 | false =>
  rw[leastP_cand e f (l:=[]) (by rw[IN,C,q1];rfl)]
  exact fok KE [false,false,false,false,false,true,true,true] [pF (chk_F h1),pF (chk_F h2),pF h3,pF L1,pF L2,pT L3,pP h1,pP h2,pT (gt_T g),pP h1,pT (not_T q1)] (by kernel_rfl)
 | true =>
  cases q2:inQ f (0-(f.cx-e.cx)) (0-(f.cy-e.cy)) with
  | false =>
   rw[leastP_cand e f (l:=[]) (by rw[IN,C,q1,q2];rfl)]
   exact fok KE [false,false,false,false,false,true,true,false,true] [pF (chk_F h1),pF (chk_F h2),pF h3,pF L1,pF L2,pT L3,pP h1,pP h2,pT (gt_T g),pP h1,pF (not_F q1),pP h2,pT (not_T q2)] (by kernel_rfl)
  | true =>
   rw[leastP_cand e f (l:=_) (by rw[IN,C,q1,q2,Bool.and_self,if_pos rfl])]
   exact fok KE [false,false,false,false,false,true,true,false,false] [pF (chk_F h1),pF (chk_F h2),pF h3,pF L1,pF L2,pT L3,pP h1,pP h2,pT (gt_T g),pP h1,pF (not_F q1),pP h2,pF (not_F q2)] (by kernel_rfl)
theorem edges_4b(e f:Ed)(h1:e.ok=true)(h2:f.ok=true)(h3:(!(countE e f==0))=false)(L1:eqZ [.b (e.k==1),.b (f.k==1)] [.b true,.b false]=false)(L2:eqZ [.b (e.k==1),.b (f.k==1)] [.b false,.b true]=false)(L3:eqZ [.b (e.k==1),.b (f.k==1)] [.b false,.b false]=true)(IN:innerR e f=centR e f)(g:¬(radZ e+radZ f)*(radZ e+radZ f)<nFr e f)(g2:¬(radZ e-radZ f)*(radZ e-radZ f)<=nFr e f)(g3:radZ f<radZ e):Fok Tryz.prog 94 [edV e 3 c26,edV f 3 c26] (edgV (leastP (candR e f))):=by
 have C:=centR_eq e f
 rw[if_neg g,if_neg g2,if_pos g3] at C
 unfold wF at C
 cases q1:inQ e (f.cx-e.cx) (f.cy-e.cy) with
 | false =>
  rw[leastP_cand e f (l:=[]) (by rw[IN,C,q1];rfl)]
  exact fok KE [false,false,false,false,false,true,false,false,true,true] [pF (chk_F h1),pF (chk_F h2),pF h3,pF L1,pF L2,pT L3,pP h1,pP h2,pF (gt_F g),pF (ge_F g2),pT (gt_T g3),pP h1,pT (not_T q1)] (by kernel_rfl)
 | true =>
  cases q2:inQ f (f.cx-e.cx) (f.cy-e.cy) with
  | false =>
   rw[leastP_cand e f (l:=[]) (by rw[IN,C,q1,q2];rfl)]
   exact fok KE [false,false,false,false,false,true,false,false,true,false,true] [pF (chk_F h1),pF (chk_F h2),pF h3,pF L1,pF L2,pT L3,pP h1,pP h2,pF (gt_F g),pF (ge_F g2),pT (gt_T g3),pP h1,pF (not_F q1),pP h2,pT (not_T q2)] (by kernel_rfl)
  | true =>
   rw[leastP_cand e f (l:=_) (by rw[IN,C,q1,q2,Bool.and_self,if_pos rfl])]
   exact fok KE [false,false,false,false,false,true,false,false,true,false,false] [pF (chk_F h1),pF (chk_F h2),pF h3,pF L1,pF L2,pT L3,pP h1,pP h2,pF (gt_F g),pF (ge_F g2),pT (gt_T g3),pP h1,pF (not_F q1),pP h2,pF (not_F q2)] (by kernel_rfl)
theorem edges_4c(e f:Ed)(h1:e.ok=true)(h2:f.ok=true)(h3:(!(countE e f==0))=false)(L1:eqZ [.b (e.k==1),.b (f.k==1)] [.b true,.b false]=false)(L2:eqZ [.b (e.k==1),.b (f.k==1)] [.b false,.b true]=false)(L3:eqZ [.b (e.k==1),.b (f.k==1)] [.b false,.b false]=true)(IN:innerR e f=centR e f)(g:¬(radZ e+radZ f)*(radZ e+radZ f)<nFr e f)(g2:¬(radZ e-radZ f)*(radZ e-radZ f)<=nFr e f)(g3:¬radZ f<radZ e):Fok Tryz.prog 94 [edV e 3 c26,edV f 3 c26] (edgV (leastP (candR e f))):=by
 have C:=centR_eq e f
 rw[if_neg g,if_neg g2,if_neg g3] at C
 unfold wF at C
 cases q1:inQ e (0-(f.cx-e.cx)) (0-(f.cy-e.cy)) with
 | false =>
  rw[leastP_cand e f (l:=[]) (by rw[IN,C,q1];rfl)]
  exact fok KE [false,false,false,false,false,true,false,false,false,true] [pF (chk_F h1),pF (chk_F h2),pF h3,pF L1,pF L2,pT L3,pP h1,pP h2,pF (gt_F g),pF (ge_F g2),pF (gt_F g3),pP h1,pT (not_T q1)] (by kernel_rfl)
 | true =>
  cases q2:inQ f (0-(f.cx-e.cx)) (0-(f.cy-e.cy)) with
  | false =>
   rw[leastP_cand e f (l:=[]) (by rw[IN,C,q1,q2];rfl)]
   exact fok KE [false,false,false,false,false,true,false,false,false,false,true] [pF (chk_F h1),pF (chk_F h2),pF h3,pF L1,pF L2,pT L3,pP h1,pP h2,pF (gt_F g),pF (ge_F g2),pF (gt_F g3),pP h1,pF (not_F q1),pP h2,pT (not_T q2)] (by kernel_rfl)
  | true =>
   rw[leastP_cand e f (l:=_) (by rw[IN,C,q1,q2,Bool.and_self,if_pos rfl])]
   exact fok KE [false,false,false,false,false,true,false,false,false,false,false] [pF (chk_F h1),pF (chk_F h2),pF h3,pF L1,pF L2,pT L3,pP h1,pP h2,pF (gt_F g),pF (ge_F g2),pF (gt_F g3),pP h1,pF (not_F q1),pP h2,pF (not_F q2)] (by kernel_rfl)
theorem edges_ok(e f:Ed)(h1:e.ok=true)(h2:f.ok=true)(h3:(!(countE e f==0))=false):Fok Tryz.prog 94 [edV e 3 c26,edV f 3 c26] (edgV (leastP (candR e f))):=by
 by_cases ke:e.k=1<;>by_cases kf:f.k=1
 ·have L1 : eqZ [.b (e.k == 1), .b (f.k == 1)] [.b true, .b false] = false := by rw [ke, kf]; rfl
  have L2:eqZ [.b (e.k==1),.b (f.k==1)] [.b false,.b true]=false:=by rw[ke,kf];rfl
  have L3:eqZ [.b (e.k==1),.b (f.k==1)] [.b false,.b false]=false:=by rw[ke,kf];rfl
  rw[leastP_cand e f (l:=[]) (by unfold innerR;rw[if_pos ke,if_pos kf])]
  exact fok KE [false,false,false,false,false,false] [pF (chk_F h1),pF (chk_F h2),pF h3,pF L1,pF L2,pF L3] (by kernel_rfl)
 ·have L1 : eqZ [.b (e.k == 1), .b (f.k == 1)] [.b true, .b false] = true := by rw [ke, show (f.k == 1) = false by simpa using kf]; rfl
  have IN:innerR e f=footR e f:=by unfold innerR;rw[if_pos ke,if_neg kf]
  by_cases hc:0<cF e f
  ·exact edges_2T e f h1 h2 h3 L1 kf IN hc
  ·exact edges_2F e f h1 h2 h3 L1 kf IN hc
 ·have L1 : eqZ [.b (e.k == 1), .b (f.k == 1)] [.b true, .b false] = false := by rw [kf, show (e.k == 1) = false by simpa using ke]; rfl
  have L2:eqZ [.b (e.k==1),.b (f.k==1)] [.b false,.b true]=true:=by rw[kf,show (e.k==1)=false by simpa using ke];rfl
  have IN:innerR e f=(footR f e).map Pr.swap:=by unfold innerR;rw[if_neg ke,if_pos kf]
  by_cases hc:0<cF f e
  ·exact edges_3T e f h1 h2 h3 L1 L2 ke IN hc
  ·exact edges_3F e f h1 h2 h3 L1 L2 ke IN hc
 ·have L1 : eqZ [.b (e.k == 1), .b (f.k == 1)] [.b true, .b false] = false := by rw [show (e.k == 1) = false by simpa using ke]; rfl
  have L2:eqZ [.b (e.k==1),.b (f.k==1)] [.b false,.b true]=false:=by rw[show (e.k==1)=false by simpa using ke,show (f.k==1)=false by simpa using kf];rfl
  have L3:eqZ [.b (e.k==1),.b (f.k==1)] [.b false,.b false]=true:=by rw[show (e.k==1)=false by simpa using ke,show (f.k==1)=false by simpa using kf];rfl
  have IN:innerR e f=centR e f:=by unfold innerR;rw[if_neg ke,if_neg kf]
  by_cases g:(radZ e+radZ f)*(radZ e+radZ f)<nFr e f
  ·exact edges_4a e f h1 h2 h3 L1 L2 L3 IN g
  ·by_cases g2 : (radZ e - radZ f) * (radZ e - radZ f) <= nFr e f
   ·rw [leastP_cand e f (l := []) (by rw [IN, centR_eq, if_neg g, if_pos g2])]
    exact fok KE [false,false,false,false,false,true,false,true] [pF (chk_F h1),pF (chk_F h2),pF h3,pF L1,pF L2,pT L3,pP h1,pP h2,pF (gt_F g),pT (ge_T g2)] (by kernel_rfl)
   ·by_cases g3 : radZ f < radZ e
    ·exact edges_4b e f h1 h2 h3 L1 L2 L3 IN g g2 g3
    ·exact edges_4c e f h1 h2 h3 L1 L2 L3 IN g g2 g3
def cEdges:Con where
 f:=94
 g:=fun | [⟨true,l⟩,⟨true,m⟩]=>(match toEd l,toEd m with|some e,some f=>some (edgV (edgesR e f),[])|_,_=>none)|_=>none
 ok:=by
  intro args res ps h hp
  split at h<;>try cases h
  split at h<;>cases h
  rename_i e f he hf
  cases hc:(e.ok&&f.ok&&(countE e f==0)) with
  | false =>
   rw[show edgesR e f=⟨Rt.no,Sp.no,Sp.no⟩ by unfold edgesR;rw[if_pos];revert hc;cases e.ok<;>cases f.ok<;>simp]
   exact (edges_no e f hc).pre fun W=>rvs_1 (ed_lim he) (rvs_1 (ed_lim hf) rvs_0)
  | true =>
   simp only[Bool.and_eq_true] at hc
   rw[show edgesR e f=leastP (candR e f) by unfold edgesR;rw[if_neg];rw[hc.1.1,hc.1.2,hc.2];decide]
   exact (edges_ok e f hc.1.1 hc.1.2 (by rw[hc.2];rfl)).pre fun W=>rvs_1 (ed_ok he hc.1.1) (rvs_1 (ed_ok hf hc.1.2) rvs_0)
end
end Go.Proofs.YtghemgdfmldoeaaGreat
