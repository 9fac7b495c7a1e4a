import Derived.Test.YtghemgdfmldoeaaGreatP27
set_option linter.unusedVariables false
set_option linter.unusedSimpArgs false
namespace Go.Proofs.YtghemgdfmldoeaaGreat
open Go.RowKit
set_option maxHeartbeats 1000000
set_option maxRecDepth 100000
section
def KU:List It->Option (Rt×List It)
 | a::s::.d (.num n)::.d (.num d)::l=>match asI a,asI s with|some (a,_),some (s,_)=>some (⟨a,s,n,d⟩,l)|_,_=>none
 | _=>none
theorem Fv{V:World}{i:It}{z:Int}{B:Nat}{cs:List Value}(h:asI i=some (z,B))(hr:jx V i cs):cs=[.int .i64 z]/\I64 z:=by
 unfold asI at h;split at h<;>cases h
 ·exact⟨hr.1,hr.2.2⟩
 ·exact hr
theorem a6S{V:World}{l m:List It}{a:Rt}{cs:List Value}(h:KU l=some (a,m))(hr:aE V l cs):∃n p k c b q j d r,cs=.int .i64 a.add::.int .i64 a.s::.bool n::.slice p k c::.bool b::.slice q j d::r/\NR V n p k c a.n/\NR V b q j d a.d/\(I64 a.add/\I64 a.s)/\aE V m r:=by
 unfold KU at h;split at h
 ·split at h
  ·cases h;rename_i h1 h2;obtain⟨c1,d1,rfl,r1,c2,d2,rfl,r2,c3,d3,rfl,⟨n,p,k,c,rfl,h3⟩,c4,d4,rfl,⟨b,q,j,d,rfl,h4⟩,r5⟩:=hr;obtain⟨rfl,i1⟩:=Fv h1 r1;obtain⟨rfl,i2⟩:=Fv h2 r2;exact⟨n,p,k,c,b,q,j,d,d4,rfl,h3,h4,⟨i1,i2⟩,r5⟩
  ·cases h
 ·cases h
def ud:Nat->List It->Option (List Int×List It)
 | 0,l=>some ([],l)|_+1,[]=>none|n+1,i::l=>match asI i,ud n l with|some (z,_),some (r,m)=>some (z::r,m)|_,_=>none
theorem Ic{V:World}:∀ {n:Nat} {l m:List It} {zs:List Int} {cs:List Value},ud n l=some (zs,m)->aE V l cs->zs.length=n/\(∀z∈zs,I64 z)/\∃r,cs=zs.map (Value.int .i64)++r/\aE V m r
 | 0,_,_,_,cs,h,hr=>by unfold ud at h;cases h;exact⟨rfl,nofun,cs,rfl,hr⟩|n+1,[],_,_,_,h,_=>by unfold ud at h;cases h|n+1,i::l,m,zs,cs,h,⟨c,d,e,h1,h2⟩=>by
  unfold ud at h;split at h
  ·rename_i z _ r m' hz hr;cases h;obtain⟨k1,k2,q,k3,k4⟩:=Ic hr h2;obtain⟨rfl,hi⟩:=Fv hz h1;refine⟨by simp[k1],λx hx=>?_,q,by rw[e,k3];rfl,k4⟩;rcases List.mem_cons.1 hx with rfl|hx
   ·exact hi
   ·exact k2 x hx
  ·cases h
def Sp.of:List Int->Sp
 | [x,y,dx,dy,p,q,len]=>⟨x,y,dx,dy,p,q,len⟩|_=>Sp.no
def KQ(l:List It):Option (Pr×List It) :=
 match KU l with|some (d,l)=>(match ud 7 l with|some (a,l)=>(match ud 7 l with|some (b,l)=>some (⟨d,Sp.of a,Sp.of b⟩,l)|none=>none)|none=>none)|none=>none
def wY:Nat->List It->Option (List Pr)
 | 0,_=>some []|n+1,l=>match KQ l with|some (x,l)=>(match wY n l with|some r=>some (x::r)|none=>none)|none=>none
def Sp.i64(s:Sp):Prop:=I64 s.x/\I64 s.y/\I64 s.dx/\I64 s.dy/\I64 s.p/\I64 s.q/\I64 s.len
def Pr.i64(x:Pr):Prop:=(I64 x.d.add/\I64 x.d.s)/\x.a.i64/\x.b.i64
theorem seven{zs:List Int}(h:zs.length=7):∃a b c d e f g,zs=[a,b,c,d,e,f,g]:=by
 match zs,h with|[a,b,c,d,e,f,g],_=>exact⟨a,b,c,d,e,f,g,rfl⟩
theorem Ub{zs:List Int}(h:zs.length=7)(hi:∀z∈zs,I64 z):(Sp.of zs).i64/\zs=[(Sp.of zs).x,(Sp.of zs).y,(Sp.of zs).dx,(Sp.of zs).dy,(Sp.of zs).p,(Sp.of zs).q,(Sp.of zs).len]:=by
 obtain⟨a,b,c,d,e,f,g,rfl⟩:=seven h;exact⟨⟨hi a (by simp),hi b (by simp),hi c (by simp),hi d (by simp),hi e (by simp),hi f (by simp),hi g (by simp)⟩,rfl⟩
def Jp(e:Pr)(n:Bool)(p:Option Addr)(l c:Nat)(m:Bool)(q:Option Addr)(k d:Nat):List Value :=
 [.int .i64 e.d.add,.int .i64 e.d.s,.bool n,.slice p l c,.bool m,.slice q k d,.int .i64 e.a.x,.int .i64 e.a.y,.int .i64 e.a.dx,.int .i64 e.a.dy,.int .i64 e.a.p,.int .i64 e.a.q,.int .i64 e.a.len,
  .int .i64 e.b.x,.int .i64 e.b.y,.int .i64 e.b.dx,.int .i64 e.b.dy,.int .i64 e.b.p,.int .i64 e.b.q,.int .i64 e.b.len]
theorem a6R{V:World}{l m:List It}{x:Pr}{cs:List Value}(hx:KQ l=some (x,m))(hr:aE V l cs):∃n p k c b q j d r,cs=Jp x n p k c b q j d++r/\NR V n p k c x.d.n/\NR V b q j d x.d.d/\x.i64/\aE V m r:=by
 unfold KQ at hx;split at hx<;>(try (cases hx;done));rename_i d l1 h1;split at hx<;>(try (cases hx;done));rename_i a l2 h2;split at hx<;>(try (cases hx;done));rename_i b l3 h3;cases hx;obtain⟨n1,p1,k1,c1,m1,q1,j1,d1,r1,e1,nr1,nr2,i1,rf1⟩:=a6S h1 hr;obtain⟨la,ia,r2,e2,rf2⟩:=Ic h2 rf1;obtain⟨lb,ib,r3,e3,rf3⟩:=Ic h3 rf2;refine⟨n1,p1,k1,c1,m1,q1,j1,d1,r3,?_,nr1,nr2,⟨i1,(Ub la ia).1,(Ub lb ib).1⟩,rf3⟩;obtain⟨a0,a1,a2,a3,a4,a5,a6,rfl⟩:=seven la;obtain⟨b0,b1,b2,b3,b4,b5,b6,rfl⟩:=seven lb;rw[e1,e2,e3];rfl
def Jo(x:Pr):List It:=(dX x.d).l++((fQ x.a).l++(fQ x.b).l)
theorem ki{V:World}{z:Int}{l:List It}{cs:List Value}(h:I64 z)(h2:aE V l cs):aE V (.i z lim::l) (.int .i64 z::cs):=⟨[_],cs,rfl,⟨rfl,aP h⟩,h2⟩
theorem Si{V:World}{x:Nm}{n:Bool}{p:Option Addr}{k c:Nat}{l:List It}{cs:List Value}(h:NR V n p k c x)(h2:aE V l cs):aE V (.d (.num x)::l) (.bool n::.slice p k c::cs):=⟨[_,_],cs,rfl,⟨n,p,k,c,rfl,h⟩,h2⟩
theorem a3F{V:World}{x:Pr}{n b:Bool}{p q:Option Addr}{k c j d:Nat}{m:List It}{cs:List Value}(hi:x.i64)(h1:NR V n p k c x.d.n)(h2:NR V b q j d x.d.d)(h:aE V m cs):aE V (Jo x++m) (Jp x n p k c b q j d++cs):=by
 obtain⟨⟨i1,i2⟩,⟨a1,a2,a3,a4,a5,a6,a7⟩,⟨b1,b2,b3,b4,b5,b6,b7⟩⟩:=hi;exact ki i1 (ki i2 (Si h1 (Si h2 (ki a1 (ki a2 (ki a3 (ki a4 (ki a5 (ki a6 (ki a7 (ki b1 (ki b2 (ki b3 (ki b4 (ki b5 (ki b6 (ki b7 h)))))))))))))))))
theorem Ur{V:World}:∀ {n:Nat} {l:List It} {L:List Pr} {cs:List Value},wY n l=some L->aE V l cs->cs.length=n*20->L.length=n/\aE V (L.map Jo).flatten cs
 | 0,l,L,cs,h,_,hl=>by
  unfold wY at h;cases h;have:cs=[]:=List.eq_nil_of_length_eq_zero (by simpa using hl);subst this;exact⟨rfl,rfl⟩|n+1,l,L,cs,h,hr,hl=>by
  unfold wY at h;split at h<;>(try (cases h;done));rename_i x l' hx;split at h<;>(try (cases h;done));rename_i r hr';cases h;obtain⟨n1,p1,k1,c1,m1,q1,j1,d1,r3,e1,nr1,nr2,i1,rf⟩:=a6R hx hr;have hl3:r3.length=n*20:=by
   rw[e1,List.length_append] at hl;have:(Jp x n1 p1 k1 c1 m1 q1 j1 d1).length=20:=rfl;omega
  obtain⟨z1,z2⟩:=Ur hr' rf hl3;refine⟨by simp[z1],?_⟩;rw[e1,List.map_cons,List.flatten_cons];exact a3F i1 nr1 nr2 z2
def zo(x:Pr):V1:=⟨true,(dX x.d).l++((fQ x.a).l++(fQ x.b).l)⟩
def fC(x y:Pr):Bool:=decide (eE y.d x.d<0)
theorem cC{x y:Pr}(h:fC x y=true):FA x y=y:=if_pos (of_decide_eq_true h)
theorem cB{x y:Pr}(h:fC x y=false):FA x y=x:=if_neg (of_decide_eq_false h)
def yV(L:List Pr):List V1:=[⟨false,[.fs 0 (L.map Jo).flatten L.length 20]⟩,⟨false,[.v (.func (.func 137) #[] #[])]⟩]
theorem a0P(p1 p2 p3 p4:Pr):ae Tryz.prog 136 (yV [p1,p2,p3,p4]) (.one (zo (a8 [p1,p2,p3,p4]))):=by
 cases H2:fC p1 p2 with
 | true =>
  cases H3:fC p2 p3 with
  | true =>
   cases H4:fC p3 p4 with
   | true =>
    rw[show a8 [p1,p2,p3,p4]=p4 by simp only[a8,List.foldl_cons,List.foldl_nil,cC H2,cC H3,cC H4]];exact ad [fA] [true,true,true] [pT H2,pT H3,pT H4] (by kernel_rfl)
   | false =>
    rw[show a8 [p1,p2,p3,p4]=p3 by simp only[a8,List.foldl_cons,List.foldl_nil,cC H2,cC H3,cB H4]];exact ad [fA] [true,true,false] [pT H2,pT H3,pF H4] (by kernel_rfl)
  | false =>
   cases H4:fC p2 p4 with
   | true =>
    rw[show a8 [p1,p2,p3,p4]=p4 by simp only[a8,List.foldl_cons,List.foldl_nil,cC H2,cB H3,cC H4]];exact ad [fA] [true,false,true] [pT H2,pF H3,pT H4] (by kernel_rfl)
   | false =>
    rw[show a8 [p1,p2,p3,p4]=p2 by simp only[a8,List.foldl_cons,List.foldl_nil,cC H2,cB H3,cB H4]];exact ad [fA] [true,false,false] [pT H2,pF H3,pF H4] (by kernel_rfl)
 | false =>
  cases H3:fC p1 p3 with
  | true =>
   cases H4:fC p3 p4 with
   | true =>
    rw[show a8 [p1,p2,p3,p4]=p4 by simp only[a8,List.foldl_cons,List.foldl_nil,cB H2,cC H3,cC H4]];exact ad [fA] [false,true,true] [pF H2,pT H3,pT H4] (by kernel_rfl)
   | false =>
    rw[show a8 [p1,p2,p3,p4]=p3 by simp only[a8,List.foldl_cons,List.foldl_nil,cB H2,cC H3,cB H4]];exact ad [fA] [false,true,false] [pF H2,pT H3,pF H4] (by kernel_rfl)
  | false =>
   cases H4:fC p1 p4 with
   | true =>
    rw[show a8 [p1,p2,p3,p4]=p4 by simp only[a8,List.foldl_cons,List.foldl_nil,cB H2,cB H3,cC H4]];exact ad [fA] [false,false,true] [pF H2,pF H3,pT H4] (by kernel_rfl)
   | false =>
    rw[show a8 [p1,p2,p3,p4]=p1 by simp only[a8,List.foldl_cons,List.foldl_nil,cB H2,cB H3,cB H4]];exact ad [fA] [false,false,false] [pF H2,pF H3,pF H4] (by kernel_rfl)
theorem a0R(p1 p2 p3 p4 p5:Pr)(H2:fC p1 p2=true):ae Tryz.prog 136 (yV [p1,p2,p3,p4,p5]) (.one (zo (a8 [p1,p2,p3,p4,p5]))):=by
 cases H3:fC p2 p3 with
 | true =>
  cases H4:fC p3 p4 with
  | true =>
   cases H5:fC p4 p5 with
   | true =>
    rw[show a8 [p1,p2,p3,p4,p5]=p5 by simp only[a8,List.foldl_cons,List.foldl_nil,cC H2,cC H3,cC H4,cC H5]];exact ad [fA] [true,true,true,true] [pT H2,pT H3,pT H4,pT H5] (by kernel_rfl)
   | false =>
    rw[show a8 [p1,p2,p3,p4,p5]=p4 by simp only[a8,List.foldl_cons,List.foldl_nil,cC H2,cC H3,cC H4,cB H5]];exact ad [fA] [true,true,true,false] [pT H2,pT H3,pT H4,pF H5] (by kernel_rfl)
  | false =>
   cases H5:fC p3 p5 with
   | true =>
    rw[show a8 [p1,p2,p3,p4,p5]=p5 by simp only[a8,List.foldl_cons,List.foldl_nil,cC H2,cC H3,cB H4,cC H5]];exact ad [fA] [true,true,false,true] [pT H2,pT H3,pF H4,pT H5] (by kernel_rfl)
   | false =>
    rw[show a8 [p1,p2,p3,p4,p5]=p3 by simp only[a8,List.foldl_cons,List.foldl_nil,cC H2,cC H3,cB H4,cB H5]];exact ad [fA] [true,true,false,false] [pT H2,pT H3,pF H4,pF H5] (by kernel_rfl)
 | false =>
  cases H4:fC p2 p4 with
  | true =>
   cases H5:fC p4 p5 with
   | true =>
    rw[show a8 [p1,p2,p3,p4,p5]=p5 by simp only[a8,List.foldl_cons,List.foldl_nil,cC H2,cB H3,cC H4,cC H5]];exact ad [fA] [true,false,true,true] [pT H2,pF H3,pT H4,pT H5] (by kernel_rfl)
   | false =>
    rw[show a8 [p1,p2,p3,p4,p5]=p4 by simp only[a8,List.foldl_cons,List.foldl_nil,cC H2,cB H3,cC H4,cB H5]];exact ad [fA] [true,false,true,false] [pT H2,pF H3,pT H4,pF H5] (by kernel_rfl)
  | false =>
   cases H5:fC p2 p5 with
   | true =>
    rw[show a8 [p1,p2,p3,p4,p5]=p5 by simp only[a8,List.foldl_cons,List.foldl_nil,cC H2,cB H3,cB H4,cC H5]];exact ad [fA] [true,false,false,true] [pT H2,pF H3,pF H4,pT H5] (by kernel_rfl)
   | false =>
    rw[show a8 [p1,p2,p3,p4,p5]=p2 by simp only[a8,List.foldl_cons,List.foldl_nil,cC H2,cB H3,cB H4,cB H5]];exact ad [fA] [true,false,false,false] [pT H2,pF H3,pF H4,pF H5] (by kernel_rfl)
theorem a0Q(p1 p2 p3 p4 p5:Pr)(H2:fC p1 p2=false):ae Tryz.prog 136 (yV [p1,p2,p3,p4,p5]) (.one (zo (a8 [p1,p2,p3,p4,p5]))):=by
 cases H3:fC p1 p3 with
 | true =>
  cases H4:fC p3 p4 with
  | true =>
   cases H5:fC p4 p5 with
   | true =>
    rw[show a8 [p1,p2,p3,p4,p5]=p5 by simp only[a8,List.foldl_cons,List.foldl_nil,cB H2,cC H3,cC H4,cC H5]];exact ad [fA] [false,true,true,true] [pF H2,pT H3,pT H4,pT H5] (by kernel_rfl)
   | false =>
    rw[show a8 [p1,p2,p3,p4,p5]=p4 by simp only[a8,List.foldl_cons,List.foldl_nil,cB H2,cC H3,cC H4,cB H5]];exact ad [fA] [false,true,true,false] [pF H2,pT H3,pT H4,pF H5] (by kernel_rfl)
  | false =>
   cases H5:fC p3 p5 with
   | true =>
    rw[show a8 [p1,p2,p3,p4,p5]=p5 by simp only[a8,List.foldl_cons,List.foldl_nil,cB H2,cC H3,cB H4,cC H5]];exact ad [fA] [false,true,false,true] [pF H2,pT H3,pF H4,pT H5] (by kernel_rfl)
   | false =>
    rw[show a8 [p1,p2,p3,p4,p5]=p3 by simp only[a8,List.foldl_cons,List.foldl_nil,cB H2,cC H3,cB H4,cB H5]];exact ad [fA] [false,true,false,false] [pF H2,pT H3,pF H4,pF H5] (by kernel_rfl)
 | false =>
  cases H4:fC p1 p4 with
  | true =>
   cases H5:fC p4 p5 with
   | true =>
    rw[show a8 [p1,p2,p3,p4,p5]=p5 by simp only[a8,List.foldl_cons,List.foldl_nil,cB H2,cB H3,cC H4,cC H5]];exact ad [fA] [false,false,true,true] [pF H2,pF H3,pT H4,pT H5] (by kernel_rfl)
   | false =>
    rw[show a8 [p1,p2,p3,p4,p5]=p4 by simp only[a8,List.foldl_cons,List.foldl_nil,cB H2,cB H3,cC H4,cB H5]];exact ad [fA] [false,false,true,false] [pF H2,pF H3,pT H4,pF H5] (by kernel_rfl)
  | false =>
   cases H5:fC p1 p5 with
   | true =>
    rw[show a8 [p1,p2,p3,p4,p5]=p5 by simp only[a8,List.foldl_cons,List.foldl_nil,cB H2,cB H3,cB H4,cC H5]];exact ad [fA] [false,false,false,true] [pF H2,pF H3,pF H4,pT H5] (by kernel_rfl)
   | false =>
    rw[show a8 [p1,p2,p3,p4,p5]=p1 by simp only[a8,List.foldl_cons,List.foldl_nil,cB H2,cB H3,cB H4,cB H5]];exact ad [fA] [false,false,false,false] [pF H2,pF H3,pF H4,pF H5] (by kernel_rfl)
theorem PG{L:List Pr}(h:L.length=4):∃a b c d,L=[a,b,c,d]:=by
 obtain⟨a,_,rfl,h1⟩:=jo h;obtain⟨b,_,rfl,h2⟩:=jo h1;obtain⟨c,_,rfl,h3⟩:=jo h2;obtain⟨d,_,rfl,h4⟩:=jo h3;obtain rfl:=List.eq_nil_of_length_eq_zero h4;exact⟨a,b,c,d,rfl⟩
theorem a0T{L:List Pr}{n:Nat}(hn:n=4\/n=5)(hl:L.length=n):ae Tryz.prog 136 (yV L) (.one (zo (a8 L))):=by
 rcases hn with h|h
 ·obtain ⟨a, b, c, d, rfl⟩ := PG (hl.trans h);exact a0P a b c d
 ·obtain ⟨a, M, rfl, hM⟩ := jo (hl.trans h);obtain⟨b,c,d,e,rfl⟩:=PG hM;cases H2:fC a b with|true=>exact a0R a b c d e H2|false=>exact a0Q a b c d e H2
def Wm:ah where
 f:=136
 g:=λ| [⟨false,[.fs o l n z]⟩,⟨false,[.v (.func (.func k) a b)]⟩]=>if (o=0/\z=20/\(n=4\/n=5))/\(k=137/\a.size=0/\b.size=0) then (wY n l).map λL=>(.one (zo (a8 L)),[]) else none|_=>none
 ok:=by
  intro args res ps h hp
  split at h<;>try cases h
  rename_i o l n z k a b
  split at h<;>try cases h
  rename_i hb
  obtain⟨⟨rfl,rfl,hn⟩,rfl,ha,hb⟩:=hb
  cases hL:wY n l with
  | none=>simp[hL] at h
  | some L =>
   simp only[hL,Option.map_some,Option.some.injEq,Prod.mk.injEq] at h
   obtain⟨rfl,rfl⟩:=h
   rw[Array.eq_empty_of_size_eq_zero ha,Array.eq_empty_of_size_eq_zero hb]
   intro W vals hv
   have hv2:=hv
   simp only[aK,iL] at hv2
   obtain⟨x,hx,_,rfl,y,hy,_,rfl,rfl⟩:=hv2
   obtain⟨g,q,xs,T,e1,e2,e3,e4,e5,c,d,e6,e7,e8⟩:=hx.scal
   obtain⟨l1,l2⟩:=Ur hL e7 e8
   have hA:aV W W (λ_=>0) 0 (yV L) [x,y]:=by
    refine aK.2 ⟨x,?_,_,rfl,aK.2 ⟨y,hy,_,rfl,rfl⟩⟩
    rw[l1]
    exact af.val (i:=.fs 0 _ n 20) ⟨g,q,xs,T,e1,e2,e3,e4,e5,c,d,e6,l2,e8⟩
   exact a0T hn l1 W _ hA
end
theorem a0z(i:Int):Rt.right ⟨i,0,zero,ai 1⟩=true:=by
 have h:=IR (add:=i) (s:=0) (n:=0) (d:=1) (by decide) (by decide +kernel) (by decide +kernel) (by decide);obtain⟨q1,q2,_⟩:=IU (yn _) (yn _) h;have e:rootOf i 0 0 1=⟨i,0,zero,ai 1⟩:=by unfold rootOf;rw[if_pos (.inl rfl)]
 rw[e] at q1 q2;exact Sv q2 q1.nr q1.dr
theorem XM{add s i:Int}{n d:Nat}(hs:s=1\/s = -1)(hn:n<4294967296 ^ 8)(hd:d<4294967296 ^ 8)(h0:0<d):eE (rootOf add s n d) ⟨i,0,zero,ai 1⟩=cO ((add-i)*d) s ((n:Int)*d):=by
 unfold eE;rw[(a65 (by omega) hn hd h0).2,a0z];simp only[Bool.and_self,if_true];rw[Ld,fj];exact XL h0 (by omega)
theorem Yw{add s n d:Int}(hs : -1<=s/\s<=1)(hn:0<=n)(hn2:n<85070591730234615865843651857942052864*4)(hd:0<d)(hd2:d<85070591730234615865843651857942052864*4):dR add s n d=rootOf add s n.toNat d.toNat/\n.toNat<4294967296 ^ 8/\d.toNat<4294967296 ^ 8/\0<d.toNat:=by
 have b:(85070591730234615865843651857942052864*4:Int)<((4294967296 ^ 8:Nat):Int):=by decide +kernel
 have h1:n.toNat<4294967296 ^ 8:=by omega
 have h2:d.toNat<4294967296 ^ 8:=by omega
 refine⟨?_,h1,h2,by omega⟩;have:=IR (add:=add) hs h1 h2 (by omega);rw[Int.toNat_of_nonneg hn,Int.toNat_of_nonneg (by omega)] at this;unfold dR;rw[this]
theorem a6n{c:Int}(h : -9223372036854775808<=c/\c<=9223372036854775807):0<=c*c/\c*c<85070591730234615865843651857942052864*4:=by
 refine⟨a6o c,?_⟩;have h1:c.natAbs<=9223372036854775808:=by omega
 have h2:=Nat.mul_le_mul h1 h1;rw[<- Int.natAbs_mul_self];omega
theorem ZT{r c q:Int}(hr:0<=r)(hc : -9223372036854775808<=c/\c<=9223372036854775807)(hq:0<q)(hq2:q<=9223372036854775807):eE (dR (-r) 1 (c*c) q) ⟨0,0,zero,ai 1⟩<=0 <-> c*c<=r*r*q:=by
 obtain⟨s1,s2⟩:=a6n hc;obtain⟨e,h1,h2,h3⟩:=Yw (add := -r) (s:=1) (by decide) s1 s2 hq (by omega);rw[e,XM (.inl rfl) h1 h2 h3,Int.toNat_of_nonneg s1,Int.toNat_of_nonneg (by omega),show (-r-0) = -r by omega,a6e hr hq s1];have e2:q*r*r=r*r*q:=by rw[Int.mul_assoc,Int.mul_comm]
 rw[e2];unfold sgn eP
 (repeat' split)<;>omega
set_option maxHeartbeats 4000000
set_option maxRecDepth 100000
section
def KE:List ah:=[WB,Wm,FK,MW,ve,MY,xZ,Be,Bg,MZ]
def oP(p:Pr):AV:=.tup [dX p.d,fQ p.a,fQ p.b]
theorem Y9(e f:Ed)(h:(e.ok&&f.ok&&(bK e f==0))=false):ae Tryz.prog 94 [aO e lim lim,aO f lim lim] (oP ⟨Rt.no,Sp.no,Sp.no⟩):=by
 cases h1:e.ok with|false=>exact ad KE [true] [pT (yc h1)] (by kernel_rfl)|true =>
  cases h2:f.ok with|false=>exact ad KE [false,true] [pF (aD h1),pT (yc h2)] (by kernel_rfl)|true =>
   rw[h1,h2] at h;have h3:(!(bK e f==0))=true:=by simpa using h
   exact ad KE [false,false,true] [pF (aD h1),pF (aD h2),pT h3] (by kernel_rfl)
theorem eA(e f:Ed){l:List Pr}(h:jY e f=l):a8 (nh e f)=a8 ([⟨(gm f e.ax e.ay).1,qY e.ax e.ay,(gm f e.ax e.ay).2⟩,⟨(gm f e.bx e.by').1,qY e.bx e.by',(gm f e.bx e.by').2⟩,
  ⟨(gm e f.ax f.ay).1,(gm e f.ax f.ay).2,qY f.ax f.ay⟩,⟨(gm e f.bx f.by').1,(gm e f.bx f.by').2,qY f.bx f.by'⟩]++l):=by subst h;rfl
def tF(l a:Ed):Int:=(a.cx-l.ax)*(l.bx-l.ax)+(a.cy-l.ay)*(l.by'-l.ay)
def cF(l a:Ed):Int:=(l.bx-l.ax)*(a.cy-l.ay)-(l.by'-l.ay)*(a.cx-l.ax)
def qF(l:Ed):Int:=jv (l.bx-l.ax) (l.by'-l.ay)
def dF(l a:Ed):Rt:=dR (0-az a) 1 (cF l a*cF l a) (max (qF l) 1)
def zF:Rt:=⟨0,0,zero,ai 1⟩
theorem ZS(l a:Ed)(nx ny:Int)(hx:nx=if 0<cF l a then l.by'-l.ay else 0-(l.by'-l.ay))(hy:ny=if 0<cF l a then 0-(l.bx-l.ax) else l.bx-l.ax) :
  kR l a=if tF l a<=0\/qF l<=tF l a\/cF l a*cF l a<=az a*az a*qF l\/eF a nx ny=false then [] else [⟨dR (-az a) 1 (cF l a*cF l a) (qF l),⟨l.ax,l.ay,l.bx-l.ax,l.by'-l.ay,tF l a,qF l,0⟩,⟨a.cx,a.cy,nx,ny,0,0,az a⟩⟩]:=by
 subst hx hy;simp only[EG];rfl
theorem BW{l a:Ed}(hl:l.ok=true)(ha:a.ok=true)(ka:¬a.k=1)(nx ny:Int)(hx:nx=if 0<cF l a then l.by'-l.ay else 0-(l.by'-l.ay))(hy:ny=if 0<cF l a then 0-(l.bx-l.ax) else l.bx-l.ax) :
  (tF l a<=0/\kR l a=[])\/(¬tF l a<=0/\qF l<=tF l a/\kR l a=[])\/(¬tF l a<=0/\¬qF l<=tF l a/\eE (dF l a) zF<=0/\kR l a=[]) \/
  (¬tF l a<=0/\¬qF l<=tF l a/\¬eE (dF l a) zF<=0/\eF a nx ny=false/\kR l a=[]) \/
  (¬tF l a<=0/\¬qF l<=tF l a/\¬eE (dF l a) zF<=0/\eF a nx ny=true/\kR l a=[⟨dF l a,⟨l.ax,l.ay,l.bx-l.ax,l.by'-l.ay,tF l a,qF l,0⟩,⟨a.cx,a.cy,nx,ny,0,0,az a⟩⟩]):=by
 have E:=ZS l a nx ny hx hy;obtain⟨⟨l1,l2⟩,⟨l3,l4⟩,_⟩:=sH hl;obtain⟨_,_,a5,a6⟩:=sH ha;have iC:I64 (cF l a):=(l3.sub l1).cross (a6.sub l2) (l4.sub l2) (a5.sub l1);have iQ:I64 (qF l):=(l3.sub l1).sq (l4.sub l2);have hr:=Jw ha ka;by_cases h1:tF l a<=0
 ·exact .inl ⟨h1,by rw[E,if_pos (.inl h1)]⟩
 by_cases h2:qF l<=tF l a
 ·exact .inr (.inl ⟨h1,h2,by rw[E,if_pos (.inr (.inl h2))]⟩)
 have hm:max (qF l) 1=qF l:=by omega
 have hd:dF l a=dR (-az a) 1 (cF l a*cF l a) (qF l):=by unfold dF;rw[hm,EG]
 have hc:=ZT (r:=az a) (c:=cF l a) (q:=qF l) (by omega) iC (by omega) iQ.2;rw[<- hd] at hc;by_cases h3:eE (dF l a) zF<=0
 ·exact .inr (.inr (.inl ⟨h1,h2,h3,by rw[E,if_pos (.inr (.inr (.inl (hc.1 h3))))]⟩))
 have h3':¬cF l a*cF l a<=az a*az a*qF l:=λh=>h3 (hc.2 h)
 cases h4:eF a nx ny with|false=>exact .inr (.inr (.inr (.inl ⟨h1,h2,h3,rfl,by rw[E,if_pos (.inr (.inr (.inr h4)))]⟩)))|true =>
  refine .inr (.inr (.inr (.inr ⟨h1,h2,h3,rfl,?_⟩)));rw[E,if_neg (by rintro (h|h|h|h);exact h1 h;exact h2 h;exact h3' h;rw[h4] at h;cases h),hd]
theorem Y3(e f:Ed)(h1:e.ok=true)(h2:f.ok=true)(h3:(!(bK e f==0))=false)(L1:dk [.b (e.k==1),.b (f.k==1)] [.b true,.b false]=true)(kf:¬f.k=1)(IN:jY e f=kR e f)(hc:0<cF e f):ae Tryz.prog 94 [aO e 3 aC,aO f 3 aC] (oP (a8 (nh e f))):=by
 rcases BW (l:=e) (a:=f) h1 h2 kf (e.by'-e.ay) (0-(e.bx-e.ax)) (by rw[if_pos hc]) (by rw[if_pos hc]) with⟨a1,a9⟩|⟨a1,a2,a9⟩|⟨a1,a2,a3,a9⟩|⟨a1,a2,a3,a4,a9⟩|⟨a1,a2,a3,a4,a9⟩
 ·rw [eA e f (l := _) (by rw [IN, a9])];exact ad KE [false,false,false,true,true,true] [pF (aD h1),pF (aD h2),pF h3,pT L1,pP h2,pT (cL hc),pT (decide_eq_true a1)] (by kernel_rfl)
 ·rw [eA e f (l := _) (by rw [IN, a9])];exact ad KE [false,false,false,true,true,false,true] [pF (aD h1),pF (aD h2),pF h3,pT L1,pP h2,pT (cL hc),pF (decide_eq_false a1),pT (mH a2)] (by kernel_rfl)
 ·rw [eA e f (l := _) (by rw [IN, a9])];exact ad KE [false,false,false,true,true,false,false,true] [pF (aD h1),pF (aD h2),pF h3,pT L1,pP h2,pT (cL hc),pF (decide_eq_false a1),pF (gV a2),pT (decide_eq_true a3)] (by kernel_rfl)
 ·rw [eA e f (l := _) (by rw [IN, a9])];exact ad KE [false,false,false,true,true,false,false,false,true] [pF (aD h1),pF (aD h2),pF h3,pT L1,pP h2,pT (cL hc),pF (decide_eq_false a1),pF (gV a2),pF (decide_eq_false a3),pP h2,pT (lL a4)] (by kernel_rfl)
 ·rw [eA e f (l := _) (by rw [IN, a9])];exact ad KE [false,false,false,true,true,false,false,false,false] [pF (aD h1),pF (aD h2),pF h3,pT L1,pP h2,pT (cL hc),pF (decide_eq_false a1),pF (gV a2),pF (decide_eq_false a3),pP h2,pF (ci a4)] (by kernel_rfl)
theorem Y2(e f:Ed)(h1:e.ok=true)(h2:f.ok=true)(h3:(!(bK e f==0))=false)(L1:dk [.b (e.k==1),.b (f.k==1)] [.b true,.b false]=true)(kf:¬f.k=1)(IN:jY e f=kR e f)(hc:¬0<cF e f):ae Tryz.prog 94 [aO e 3 aC,aO f 3 aC] (oP (a8 (nh e f))):=by
 rcases BW (l:=e) (a:=f) h1 h2 kf (0-(e.by'-e.ay)) (e.bx-e.ax) (by rw[if_neg hc]) (by rw[if_neg hc]) with⟨a1,a9⟩|⟨a1,a2,a9⟩|⟨a1,a2,a3,a9⟩|⟨a1,a2,a3,a4,a9⟩|⟨a1,a2,a3,a4,a9⟩
 ·rw [eA e f (l := _) (by rw [IN, a9])];exact ad KE [false,false,false,true,false,true] [pF (aD h1),pF (aD h2),pF h3,pT L1,pP h2,pF (bU hc),pT (decide_eq_true a1)] (by kernel_rfl)
 ·rw [eA e f (l := _) (by rw [IN, a9])];exact ad KE [false,false,false,true,false,false,true] [pF (aD h1),pF (aD h2),pF h3,pT L1,pP h2,pF (bU hc),pF (decide_eq_false a1),pT (mH a2)] (by kernel_rfl)
 ·rw [eA e f (l := _) (by rw [IN, a9])];exact ad KE [false,false,false,true,false,false,false,true] [pF (aD h1),pF (aD h2),pF h3,pT L1,pP h2,pF (bU hc),pF (decide_eq_false a1),pF (gV a2),pT (decide_eq_true a3)] (by kernel_rfl)
 ·rw [eA e f (l := _) (by rw [IN, a9])];exact ad KE [false,false,false,true,false,false,false,false,true] [pF (aD h1),pF (aD h2),pF h3,pT L1,pP h2,pF (bU hc),pF (decide_eq_false a1),pF (gV a2),pF (decide_eq_false a3),pP h2,pT (lL a4)] (by kernel_rfl)
 ·rw [eA e f (l := _) (by rw [IN, a9])];exact ad KE [false,false,false,true,false,false,false,false,false] [pF (aD h1),pF (aD h2),pF h3,pT L1,pP h2,pF (bU hc),pF (decide_eq_false a1),pF (gV a2),pF (decide_eq_false a3),pP h2,pF (ci a4)] (by kernel_rfl)
theorem Y5(e f:Ed)(h1:e.ok=true)(h2:f.ok=true)(h3:(!(bK e f==0))=false)(L1:dk [.b (e.k==1),.b (f.k==1)] [.b true,.b false]=false)(L2:dk [.b (e.k==1),.b (f.k==1)] [.b false,.b true]=true)(ke:¬e.k=1)(IN:jY e f=(kR f e).map Pr.swap)(hc:0<cF f e):ae Tryz.prog 94 [aO e 3 aC,aO f 3 aC] (oP (a8 (nh e f))):=by
 rcases BW (l:=f) (a:=e) h2 h1 ke (f.by'-f.ay) (0-(f.bx-f.ax)) (by rw[if_pos hc]) (by rw[if_pos hc]) with⟨a1,a9⟩|⟨a1,a2,a9⟩|⟨a1,a2,a3,a9⟩|⟨a1,a2,a3,a4,a9⟩|⟨a1,a2,a3,a4,a9⟩
 ·rw [eA e f (l := _) (by rw [IN, a9])];exact ad KE [false,false,false,false,true,true,true] [pF (aD h1),pF (aD h2),pF h3,pF L1,pT L2,pP h1,pT (cL hc),pT (decide_eq_true a1)] (by kernel_rfl)
 ·rw [eA e f (l := _) (by rw [IN, a9])];exact ad KE [false,false,false,false,true,true,false,true] [pF (aD h1),pF (aD h2),pF h3,pF L1,pT L2,pP h1,pT (cL hc),pF (decide_eq_false a1),pT (mH a2)] (by kernel_rfl)
 ·rw [eA e f (l := _) (by rw [IN, a9])];exact ad KE [false,false,false,false,true,true,false,false,true] [pF (aD h1),pF (aD h2),pF h3,pF L1,pT L2,pP h1,pT (cL hc),pF (decide_eq_false a1),pF (gV a2),pT (decide_eq_true a3)] (by kernel_rfl)
 ·rw [eA e f (l := _) (by rw [IN, a9])];exact ad KE [false,false,false,false,true,true,false,false,false,true] [pF (aD h1),pF (aD h2),pF h3,pF L1,pT L2,pP h1,pT (cL hc),pF (decide_eq_false a1),pF (gV a2),pF (decide_eq_false a3),pP h1,pT (lL a4)] (by kernel_rfl)
 ·rw [eA e f (l := _) (by rw [IN, a9])];exact ad KE [false,false,false,false,true,true,false,false,false,false] [pF (aD h1),pF (aD h2),pF h3,pF L1,pT L2,pP h1,pT (cL hc),pF (decide_eq_false a1),pF (gV a2),pF (decide_eq_false a3),pP h1,pF (ci a4)] (by kernel_rfl)
theorem Y4(e f:Ed)(h1:e.ok=true)(h2:f.ok=true)(h3:(!(bK e f==0))=false)(L1:dk [.b (e.k==1),.b (f.k==1)] [.b true,.b false]=false)(L2:dk [.b (e.k==1),.b (f.k==1)] [.b false,.b true]=true)(ke:¬e.k=1)(IN:jY e f=(kR f e).map Pr.swap)(hc:¬0<cF f e):ae Tryz.prog 94 [aO e 3 aC,aO f 3 aC] (oP (a8 (nh e f))):=by
 rcases BW (l:=f) (a:=e) h2 h1 ke (0-(f.by'-f.ay)) (f.bx-f.ax) (by rw[if_neg hc]) (by rw[if_neg hc]) with⟨a1,a9⟩|⟨a1,a2,a9⟩|⟨a1,a2,a3,a9⟩|⟨a1,a2,a3,a4,a9⟩|⟨a1,a2,a3,a4,a9⟩
 ·rw [eA e f (l := _) (by rw [IN, a9])];exact ad KE [false,false,false,false,true,false,true] [pF (aD h1),pF (aD h2),pF h3,pF L1,pT L2,pP h1,pF (bU hc),pT (decide_eq_true a1)] (by kernel_rfl)
 ·rw [eA e f (l := _) (by rw [IN, a9])];exact ad KE [false,false,false,false,true,false,false,true] [pF (aD h1),pF (aD h2),pF h3,pF L1,pT L2,pP h1,pF (bU hc),pF (decide_eq_false a1),pT (mH a2)] (by kernel_rfl)
 ·rw [eA e f (l := _) (by rw [IN, a9])];exact ad KE [false,false,false,false,true,false,false,false,true] [pF (aD h1),pF (aD h2),pF h3,pF L1,pT L2,pP h1,pF (bU hc),pF (decide_eq_false a1),pF (gV a2),pT (decide_eq_true a3)] (by kernel_rfl)
 ·rw [eA e f (l := _) (by rw [IN, a9])];exact ad KE [false,false,false,false,true,false,false,false,false,true] [pF (aD h1),pF (aD h2),pF h3,pF L1,pT L2,pP h1,pF (bU hc),pF (decide_eq_false a1),pF (gV a2),pF (decide_eq_false a3),pP h1,pT (lL a4)] (by kernel_rfl)
 ·rw [eA e f (l := _) (by rw [IN, a9])];exact ad KE [false,false,false,false,true,false,false,false,false,false] [pF (aD h1),pF (aD h2),pF h3,pF L1,pT L2,pP h1,pF (bU hc),pF (decide_eq_false a1),pF (gV a2),pF (decide_eq_false a3),pP h1,pF (ci a4)] (by kernel_rfl)
def mL(e f:Ed):Int:=jv (f.cx-e.cx) (f.cy-e.cy)
def wF(e f:Ed)(x y u v:Int)(d:Rt):List Pr:=if eF e x y&&eF f u v then [⟨d,⟨e.cx,e.cy,x,y,0,0,az e⟩,⟨f.cx,f.cy,u,v,0,0,az f⟩⟩] else []
theorem Br(e f:Ed):vh e f=if (az e+az f)*(az e+az f)<mL e f then wF e f (f.cx-e.cx) (f.cy-e.cy) (0-(f.cx-e.cx)) (0-(f.cy-e.cy)) (dR (0-az e-az f) 1 (mL e f) 1)
  else if (az e-az f)*(az e-az f)<=mL e f then []
  else if az f<az e then wF e f (f.cx-e.cx) (f.cy-e.cy) (f.cx-e.cx) (f.cy-e.cy) (dR (az e-az f) (-1) (mL e f) 1)
  else wF e f (0-(f.cx-e.cx)) (0-(f.cy-e.cy)) (0-(f.cx-e.cx)) (0-(f.cy-e.cy)) (dR (az f-az e) (-1) (mL e f) 1):=by
 simp only[EG];rfl
theorem Y6(e f:Ed)(h1:e.ok=true)(h2:f.ok=true)(h3:(!(bK e f==0))=false)(L1:dk [.b (e.k==1),.b (f.k==1)] [.b true,.b false]=false)(L2:dk [.b (e.k==1),.b (f.k==1)] [.b false,.b true]=false)(L3:dk [.b (e.k==1),.b (f.k==1)] [.b false,.b false]=true)(IN:jY e f=vh e f)(g:(az e+az f)*(az e+az f)<mL e f):ae Tryz.prog 94 [aO e 3 aC,aO f 3 aC] (oP (a8 (nh e f))):=by
 have C:=Br e f;rw[if_pos g] at C;unfold wF at C;cases q1:eF e (f.cx-e.cx) (f.cy-e.cy) with|false =>
  rw[eA e f (l:=[]) (by rw[IN,C,q1];rfl)];exact ad KE [false,false,false,false,false,true,true,true] [pF (aD h1),pF (aD h2),pF h3,pF L1,pF L2,pT L3,pP h1,pP h2,pT (cL g),pP h1,pT (lL q1)] (by kernel_rfl)|true =>
  cases q2:eF f (0-(f.cx-e.cx)) (0-(f.cy-e.cy)) with|false =>
   rw[eA e f (l:=[]) (by rw[IN,C,q1,q2];rfl)];exact ad KE [false,false,false,false,false,true,true,false,true] [pF (aD h1),pF (aD h2),pF h3,pF L1,pF L2,pT L3,pP h1,pP h2,pT (cL g),pP h1,pF (ci q1),pP h2,pT (lL q2)] (by kernel_rfl)|true =>
   rw[eA e f (l:=_) (by rw[IN,C,q1,q2,Bool.and_self,if_pos rfl])];exact ad KE [false,false,false,false,false,true,true,false,false] [pF (aD h1),pF (aD h2),pF h3,pF L1,pF L2,pT L3,pP h1,pP h2,pT (cL g),pP h1,pF (ci q1),pP h2,pF (ci q2)] (by kernel_rfl)
theorem Y7(e f:Ed)(h1:e.ok=true)(h2:f.ok=true)(h3:(!(bK e f==0))=false)(L1:dk [.b (e.k==1),.b (f.k==1)] [.b true,.b false]=false)(L2:dk [.b (e.k==1),.b (f.k==1)] [.b false,.b true]=false)(L3:dk [.b (e.k==1),.b (f.k==1)] [.b false,.b false]=true)(IN:jY e f=vh e f)(g:¬(az e+az f)*(az e+az f)<mL e f)(g2:¬(az e-az f)*(az e-az f)<=mL e f)(g3:az f<az e):ae Tryz.prog 94 [aO e 3 aC,aO f 3 aC] (oP (a8 (nh e f))):=by
 have C:=Br e f;rw[if_neg g,if_neg g2,if_pos g3] at C;unfold wF at C;cases q1:eF e (f.cx-e.cx) (f.cy-e.cy) with|false =>
  rw[eA e f (l:=[]) (by rw[IN,C,q1];rfl)];exact ad KE [false,false,false,false,false,true,false,false,true,true] [pF (aD h1),pF (aD h2),pF h3,pF L1,pF L2,pT L3,pP h1,pP h2,pF (bU g),pF (gV g2),pT (cL g3),pP h1,pT (lL q1)] (by kernel_rfl)|true =>
  cases q2:eF f (f.cx-e.cx) (f.cy-e.cy) with|false =>
   rw[eA e f (l:=[]) (by rw[IN,C,q1,q2];rfl)];exact ad KE [false,false,false,false,false,true,false,false,true,false,true] [pF (aD h1),pF (aD h2),pF h3,pF L1,pF L2,pT L3,pP h1,pP h2,pF (bU g),pF (gV g2),pT (cL g3),pP h1,pF (ci q1),pP h2,pT (lL q2)] (by kernel_rfl)|true =>
   rw[eA e f (l:=_) (by rw[IN,C,q1,q2,Bool.and_self,if_pos rfl])];exact ad KE [false,false,false,false,false,true,false,false,true,false,false] [pF (aD h1),pF (aD h2),pF h3,pF L1,pF L2,pT L3,pP h1,pP h2,pF (bU g),pF (gV g2),pT (cL g3),pP h1,pF (ci q1),pP h2,pF (ci q2)] (by kernel_rfl)
theorem Y8(e f:Ed)(h1:e.ok=true)(h2:f.ok=true)(h3:(!(bK e f==0))=false)(L1:dk [.b (e.k==1),.b (f.k==1)] [.b true,.b false]=false)(L2:dk [.b (e.k==1),.b (f.k==1)] [.b false,.b true]=false)(L3:dk [.b (e.k==1),.b (f.k==1)] [.b false,.b false]=true)(IN:jY e f=vh e f)(g:¬(az e+az f)*(az e+az f)<mL e f)(g2:¬(az e-az f)*(az e-az f)<=mL e f)(g3:¬az f<az e):ae Tryz.prog 94 [aO e 3 aC,aO f 3 aC] (oP (a8 (nh e f))):=by
 have C:=Br e f;rw[if_neg g,if_neg g2,if_neg g3] at C;unfold wF at C;cases q1:eF e (0-(f.cx-e.cx)) (0-(f.cy-e.cy)) with|false =>
  rw[eA e f (l:=[]) (by rw[IN,C,q1];rfl)];exact ad KE [false,false,false,false,false,true,false,false,false,true] [pF (aD h1),pF (aD h2),pF h3,pF L1,pF L2,pT L3,pP h1,pP h2,pF (bU g),pF (gV g2),pF (bU g3),pP h1,pT (lL q1)] (by kernel_rfl)|true =>
  cases q2:eF f (0-(f.cx-e.cx)) (0-(f.cy-e.cy)) with|false =>
   rw[eA e f (l:=[]) (by rw[IN,C,q1,q2];rfl)];exact ad KE [false,false,false,false,false,true,false,false,false,false,true] [pF (aD h1),pF (aD h2),pF h3,pF L1,pF L2,pT L3,pP h1,pP h2,pF (bU g),pF (gV g2),pF (bU g3),pP h1,pF (ci q1),pP h2,pT (lL q2)] (by kernel_rfl)|true =>
   rw[eA e f (l:=_) (by rw[IN,C,q1,q2,Bool.and_self,if_pos rfl])];exact ad KE [false,false,false,false,false,true,false,false,false,false,false] [pF (aD h1),pF (aD h2),pF h3,pF L1,pF L2,pT L3,pP h1,pP h2,pF (bU g),pF (gV g2),pF (bU g3),pP h1,pF (ci q1),pP h2,pF (ci q2)] (by kernel_rfl)
theorem Za(e f:Ed)(h1:e.ok=true)(h2:f.ok=true)(h3:(!(bK e f==0))=false):ae Tryz.prog 94 [aO e 3 aC,aO f 3 aC] (oP (a8 (nh e f))):=by
 by_cases ke:e.k=1<;>by_cases kf:f.k=1
 ·have L1 : dk [.b (e.k == 1), .b (f.k == 1)] [.b true, .b false] = false := by rw [ke, kf]; rfl
  have L2:dk [.b (e.k==1),.b (f.k==1)] [.b false,.b true]=false:=by rw[ke,kf];rfl
  have L3:dk [.b (e.k==1),.b (f.k==1)] [.b false,.b false]=false:=by rw[ke,kf];rfl
  rw[eA e f (l:=[]) (by unfold jY;rw[if_pos ke,if_pos kf])];exact ad KE [false,false,false,false,false,false] [pF (aD h1),pF (aD h2),pF h3,pF L1,pF L2,pF L3] (by kernel_rfl)
 ·have L1 : dk [.b (e.k == 1), .b (f.k == 1)] [.b true, .b false] = true := by rw [ke, show (f.k == 1) = false by simpa using kf]; rfl
  have IN:jY e f=kR e f:=by unfold jY;rw[if_pos ke,if_neg kf]
  by_cases hc:0<cF e f
  ·exact Y3 e f h1 h2 h3 L1 kf IN hc
  ·exact Y2 e f h1 h2 h3 L1 kf IN hc
 ·have L1 : dk [.b (e.k == 1), .b (f.k == 1)] [.b true, .b false] = false := by rw [kf, show (e.k == 1) = false by simpa using ke]; rfl
  have L2:dk [.b (e.k==1),.b (f.k==1)] [.b false,.b true]=true:=by rw[kf,show (e.k==1)=false by simpa using ke];rfl
  have IN:jY e f=(kR f e).map Pr.swap:=by unfold jY;rw[if_neg ke,if_pos kf]
  by_cases hc:0<cF f e
  ·exact Y5 e f h1 h2 h3 L1 L2 ke IN hc
  ·exact Y4 e f h1 h2 h3 L1 L2 ke IN hc
 ·have L1 : dk [.b (e.k == 1), .b (f.k == 1)] [.b true, .b false] = false := by rw [show (e.k == 1) = false by simpa using ke]; rfl
  have L2:dk [.b (e.k==1),.b (f.k==1)] [.b false,.b true]=false:=by rw[show (e.k==1)=false by simpa using ke,show (f.k==1)=false by simpa using kf];rfl
  have L3:dk [.b (e.k==1),.b (f.k==1)] [.b false,.b false]=true:=by rw[show (e.k==1)=false by simpa using ke,show (f.k==1)=false by simpa using kf];rfl
  have IN:jY e f=vh e f:=by unfold jY;rw[if_neg ke,if_neg kf]
  by_cases g:(az e+az f)*(az e+az f)<mL e f
  ·exact Y6 e f h1 h2 h3 L1 L2 L3 IN g
  ·by_cases g2 : (az e - az f) * (az e - az f) <= mL e f
   ·rw [eA e f (l := []) (by rw [IN, Br, if_neg g, if_pos g2])];exact ad KE [false,false,false,false,false,true,false,true] [pF (aD h1),pF (aD h2),pF h3,pF L1,pF L2,pT L3,pP h1,pP h2,pF (bU g),pT (mH g2)] (by kernel_rfl)
   ·by_cases g3 : az f < az e
    ·exact Y7 e f h1 h2 h3 L1 L2 L3 IN g g2 g3
    ·exact Y8 e f h1 h2 h3 L1 L2 L3 IN g g2 g3
def Wh:ah where
 f:=94
 g:=λ| [⟨true,l⟩,⟨true,m⟩]=>(match eK l,eK m with|some e,some f=>some (oP (gC e f),[])|_,_=>none)|_=>none
 ok:=by
  intro args res ps h hp
  split at h<;>try cases h
  split at h<;>cases h
  rename_i e f he hf
  cases hc:(e.ok&&f.ok&&(bK e f==0)) with
  | false =>
   rw[show gC e f=⟨Rt.no,Sp.no,Sp.no⟩ by unfold gC;rw[if_pos];revert hc;cases e.ok<;>cases f.ok<;>simp]
   exact (Y9 e f hc).pre λW=>aU (ql he) (aU (ql hf) dY)
  | true =>
   simp only[Bool.and_eq_true] at hc
   rw[show gC e f=a8 (nh e f) by unfold gC;rw[if_neg];rw[hc.1.1,hc.1.2,hc.2];decide]
   exact (Za e f hc.1.1 hc.1.2 (by rw[hc.2];rfl)).pre λW=>aU (nu he hc.1.1) (aU (nu hf hc.1.2) dY)
end
end Go.Proofs.YtghemgdfmldoeaaGreat
