import Derived.Test.YtghemgdfmldoeaaGreatP21
import Derived.ChangeKeysEq
set_option linter.unusedVariables false
set_option linter.unusedSimpArgs false
namespace Go.Proofs.YtghemgdfmldoeaaGreat
open Go.RowKit
abbrev mZ(n:Bool)(p:Option Addr)(l c:Nat):Value:=.agg #[.bool n,.slice p l c]
def a1H(f:FuncId)(H:∀(z:Int) (w:World),-9223372036854775808<=z->z<=9223372036854775807->Calls Tryz.prog f #[.int .i64 z] w (kJ w (ai z))):ah where
 f:=f;g:=λ| [⟨false,[.i z _]⟩]=>some (.one (nM (ai z)),[])|_=>none
 ok:=by
  intro args res ps h _;split at h<;>cases h;intro W vals hv;simp only[aK,iL,dL] at hv;obtain⟨_,⟨⟨_,h1,h2⟩,rfl⟩,_,rfl,rfl⟩:=hv;exact (H _ W h1 h2).mono λ_ _ h=>a0g h
def a1I(f:FuncId)(H:∀(a:Nm) (n:Bool) (p:Option Addr) (l c:Nat) (w:World),NR w n p l c a->Calls Tryz.prog f #[mZ n p l c] w λe w'=>e=.returned (.bool a.right)/\ac w w'):ah where
 f:=f;g:=λ| [⟨true,[.d (.num a)]⟩]=>some (.one (aN a.right),[])|_=>none
 ok:=by
  intro args res ps h _;split at h<;>cases h;intro W vals hv;simp only[aK,iL,bL,js,fh] at hv;obtain⟨_,⟨_,⟨n,p,l,c,h1,_,rfl,rfl⟩,rfl⟩,_,rfl,rfl⟩:=hv;exact (H _ _ _ _ _ W h1).mono λ_ _ h=>Hl h
theorem KX{W:World}{a b:Nm}{vals:List Value}(hv:aV W W (λ_=>0) 0 [⟨true,[.d (.num a)]⟩,⟨true,[.d (.num b)]⟩] vals):∃n p l c m q k d,vals=[mZ n p l c,mZ m q k d]/\NR W n p l c a/\NR W m q k d b:=by
 simp only[aK,iL,bL,js,fh] at hv;obtain⟨_,⟨_,⟨n,p,l,c,h1,_,rfl,rfl⟩,rfl⟩,_,rfl,_,⟨_,⟨m,q,k,d,h2,_,rfl,rfl⟩,rfl⟩,_,rfl,rfl⟩:=hv;exact⟨n,p,l,c,m,q,k,d,rfl,h1,h2⟩
def Qi(f:FuncId)(G:Nm->Nm->Nm×Bool)(S:Nm->Nm->List Prop)(H:∀(a b:Nm) (n m:Bool) (p q:Option Addr) (l c k d:Nat) (w:World),aw (S a b)->NR w n p l c a->NR w m q k d b->Calls Tryz.prog f #[mZ n p l c,mZ m q k d] w (jR w (G a b))):ah where
 f:=f;g:=λ| [⟨true,[.d (.num a)]⟩,⟨true,[.d (.num b)]⟩]=>some (.tup [nM (G a b).1,aN (G a b).2],S a b)|_=>none
 ok:=by
  intro args res ps h hp;split at h<;>cases h;intro W vals hv;obtain⟨_,_,_,_,_,_,_,_,rfl,h1,h2⟩:=KX hv;exact (H _ _ _ _ _ _ _ _ _ _ W hp h1 h2).mono λ_ _ h=>a0f h
theorem XC(a b:Nm):(ej a b).natAbs<=1/\I64 (ej a b):=by
 have h : -1<=ej a b/\ej a b<=1:=by
  unfold ej;split
  ·exact FZ _ _
  ·omega
 exact⟨by omega,by unfold I64;omega⟩
def a1F(f:FuncId)(H:∀(a b:Nm) (n m:Bool) (p q:Option Addr) (l c k d:Nat) (w:World),NR w n p l c a->NR w m q k d b->Calls Tryz.prog f #[mZ n p l c,mZ m q k d] w λe w'=>e=.returned (.int .i64 (ej a b))/\ac w w'):ah where
 f:=f;g:=λ| [⟨true,[.d (.num a)]⟩,⟨true,[.d (.num b)]⟩]=>some (.one (aj (ej a b) 1),[])|_=>none
 ok:=by
  intro args res ps h _;split at h<;>cases h;intro W vals hv;obtain⟨_,_,_,_,_,_,_,_,rfl,h1,h2⟩:=KX hv;exact (H _ _ _ _ _ _ _ _ _ _ W h1 h2).mono λ_ _ h=>tW (XC _ _) h
def a1G(f:FuncId)(H:∀(a b:Nm) (n m:Bool) (p q:Option Addr) (l c k d:Nat) (w:World),NR w n p l c a->NR w m q k d b->Calls Tryz.prog f #[mZ n p l c,mZ m q k d] w (tl w (iz a b))):ah where
 f:=f;g:=λ| [⟨true,[.d (.num a)]⟩,⟨true,[.d (.num b)]⟩]=>some (.tup [nM (iz a b).1,nM (iz a b).2.1,aN (iz a b).2.2],[])|_=>none
 ok:=by
  intro args res ps h _;split at h<;>cases h;intro W vals hv;obtain⟨_,_,_,_,_,_,_,_,rfl,h1,h2⟩:=KX hv;refine (H _ _ _ _ _ _ _ _ _ _ W h1 h2).mono λe w' h=>?_
  obtain⟨n,p,l,c,m,q,k,d,rfl,h1,h2,_,_,h3⟩:=h;exact⟨_,rfl,⟨[_,_,_],rfl,aK.2 ⟨_,bL.2 ⟨_,js.2 ⟨n,p,l,c,h1,_,rfl,rfl⟩,rfl⟩,_,rfl,aK.2 ⟨_,bL.2 ⟨_,js.2 ⟨m,q,k,d,h2,_,rfl,rfl⟩,rfl⟩,_,rfl,aK.2 ⟨_,lg.2 ⟨rfl,rfl⟩,_,rfl,rfl⟩⟩⟩⟩,h3⟩
theorem a2z{add s:Int}{n d:Nm}(hd:ao d.d)(hb:j9 s n d=false)(h0:¬(s=0\/n.z=0)) :
  dc add s n d=if 8<max (iz n (jX n d).1).1.d.length (iz d (jX n d).1).1.d.length then (Rt.no,false) else (⟨add,s,(iz n (jX n d).1).1,(iz d (jX n d).1).1⟩,true):=by
 obtain⟨s1,s2,rn,rd,nn,dp⟩:=q9Q hb;have en:=Ao nn;obtain⟨ed,pd⟩:=Gj dp;have gp:0<Nat.gcd (val n.d) (val d.d):=Nat.gcd_pos_of_pos_right _ pd;have rg:small ((Nat.gcd (val n.d) (val d.d):Nat):Int)=true:=by
  refine wU hd rd ?_;rw[Int.natAbs_natCast];exact Nat.gcd_le_right _ pd
 rw[ZZ rn rd,N8 rn rg gp,N8 rd rg gp];unfold dc yE;rw[hb,if_neg (by simp),if_neg h0]
def Wx:ah:=a1I 138 λa _ _ _ _ w h=>c9 a _ _ _ _ w h
def Wu:ah:=a1F 145 λa b _ _ _ _ _ _ _ _ w h1 h2=>CH a b _ _ _ _ _ _ _ _ w h1 h2
def ve:ah:=a1H 96 λz w h1 h2=>CN z w h1 h2
def Ww:ah:=Qi 140 jX (λ_ b=>[b.right=true]) λa b _ _ _ _ _ _ _ _ w h h1 h2=>Z1 a b _ _ _ _ _ _ _ _ _ w h1 h2 h.1 rfl
def Wv:ah:=a1G 141 λa b _ _ _ _ _ _ _ _ w h1 h2=>YL a b _ _ _ _ _ _ _ _ _ w h1 h2 rfl
def WE:ah where
 f:=139;g:=λ| [⟨true,[.d (.num a)]⟩]=>some (.one (aj (sgn a.z) 1),[a.right=true])|_=>none
 ok:=by
  intro args res ps h hp;split at h<;>cases h;rename_i a;intro W vals hv;simp only[aK,iL,bL,js,fh] at hv;obtain⟨_,⟨_,⟨n,p,l,c,h1,_,rfl,rfl⟩,rfl⟩,_,rfl,rfl⟩:=hv;refine (D6 _ _ _ _ _ W h1 hp.1).mono λ_ _ h=>tW ?_ h
  have:=Ee a.z;exact⟨by omega,by unfold I64;omega⟩
def ot:List ah:=[Wx,ve,Ww,Wv,WE]
set_option maxRecDepth 100000
section
def dX(r:Rt):V1:=⟨true,[.i r.add lim,.i r.s lim,.d (.num r.n),.d (.num r.d)]⟩
abbrev sV(r:Rt×Bool):AV:=.tup [dX r.1,aN r.2]
theorem wc{add s:Int}{n d:Nm}(h:j9 s n d=true):dc add s n d=(Rt.no,false):=by unfold dc;rw[h];rfl
theorem QH{add s:Int}{n d:Nm}(h:j9 s n d=false)(h0:s=0\/n.z=0):dc add s n d=(⟨add,0,zero,ai 1⟩,true):=by unfold dc;rw[h,if_neg (by decide),if_pos h0]
theorem zY{z:Int}(b:Bool)(h:decide (z<=0)=b):decide (sgn z<=0)=b:=by
 rw[<- h,decide_eq_decide];rcases lT z with⟨h,g⟩|⟨h,g⟩|⟨h,g⟩<;>omega
theorem Kv{z:Int}(b:Bool)(h:(z==0)=b):(sgn z==0)=b:=by
 rw[<- h,Bool.eq_iff_iff,beq_iff_eq,beq_iff_eq];rcases lT z with⟨h,g⟩|⟨h,g⟩|⟨h,g⟩<;>omega
theorem hZ{b:Bool}(h:b=true):(!b)=false:=by rw[h];rfl
theorem vY{b:Bool}(h:b=false):(!b)=true:=by rw[h];rfl
theorem tu{s:Int}{n d:Nm}:j9 s n d=(decide (s < -1)||(decide (s>1)||(!n.right||(!d.right||(n.neg||decide (d.z<=0)))))):=by
 unfold j9;simp only[Bool.or_assoc,gt_iff_lt]
theorem PZ{x y:List Nat}{b:Bool}(h:decide (8<max x.length y.length)=b):decide (max (x.length:Int) (y.length:Int)>8)=b:=by
 rw[<- h,decide_eq_decide];omega
theorem a5k(add s:Int)(n d:Nm)(dd:ao d.d):ae Tryz.prog 95 [aj add lim,aj s lim,nM n,nM d] (sV (dc add s n d)):=by
 cases h1:decide (s < -1) with|true =>
  rw[wc (by rw[tu,h1];rfl)];exact ad ot [true] [pT h1] (by kernel_rfl)|false =>
 cases h2:decide (s>1) with|true =>
  rw[wc (by rw[tu,h1,h2];rfl)];exact ad ot [false,true] [pF h1,pT h2] (by kernel_rfl)|false =>
 cases h3:n.right with|false =>
  rw[wc (by rw[tu,h1,h2,h3];rfl)];exact ad ot [false,false,true] [pF h1,pF h2,pT (vY h3)] (by kernel_rfl)|true =>
 cases h4:d.right with|false =>
  rw[wc (by rw[tu,h1,h2,h3,h4];rfl)];exact ad ot [false,false,false,true] [pF h1,pF h2,pF (hZ h3),pT (vY h4)] (by kernel_rfl)|true =>
 cases h5:n.neg with|true =>
  rw[wc (by rw[tu,h1,h2,h3,h4,h5];rfl)];exact ad ot [false,false,false,false,true] [pF h1,pF h2,pF (hZ h3),pF (hZ h4),pT h5] (by kernel_rfl)|false =>
 cases h6:decide (d.z<=0) with|true =>
  rw[wc (by rw[tu,h1,h2,h3,h4,h5,h6];rfl)];exact ad ot [false,false,false,false,false,true] [pF h1,pF h2,pF (hZ h3),pF (hZ h4),pF h5,pP h4,pT (zY _ h6)] (by kernel_rfl)|false =>
 have hb:j9 s n d=false:=by rw[tu,h1,h2,h3,h4,h5,h6];rfl
 cases h7:(s==0) with|true =>
  rw[QH hb (.inl (by simpa using h7))];exact ad ot [false,false,false,false,false,false,true] [pF h1,pF h2,pF (hZ h3),pF (hZ h4),pF h5,pP h4,pF (zY _ h6),pT h7] (by kernel_rfl)|false =>
 cases h8:(n.z==0) with|true =>
  rw[QH hb (.inr (by simpa using h8))];exact ad ot [false,false,false,false,false,false,false,true] [pF h1,pF h2,pF (hZ h3),pF (hZ h4),pF h5,pP h4,pF (zY _ h6),pF h7,pP h3,pT (Kv _ h8)] (by kernel_rfl)|false =>
 rw[a2z dd hb (λh=>h.elim (λh=>by rw[h] at h7;cases h7) (λh=>by rw[h] at h8;cases h8))];cases h9:decide (8<max (iz n (jX n d).1).1.d.length (iz d (jX n d).1).1.d.length) with|true =>
  rw[if_pos (of_decide_eq_true h9)];exact ad ot [false,false,false,false,false,false,false,false,true] [pF h1,pF h2,pF (hZ h3),pF (hZ h4),pF h5,pP h4,pF (zY _ h6),pF h7,pP h3,pF (Kv _ h8),pP h4,pT (PZ h9)] (by kernel_rfl)|false =>
  rw[if_neg (of_decide_eq_false h9)];exact ad ot [false,false,false,false,false,false,false,false,false] [pF h1,pF h2,pF (hZ h3),pF (hZ h4),pF h5,pP h4,pF (zY _ h6),pF h7,pP h3,pF (Kv _ h8),pP h4,pF (PZ h9)] (by kernel_rfl)
theorem zQ{V W:World}{r:Nat->Nat}{k:Nat}{a s:Int}{A S:Nat}{n d:Nm}{v:Value}:au V W r k ⟨true,[.i a A,.i s S,.d (.num n),.d (.num d)]⟩ v->au V W r k (dX ⟨a,s,n,d⟩) v/\ao n.d/\ao d.d/\I64 a:=by
 intro hv;simp only[bL,bi,js,fh] at hv;obtain⟨_,⟨⟨_,i1⟩,_,rfl,⟨_,i2⟩,_,rfl,n1,p1,l1,c1,h1,_,rfl,m1,q1,k1,d1,h2,_,rfl,rfl⟩,rfl⟩:=hv;exact⟨bL.2 ⟨_,bi.2 ⟨aP i1,_,rfl,bi.2 ⟨aP i2,_,rfl,js.2 ⟨n1,p1,l1,c1,h1,_,rfl,js.2 ⟨m1,q1,k1,d1,h2,_,rfl,rfl⟩⟩⟩⟩,rfl⟩,h1.2.2.dig,h2.2.2.dig,i1⟩
theorem a1R{V W:World}{r:Nat->Nat}{k:Nat}{d:Nm}{v:Value}(hv:au V W r k ⟨true,[.d (.num d)]⟩ v):ao d.d:=by
 obtain⟨_,hw,_⟩:=bL.1 hv;obtain⟨m1,q1,k1,d1,h2,_⟩:=js.1 hw;exact h2.2.2.dig
theorem B5{V W:World}{r:Nat->Nat}{k:Nat}{z:Int}{A:Nat}:∀v,au V W r k ⟨false,[.i z A]⟩ v->au V W r k (aj z lim) v:=λv hv=>by
 obtain⟨h1,rfl⟩:=dL.1 hv;exact dL.2 ⟨aP h1.2,rfl⟩
def ofC(f:FuncId)(H:∀(add s:Int) (n d:Nm),ao d.d->ae Tryz.prog f [aj add lim,aj s lim,nM n,nM d] (sV (dc add s n d))):ah where
 f:=f;g:=λ| [⟨false,[.i a _]⟩,⟨false,[.i s _]⟩,⟨true,[.d (.num n)]⟩,⟨true,[.d (.num d)]⟩]=>some (sV (dc a s n d),[])|_=>none
 ok:=by
  intro args res ps h hp;split at h<;>cases h;rename_i a _ s _ n d;intro W vals hv;have dd:ao d.d:=by
   obtain⟨_,_,_,_,h1⟩:=aK.1 hv;obtain⟨_,_,_,_,h2⟩:=aK.1 h1;obtain⟨_,_,_,_,h3⟩:=aK.1 h2;obtain⟨_,h4,_⟩:=aK.1 h3;exact a1R h4
  exact H a s n d dd W vals (aU B5 (aU B5 λ_ h=>h) _ hv)
def xZ:ah:=ofC 95 a5k
def Az:List ah:=[xZ,Wu]
theorem Tf(a:Rt):ae Tryz.prog 98 [dX a] (.one (aN a.right)):=by
 unfold Rt.right;cases h1:(dc a.add a.s a.n a.d).2 with|false=>exact ad Az [false] [pF h1] (by kernel_rfl)|true =>
 cases h2:((dc a.add a.s a.n a.d).1.s==a.s) with|false=>exact ad Az [true,false] [pT h1,pF h2] (by kernel_rfl)|true =>
 cases h3:(ej a.n (dc a.add a.s a.n a.d).1.n==0) with|false=>exact ad Az [true,true,false] [pT h1,pT h2,pF h3] (by kernel_rfl)|true=>exact ad Az [true,true,true] [pT h1,pT h2,pT h3] (by kernel_rfl)
def a4P(f:FuncId)(H:∀a:Rt,ao a.n.d/\ao a.d.d->ae Tryz.prog f [dX a] (.one (aN a.right))):ah where
 f:=f;g:=λ| [⟨true,[.i a _,.i s _,.d (.num n),.d (.num d)]⟩]=>some (.one (aN (Rt.right ⟨a,s,n,d⟩)),[])|_=>none
 ok:=by
  intro args res ps h hp;split at h<;>cases h;rename_i a _ s _ n d;intro W vals hv;obtain⟨_,hx,_,rfl,hw⟩:=aK.1 hv;cases hw;obtain⟨k1,k2,k3,_⟩:=zQ hx;exact H ⟨a,s,n,d⟩ ⟨k2,k3⟩ W _ (aK.2 ⟨_,k1,_,rfl,rfl⟩)
def FO:ah:=a4P 98 λa _=>Tf a
end
set_option maxRecDepth 100000
section
def jn(e:Nat->Ed)(j:Nat):Bool:=(e (j+1)).ax==(e j).bx&&(e (j+1)).ay==(e j).by'
def TS(f:FuncId)(g:Sh->AV)(c:Sh->List Prop)(h:∀s,aw (c s)->ae Tryz.prog f [bh s] (g s)):ah where
 f:=f
 g:=λ| [⟨true,l⟩]=>(oe l).map λz=>(g z.1,z.2++c z.1)|_=>none
 ok:=by
  intro args res ps h' hp
  split at h'<;>try cases h'
  rename_i l
  cases he:oe l with
  | none=>simp[he] at h'
  | some z =>
   obtain⟨s,ps1⟩:=z
   simp only[he,Option.map_some,Option.some.injEq,Prod.mk.injEq] at h'
   obtain⟨rfl,rfl⟩:=h'
   obtain⟨p1,p2⟩:=aw.app hp
   exact (h s p2).pre λW=>aU (λv hv=>wZ he p1 hv) dY
end
set_option maxRecDepth 100000
section
def jA(e:Nat->Ed):Nat->Int
 | 0=>0|n+1=>if jA e n=0 then ei (e n) else jA e n
theorem BO{e:Nat->Ed}:∀ {n:Nat},jA e n=0->∀k,k<n->ei (e k)=0
 | 0,_,k,hk=>absurd hk (Nat.not_lt_zero k)|n+1,h,k,hk=>by
  unfold jA at h;split at h
  ·rename_i h1;rcases Nat.lt_or_eq_of_le (Nat.le_of_lt_succ hk) with g|g
   ·exact BO h1 k g
   ·rw[g];exact h
  ·rename_i h1;exact absurd h h1
theorem G1{e:Nat->Ed}:∀ {n:Nat},jA e n≠0->∃m,m<n/\jA e n=ei (e m)/\∀k,k<m->ei (e k)=0
 | 0,h=>absurd rfl h|n+1,h=>by
  unfold jA at h ⊢;by_cases h1:jA e n=0
  ·rw [if_pos h1] at h ⊢;exact⟨n,by omega,rfl,BO h1⟩
  ·rw [if_neg h1] at h ⊢;obtain⟨m,k1,k2⟩:=G1 h1;exact⟨m,by omega,k2⟩
def vj(s:Sh):Bool:=(s.e 0).ax==(s.e (s.n-1)).bx&&(s.e 0).ay==(s.e (s.n-1)).by'
def gG(s:Sh):Int:=if s.k=1 then 1 else 2
def bD(s:Sh):Int :=
 if s.k≠1/\s.k≠2 then 12 else if (s.n:Int)<gG s then 12 else if 40<s.n then 2 else if jA s.e s.n≠0 then jA s.e s.n else if eh (jn s.e) (s.n-1)=false\/(s.k=2/\vj s=false) then 12 else if s.k=2/\s.r≠0\/s.r<0\/4194304<s.r then 3 else 0
def lU(s:Sh):List (Option Mb):=[some ⟨30,(bh s).l⟩]
def fk(s:Sh):List Pf:=[⟨s.k=s.k,rfl⟩,⟨pE s.n s.e=pE s.n s.e,rfl⟩,⟨s.r=s.r,rfl⟩]
def bN(s:Sh):Pf:=⟨∀i,i<s.n->qz (cV (s.e i))=true,λ_ _=>rfl⟩
theorem eu{a b:Int}(h:a<b):decide (a<b)=true:=by simpa using h
theorem aR{a b:Int}(h:¬a<b):decide (a<b)=false:=by simpa using h
theorem ae.vS{f:FuncId}{args:List V1}{a b:Int}{B:Nat}(h:a=b)(H:ae Tryz.prog f args (.one (aj b B))):ae Tryz.prog f args (.one (aj a B)):=h ▸ H
end
set_option maxRecDepth 100000
section
def iM(e:Nat->Ed):Nat->Int
 | 0=>min (e 0).ax (e 0).bx|k+1=>min (iM e k) (min (e (k+1)).ax (e (k+1)).bx)
def jc(e:Nat->Ed):Nat->Int
 | 0=>min (e 0).ay (e 0).by'|k+1=>min (jc e k) (min (e (k+1)).ay (e (k+1)).by')
def jw(e:Nat->Ed):Nat->Int
 | 0=>max (e 0).ax (e 0).bx|k+1=>max (jw e k) (max (e (k+1)).ax (e (k+1)).bx)
def jO(e:Nat->Ed):Nat->Int
 | 0=>max (e 0).ay (e 0).by'|k+1=>max (jO e k) (max (e (k+1)).ay (e (k+1)).by')
def uE(a b c d:Int):V1:=⟨true,[.i a lim,.i b lim,.i c lim,.i d lim]⟩
def qc(s:Sh):V1:=if s.n=0 then uE 0 0 0 0 else
 uE (IntKind.i64.wrap (iM s.e (s.n-1)-s.r)) (IntKind.i64.wrap (jc s.e (s.n-1)-s.r)) (IntKind.i64.wrap (jw s.e (s.n-1)+s.r)) (IntKind.i64.wrap (jO s.e (s.n-1)+s.r))
def rcB(a b c d:Int):Option Mb:=some ⟨100,(uE a b c d).l⟩
def DN:Option Mb:=some ⟨100,[.k 0,.k 0,.k 0,.k 0]⟩
def ak(b:Nat):V1:=⟨false,[.p b 0]⟩
def xY(e:Nat->Ed)(k:Nat):List Pf:=[⟨iM e k=iM e k,rfl⟩,⟨jc e k=jc e k,rfl⟩,⟨jw e k=jw e k,rfl⟩,⟨jO e k=jO e k,rfl⟩]
def A8(e:Nat->Ed)(k:Nat):Option Mb:=rcB (iM e k) (jc e k) (jw e k) (jO e k)
def a3X(s:Sh)(j:Nat):Ds:=⟨[(4,.le (aj ((j+1:Nat):Int) 2000)),(1,.eq (ak 0)),(2,.eq (ak 1)),(3,.eq (ak 2))],lU s++[DN,A8 s.e j]⟩
theorem mB{a b:Int}(h:a=b):(a==b)=true:=by simpa using h
theorem kP{a b:Int}(h:a≠b):(a==b)=false:=by simpa using h
theorem a3Y(s:Sh)(hn:s.n<=1000):ae Tryz.prog 117 [bh s] (.one (qc s)):=by
 by_cases h0:s.n=0
 ·unfold qc;rw[if_pos h0];exact ad [] [true] [pT (mB (show (s.n:Int)=0 by omega))] (by kernel_rfl)
 ·unfold qc;rw[if_neg h0];have o:=bW (X:=[]) (K:=[]) (f:=117) (id:=10) (n:=nF 117) (s.n-1) (a3X s) (λ_=>[]) (e:=.ex 0) (d1:=⟨[(1,.eq (ak 0)),(2,.eq (ak 1)),(3,.eq (ak 2))],lU s++[DN,A8 s.e (s.n-1)]⟩) (by kernel_rfl) (λ_=>by kernel_rfl) (λ_ _=>LT.nil)
   (λk hk=>⟨[true],[pT (eu (show ((k+1:Nat):Int)<(s.n:Int) by omega)),pP (show 0<=((k+1:Nat):Int)/\((k+1:Nat):Int)<s.n by omega),pI (k+1) (by omega),pR (ak 0),pR (ak 1),pR (ak 2)]++fk s++xY s.e (k+1),by kernel_rfl⟩)
   ⟨[false],[pF (aR (show ¬((s.n-1+1:Nat):Int)<(s.n:Int) by omega)),pR (ak 0),pR (ak 1),pR (ak 2)]++fk s++xY s.e (s.n-1),by kernel_rfl⟩ nofun
  exact cD [] [] _ (LT.cons o LT.nil) [false] ([pF (kP (show (s.n:Int)≠0 by omega)),pP (show (0:Int)<=0/\(0:Int)<s.n by omega),⟨(1:Int)=((0+1:Nat):Int),rfl⟩,pR (ak 0),pR (ak 1),pR (ak 2)]++fk s++xY s.e 0) (by kernel_rfl)
end
theorem QJ{e:Ed}(h:e.ok=true)(hk:¬e.k=1):e.ax-e.cx=0\/e.ay-e.cy=0:=by
 have hq:((e.ax-e.cx==0) != (e.ay-e.cy==0))=true:=by
  simp only[Ed.ok,Bool.and_eq_true,if_neg hk] at h;have h2:=h.2;split at h2
  ·simp only [Ed.quarter, pz, Bool.and_eq_true] at h2;exact h2.1
  ·split at h2
   ·simp only [Ed.quarter, pz, Bool.and_eq_true] at h2;exact h2.1
   ·cases h2
 by_cases h1:e.ax-e.cx=0
 ·exact .inl h1
 ·by_cases h2 : e.ay - e.cy = 0
  ·exact .inr h2
  ·have e1 : (e.ax - e.cx == 0) = false := by simpa using h1
   have e2:(e.ay-e.cy==0)=false:=by simpa using h2
   rw[e1,e2] at hq;cases hq
theorem a4j{e:Ed}(h:e.ok=true)(hk:¬e.k=1):max (e.ax-e.cx) (-(e.ax-e.cx))+max (e.ay-e.cy) (-(e.ay-e.cy))=az e:=by
 have hkb:(e.k==1)=false:=by simpa using hk
 unfold az;rw[h,hkb];simp only[Bool.not_false,Bool.and_self,if_true];have:=QJ h hk;omega
theorem a4i{e:Ed}(h:e.ok=true)(hk:¬e.k=1):(e.ax-e.cx)*(e.ax-e.cx)+(e.ay-e.cy)*(e.ay-e.cy)=az e*az e:=by
 rw[<- a4j h hk];have mm:∀x:Int,max x (-x)*max x (-x)=x*x:=by
  intro x;rcases Int.le_total 0 x with h|h
  ·rw[show max x (-x)=x by omega]
  ·rw[show max x (-x) = -x by omega,Int.neg_mul_neg]
 rcases QJ h hk with h0|h0<;>rw[h0]
 ·rw [show max (0 : Int) (-0) = 0 by decide];simp only[Int.zero_add,Int.zero_mul];exact (mm _).symm
 ·rw [show max (0 : Int) (-0) = 0 by decide];simp only[Int.add_zero,Int.zero_mul];exact (mm _).symm
set_option maxRecDepth 100000
section
def b27:Nat:=134217728
def MH(e:Ed)(px py:Int):Bool:=if e.ay>e.by' then decide ((px-e.bx)*(e.ay-e.by')<(py-e.by')*(e.ax-e.bx)) else decide ((px-e.ax)*(e.by'-e.ay)<(py-e.ay)*(e.bx-e.ax))
def MF(e:Ed)(px py:Int):Bool:=if e.ax+e.bx>2*e.cx then decide ((px-e.cx)*(px-e.cx)+(py-e.cy)*(py-e.cy)<az e*az e) else decide ((px-e.cx)*(px-e.cx)+(py-e.cy)*(py-e.cy)>az e*az e)&&decide (px-e.cx<0)
def kw(e:Ed)(px py:Int):Bool:=if px<min e.ax e.bx then true else if px >= max e.ax e.bx then false else if e.k=1 then MH e px py else MF e px py
def lR(e:Ed)(px py:Int):Int:=if e.ay<=py/\py<e.by'/\kw e px py=true then 1 else if e.by'<=py/\py<e.ay/\kw e px py=true then -1 else 0
theorem qu{a b:Int}(h:a >= b):decide (a >= b)=true:=by simpa using h
theorem cG{a b:Int}(h:¬a >= b):decide (a >= b)=false:=by simpa using h
theorem yR{a b:Int}(h:a<=b):decide (a<=b)=true:=by simpa using h
theorem gj{a b:Int}(h:¬a<=b):decide (a<=b)=false:=by simpa using h
theorem ae.bb{f:FuncId}{args:List V1}{a b:Bool}(h:a=b)(H:ae Tryz.prog f args (.one (aN b))):ae Tryz.prog f args (.one (aN a)):=h ▸ H
def sO(l:List It):Option (Int×Int):=match l with | [.i x _,.i y _]=>some (x,y)|_=>none
def Bd(B:Nat)(x y:Int):Prop:=x.natAbs<=B/\y.natAbs<=B
theorem Rb{V W:World}{r:Nat->Nat}{k:Nat}{l:List It}{p:Int×Int}{B:Nat}(h:sO l=some p)(hb:Bd B p.1 p.2):∀v,au V W r k ⟨true,l⟩ v->au V W r k (ew p.1 p.2 B) v:=by
 unfold sO at h;split at h<;>cases h;intro v ⟨cs,⟨c,d,e,h1,c2,d2,e2,h2,h3⟩,h4,h5⟩;cases h3;exact⟨cs,⟨c,d,e,⟨h1.1,hb.1,h1.2.2⟩,c2,[],e2,⟨h2.1,hb.2,h2.2.2⟩,rfl⟩,h4,h5⟩
def Zg(f:FuncId)(B:Nat)(g:Ed->Int->Int->AV)(h:∀e px py,e.ok=true->Bd B px py->ae Tryz.prog f [aO e 3 aC,ew px py B] (g e px py)):ah where
 f:=f
 g:=λ| [⟨true,l⟩,⟨true,m⟩]=>(match eK l,sO m with|some e,some p=>some (g e p.1 p.2,[e.ok=true,Bd B p.1 p.2])|_,_=>none)|_=>none
 ok:=by
  intro args res ps h' hp
  split at h'<;>try cases h'
  split at h'<;>cases h'
  rename_i he hq
  exact (h _ _ _ hp.1 hp.2.1).pre λW=>aU (nu he hp.1) (aU (Rb hq hp.2.1) dY)
theorem Rw(e:Ed)(px py:Int):(lR e px py).natAbs<=1:=by unfold lR;split;decide;split<;>decide
end
set_option maxHeartbeats 8000000
set_option maxRecDepth 100000
section
theorem a6K(k:Nat):((k:Nat):Int).tdiv 32=((k/32:Nat):Int):=KA k 32
theorem a6O(k:Nat):((k:Nat):Int).tmod 32=((k%32:Nat):Int):=KI k 32
attribute [local go_sem] a6K a6O
end
set_option maxHeartbeats 4000000
set_option maxRecDepth 100000
section
theorem a6P(d:Nat):Int.tmod (d:Int) 2=(d:Int)%2:=rfl
attribute [local go_sem] a6P
end
theorem sZ{g:Int}(h:0<g)(a:Int):sgn (g*a)=sgn a:=by
 rcases lT a with⟨h1,h2⟩|⟨h1,h2⟩|⟨h1,h2⟩
 ·have := Int.mul_pos h h2;rcases lT (g*a) with⟨h3,h4⟩|⟨h3,h4⟩|⟨h3,h4⟩<;>omega
 ·rw[h2,Int.mul_zero]
 ·have := Int.mul_neg_of_pos_of_neg h h2;rcases lT (g*a) with⟨h3,h4⟩|⟨h3,h4⟩|⟨h3,h4⟩<;>omega
theorem F5(a b:Int):eP a b=sgn (a-b):=by
 rcases Nz a b with⟨h1,h2⟩|⟨h1,h2⟩|⟨h1,h2⟩<;>rcases lT (a-b) with⟨h3,h4⟩|⟨h3,h4⟩|⟨h3,h4⟩<;>omega
theorem NE{g:Int}(h:0<g)(a b:Int):eP (g*a) (g*b)=eP a b:=by
 rw[F5,F5,<- Int.mul_sub,sZ h]
theorem a6d{g:Int}(h:0<g)(a b c:Int):cO (g*a) b (g*g*c)=cO a b c:=by
 have h2:=Int.mul_pos h h;unfold cO;rw[sZ h,sZ h2];have e1:g*a*(g*a)=g*g*(a*a):=by grind
 have e2:b*b*(g*g*c)=g*g*(b*b*c):=by grind
 rw[e1,e2,NE h2]
theorem Eh(a b c:Int) : -1<=cO a b c/\cO a b c<=1:=by
 unfold cO;split
 ·omega
 ·rcases lT a with⟨h1,h2⟩|⟨h1,h2⟩|⟨h1,h2⟩<;>rcases Nz (a*a) (b*b*c) with⟨h3,h4⟩|⟨h3,h4⟩|⟨h3,h4⟩<;>rw[h1,h3]<;>decide
theorem XJ(A s n d:Int):qd A s n d 0 0 1=cO (A*d) s (n*d):=by
 have:=Eh (A*d) s (n*d);unfold qd;split
 ·omega
 ·rename_i h;have:cO (A*d) s (n*d)=0:=by omega
  rw[this,Int.zero_mul]
theorem a6e{f d n:Int}(hf:0<=f)(hd:0<d)(hn:0<=n):cO (-f*d) 1 (n*d)=sgn (n-d*f*f):=by
 have s1:sgn 1=1:=rfl;unfold cO;rw[s1,Int.one_mul,Int.mul_comm n d,sZ hd,Int.mul_comm (-f) d,sZ hd];rcases lT n with⟨h1,h2⟩|⟨h1,h2⟩|⟨h1,h2⟩
 ·rcases lT (-f) with ⟨h3, h4⟩ | ⟨h3, h4⟩ | ⟨h3, h4⟩
  ·omega
  ·obtain rfl : f = 0 := by omega
   rw[h1,h3,if_pos (by decide),Int.mul_zero,Int.sub_zero,h1];decide
  ·rw [h1, h3, if_neg (by decide)];have e:d * -f*(d * -f)=d*(d*f*f):=by grind
   rw[e,Int.mul_one,Int.one_mul,NE hd,F5];have e2:n-d*f*f = -(d*f*f-n):=by omega
   rw[e2];rcases lT (d*f*f-n) with⟨h5,h6⟩|⟨h5,h6⟩|⟨h5,h6⟩<;>rcases lT (-(d*f*f-n)) with⟨h7,h8⟩|⟨h7,h8⟩|⟨h7,h8⟩<;>omega
 ·subst h2;rw[h1,Int.mul_zero,if_pos (Int.le_refl 0),Int.zero_sub];have e : -(d*f*f)=d*(f * -f):=by grind
  rw[e,sZ hd];rcases lT (-f) with⟨h3,h4⟩|⟨h3,h4⟩|⟨h3,h4⟩
  ·omega
  ·obtain rfl : f = 0 := by omega
   rfl
  ·rw [h3, sZ (show 0 < f by omega), h3];decide
 ·omega
def rootOf(add s:Int)(n d:Nat):Rt:=if s=0\/n=0 then ⟨add,0,zero,ai 1⟩ else ⟨add,s,ai ((n/Nat.gcd n d:Nat):Int),ai ((d/Nat.gcd n d:Nat):Int)⟩
theorem T9{n k:Nat}(h:n<4294967296 ^ k)(hk:k<=64):small (n:Int)=true:=pJ (k:=k) (by rw[Int.natAbs_natCast];exact h) hk
theorem QI{n k:Nat}(h:n<4294967296 ^ k):(ai (n:Int)).d.length<=k:=by
 simp only[ai,Int.natAbs_natCast];exact (tG _ _).2 h
theorem IR{add s:Int}{n d:Nat}(hs : -1<=s/\s<=1)(hn:n<4294967296 ^ 8)(hd:d<4294967296 ^ 8)(h0:0<d):dc add s (ai (n:Int)) (ai (d:Int))=(rootOf add s n d,true):=by
 have sn:=T9 hn (by decide);have sd:=T9 hd (by decide);have vn:val (ai (n:Int)).d=n:=by rw[uQ];rfl
 have vd:val (ai (d:Int)).d=d:=by rw[uQ];rfl
 have hb:j9 s (ai (n:Int)) (ai (d:Int))=false:=IP hs.1 hs.2 (ic sn) (ic sd) un (by rw[fj];omega);unfold rootOf;by_cases hz:s=0\/n=0
 ·rw [if_pos hz];unfold dc;rw[hb,if_neg (by simp),if_pos (by rw[fj];omega)]
 ·rw [if_neg hz, IQ un (by rw [fj]; omega) hb (by rw [fj]; omega), vn, vd, if_neg];have h1:=QI (Nat.lt_of_le_of_lt (Nat.div_le_self n (Nat.gcd n d)) hn);have h2:=QI (Nat.lt_of_le_of_lt (Nat.div_le_self d (Nat.gcd n d)) hd);omega
theorem a65{add s:Int}{n d:Nat}(hs : -1<=s/\s<=1)(hn:n<4294967296 ^ 8)(hd:d<4294967296 ^ 8)(h0:0<d):(rootOf add s n d).Ok/\(rootOf add s n d).right=true:=by
 have dg:∀z,ao (ai z).d:=λz=>yn _
 obtain⟨h1,h2,_⟩:=IU (dg n) (dg d) (IR (add:=add) hs hn hd h0);exact⟨h1,Sv h2 h1.nr h1.dr⟩
theorem XL{add s x:Int}{n d:Nat}(h0:0<d)(hs:s=0->n=0):qd ((rootOf add s n d).add-x) (rootOf add s n d).s (rootOf add s n d).n.z (rootOf add s n d).d.z 0 0 1=cO ((add-x)*d) s ((n:Int)*d):=by
 rw[XJ];unfold rootOf;by_cases hz:s=0\/n=0
 ·have hn : n = 0 := by rcases hz with h | h; exact hs h; exact h
  rw[if_pos hz,hn];simp only;rw[fj,Ld];have e:∀y t:Int,cO y t 0=sgn y:=λy t=>by
   have:sgn 0=0:=rfl;unfold cO;rw[this,Int.mul_zero,Int.mul_zero,if_pos (Int.le_refl 0)];rcases lT y with⟨h,_⟩|⟨h,_⟩|⟨h,_⟩<;>rw[h]<;>decide
  rw[Int.zero_mul,e,show ((0:Nat):Int)*(d:Int)=0 by simp,e,Int.mul_one,Int.mul_comm,sZ (by omega)]
 ·rw [if_neg hz];simp only;rw[fj,fj];have hg:0<Nat.gcd n d:=Nat.gcd_pos_of_pos_right _ h0;have e1:Nat.gcd n d*(n/Nat.gcd n d)=n:=Nat.mul_div_cancel' (Nat.gcd_dvd_left _ _);have e2:Nat.gcd n d*(d/Nat.gcd n d)=d:=Nat.mul_div_cancel' (Nat.gcd_dvd_right _ _);have e1':(n:Int)=(Nat.gcd n d:Int)*((n/Nat.gcd n d:Nat):Int):=by rw[<- Int.natCast_mul,e1]
  have e2':(d:Int)=(Nat.gcd n d:Int)*((d/Nat.gcd n d:Nat):Int):=by rw[<- Int.natCast_mul,e2]
  have hg2:(0:Int)<(Nat.gcd n d:Int):=by omega
  generalize (Nat.gcd n d:Int)=g at *;generalize ((n/Nat.gcd n d:Nat):Int)=N at *;generalize ((d/Nat.gcd n d:Nat):Int)=D at *;rw[e1',e2',show (add-x)*(g*D)=g*((add-x)*D) by grind,show g*N*(g*D)=g*g*(N*D) by grind,a6d hg2]
set_option maxRecDepth 100000
section
theorem Vw{x y:Int}(hx:small x=true)(hy:small y=true)(hs:small (x+y)=true):tq (ai x) (ai y)=(ai (x+y),true):=by
 unfold tq fit;rw[ic hx,ic hy,fj,fj,hs];rfl
theorem a7n(x y:Int)(A B:Nat)(h:decide (A+B<kN)=true)(b1:x.natAbs<=A)(b2:y.natAbs<=B):(x+y).natAbs<=A+B/\tq (ai x) (ai y)=(ai (x+y),true):=by
 have h:=of_decide_eq_true h;have b3:(x+y).natAbs<=A+B:=by omega
 exact⟨b3,Vw (mU b1 (by omega)) (mU b2 (by omega)) (mU b3 h)⟩
theorem XK(a b:Int):(eP a b).natAbs<=1/\I64 (eP a b):=by
 have:=FZ a b;exact⟨by omega,by unfold I64;omega⟩
def a7j(f:FuncId)(H:∀(a b:Nm) (n m:Bool) (p q:Option Addr) (l c k d:Nat) (w:World),NR w n p l c a->NR w m q k d b->Calls Tryz.prog f #[mZ n p l c,mZ m q k d] w λe w'=>e=.returned (.int .i64 (ej a b))/\ac w w'):ah where
 f:=f
 g:=λ| [⟨true,l⟩,⟨true,m⟩]=>(match uO l,uO m with|some (x,A),some (y,B)=>if A<kN/\B<kN then some (.one (aj (eP x y) 1),[]) else none|_,_=>none)|_=>none
 ok:=by
  intro args res ps h hp
  split at h<;>try cases h
  split at h<;>try cases h
  split at h<;>cases h
  rename_i x A y B hx hy hb
  intro W vals hv
  obtain⟨v1,g1,l1,rfl,hv1⟩:=aK.1 hv
  obtain⟨v2,g2,l2,rfl,hv2⟩:=aK.1 hv1
  cases hv2
  obtain⟨b1,_,_,_,_,rfl,h1⟩:=Ad hx g1
  obtain⟨b2,_,_,_,_,rfl,h2⟩:=Ad hy g2
  exact (H _ _ _ _ _ _ _ _ _ _ W h1 h2).mono λ_ _ h=>tW (XK _ _) (Nx (mU b1 hb.1) (mU b2 hb.2) ▸ h)
def a7u:ah where
 f:=159
 g:=λ| [⟨true,[.d (.zi x A)]⟩]=>if A<kN then some (.one ⟨false,[.b true]⟩,[]) else none|_=>none
 ok:=by
  intro args res ps h hp
  split at h<;>try cases h
  split at h<;>cases h
  rename_i x A hb
  intro W vals hv
  simp only[aK,iL,bL,nW,fh] at hv
  obtain⟨_,⟨_,⟨b1,n,p,l,c,h1,_,rfl,rfl⟩,rfl⟩,_,rfl,rfl⟩:=hv
  have e:(ai x).right=true:=ic (mU b1 hb)
  exact (a3W _ _ _ _ _ W h1).mono λ_ _ h=>⟨_,h.1,af.val (i:=.b true) (by show [_]=[_];rw[e]),h.2⟩
def Ba:Nat:=4294967296 ^ 21
theorem Le{V W:World}{r:Nat->Nat}{k:Nat}{z:Int}{A B:Nat}(h:A<=B):∀v,au V W r k ⟨true,[.d (.zi z A)]⟩ v->au V W r k (oi z B) v:=by
 intro v hv;obtain⟨_,hw,rfl⟩:=bL.1 hv;obtain⟨b1,h2⟩:=nW.1 hw;exact bL.2 ⟨_,nW.2 ⟨Nat.le_trans b1 h,h2⟩,rfl⟩
def a6b(f:FuncId)(M:Nat)(H:∀a b c:Int,a.natAbs<=M->b.natAbs<=M->c.natAbs<=M->0<=c->ae Tryz.prog f [oi a M,oi b M,oi c M] (.one (aj (cO a b c) lim))):ah where
 f:=f
 g:=λ| [⟨true,[.d (.zi x A)]⟩,⟨true,[.d (.zi y B)]⟩,⟨true,[.d (.zi d D)]⟩]=>if A<=M/\B<=M/\D<=M then some (.one (aj (cO x y d) 1),[0<=d]) else none|_=>none
 ok:=by
  intro args res ps h hp
  split at h<;>try cases h
  split at h<;>cases h
  rename_i x A y B d D hb
  intro W vals hv
  obtain⟨v1,g1,l1,e1,hv1⟩:=aK.1 hv
  obtain⟨v2,g2,l2,e2,hv2⟩:=aK.1 hv1
  obtain⟨v3,g3,_⟩:=aK.1 hv2
  have bd:∀ {z:Int} {A:Nat} {v:Value},au W W (λ_=>0) 0 ⟨true,[.d (.zi z A)]⟩ v->z.natAbs<=A:=λh=>by
   obtain⟨_,hw,_⟩:=bL.1 h
   exact (nW.1 hw).1
  have hs:=Eh x y d
  exact ae.bd (H x y d (Nat.le_trans (bd g1) hb.1) (Nat.le_trans (bd g2) hb.2.1) (Nat.le_trans (bd g3) hb.2.2) hp.1) (by omega) W vals (aU (Le hb.1) (aU (Le hb.2.1) (aU (Le hb.2.2) λ_ h=>h)) _ hv)
end

set_option maxRecDepth 100000
section
def KG(s:Sh):V1:=⟨false,[.ro 7 (s.n-1) λj=>cV (s.e (1+j))]⟩
def oW(n:Nat):V1:=⟨false,[.i (n:Int) lim]⟩
def sbD(s:Sh)(j:Nat):Ds:=⟨[(21,.le (aj (j:Int) 2000)),(1,.eq (ak 0)),(2,.eq (ak 1)),(3,.eq (ak 2)),(19,.eq (KG s)),(20,.eq (oW (s.n-1)))],lU s++[DN,A8 s.e j]⟩
def V5(e:Nat->Ed)(k:Nat):List Pf:=[⟨min (iM e k) (min (e (1+k)).ax (e (1+k)).bx)=iM e (k+1),by rw[Nat.add_comm];rfl⟩,⟨min (jc e k) (min (e (1+k)).ay (e (1+k)).by')=jc e (k+1),by rw[Nat.add_comm];rfl⟩,⟨max (jw e k) (max (e (1+k)).ax (e (1+k)).bx)=jw e (k+1),by rw[Nat.add_comm];rfl⟩,⟨max (jO e k) (max (e (1+k)).ay (e (1+k)).by')=jO e (k+1),by rw[Nat.add_comm];rfl⟩]
theorem a5I(s:Sh)(hn:s.n<=1000):ae Tryz.prog 124 [bh s] (.one (qc s)):=by
 by_cases h0:s.n=0
 ·unfold qc;rw[if_pos h0];exact ad [] [true] [pT (mB (show (s.n:Int)=0 by omega))] (by kernel_rfl)
 ·unfold qc;rw[if_neg h0];have o:=bW (X:=[]) (K:=[]) (f:=124) (id:=10) (n:=nF 124) (s.n-1) (sbD s) (λ_=>[]) (e:=.ex 0) (d1:=⟨[(1,.eq (ak 0)),(2,.eq (ak 1)),(3,.eq (ak 2))],lU s++[DN,A8 s.e (s.n-1)]⟩) (by kernel_rfl) (λ_=>by kernel_rfl) (λ_ _=>LT.nil)
   (λk hk=>⟨[true],[pT (eu (show (k:Int)<((s.n-1:Nat):Int) by omega)),pP (show 0<=(k:Int)/\(k:Int)<(s.n-1:Nat) by omega),pI k (by omega),pR (ak 0),pR (ak 1),pR (ak 2),pR (KG s),pR (oW (s.n-1))]++fk s++V5 s.e k,by kernel_rfl⟩)
   ⟨[false],[pF (aR (show ¬((s.n-1:Nat):Int)<((s.n-1:Nat):Int) by omega)),pR (ak 0),pR (ak 1),pR (ak 2)]++fk s++xY s.e (s.n-1),by kernel_rfl⟩ nofun
  exact cD [] [] _ (LT.cons o LT.nil) [false] ([pF (kP (show (s.n:Int)≠0 by omega)),pP (show (0:Int)<=0/\(0:Int)<s.n by omega),pP (show (0:Int)<=1/\(1:Int)<=s.n by omega),⟨(0:Int)=((0:Nat):Int),rfl⟩,pR (ak 0),pR (ak 1),pR (ak 2),pR (KG s),pR (oW (s.n-1))]++fk s++xY s.e 0) (by kernel_rfl)
end
set_option maxHeartbeats 1000000
set_option maxRecDepth 100000
section
theorem a5Z(x y:Nat)(w:World)(hx:x<9223372036854775808)(hy:y<9223372036854775808):Calls Tryz.prog 216 #[.int .i64 x,.int .i64 y] w λe w'=>e=.returned (.agg #[.int .u64 ((x:Int)*y/18446744073709551616),.int .u64 ((x:Int)*y%18446744073709551616)])/\ac w w':=by
 have c1:IntKind.u64.wrap (x:Int)=x:=by rw[IntKind.wrap_u64];omega
 have c2:IntKind.u64.wrap (y:Int)=y:=by rw[IntKind.wrap_u64];omega
 go_enter Tryz.func216,Tryz.ntmps216;go_wp2_with fail;refine (Tryz.bits_Mul64 x y (by omega) (by omega) _).mono ?_;rintro e w1 ⟨rfl,rfl⟩;go_wp2;refine bodyPost_ret (v:=.agg #[.int .u64 ((x:Int)*y/18446744073709551616),.int .u64 ((x:Int)*y%18446744073709551616)]) (by simp only[results,Tryz.results216];go_simp) rfl ?_;exact⟨rfl,ag⟩
theorem a5X(a b c d:Int)(w:World):Calls Tryz.prog 217 #[.agg #[.int .u64 a,.int .u64 b],.agg #[.int .u64 c,.int .u64 d]] w λe w'=>e=.returned (.bool (decide (a<c\/(a=c/\b<=d))))/\ac w w':=by
 have hq:∀w,(Op.equalIn 10000 252 (.agg #[.int .u64 a,.int .u64 b]) (.agg #[.int .u64 c,.int .u64 d])).run Tryz.prog w=.ok (a==c&&b==d) w:=λw=>by
  obtain⟨i,hi⟩:=Option.isSome_iff_exists.1 (show (Tryz.prog.info? 185).isSome=true by kernel_rfl);have hc:Tryz.prog.cellsOf 185=1:=by kernel_rfl
  rw[run_equalIn_array w 9999 (n:=2) _ _ (by kernel_rfl) hi,hc];simp only[show List.range 2=[0,1] from rfl,Op.eqItems];have hs:bV Tryz.prog 185=some 1:=by kernel_rfl
  have ha:jU Tryz.prog 185=some false:=by kernel_rfl
  have q0:∀x y:Int,(part 185 #[.int .u64 x,.int .u64 y] 0).run Tryz.prog w=.ok (.int .u64 x) w:=λx y=>by
   simpa[dj] using D9 (cs:=[.int .u64 x,.int .u64 y]) (o:=0) (W:=w) hs ha (by simp) (by simp)
  have q1:∀x y:Int,(part 185 #[.int .u64 x,.int .u64 y] 1).run Tryz.prog w=.ok (.int .u64 y) w:=λx y=>by
   simpa[dj] using D9 (cs:=[.int .u64 x,.int .u64 y]) (o:=1) (W:=w) hs ha (by simp) (by simp)
  have q2:∀x y:Int,(Op.equalIn 9999 185 (.int .u64 x) (.int .u64 y)).run Tryz.prog w=.ok (x==y) w:=λx y=>run_equalIn_int w 9998 185 .u64 .u64 _ _ (by kernel_rfl)
  simp only[Nat.zero_mul,Nat.one_mul,Sem.run_bind,q0,q1,q2,Result.andThen_ok];cases h0:(a==c)<;>cases h1:(b==d)<;>simp[Sem.run_bind,q1,q2,h1]
 obtain⟨z,hz⟩:∃z,decide (a<c\/(a=c/\b<=d))=z:=⟨_,rfl⟩;rw[hz];have hz:=Lib.hid hz;cases h0:(a==c)<;>cases h1:decide (a<c)<;>cases h2:(b==d)<;>cases h3:decide (b<d);all_goals
  go_enter Tryz.func217,Tryz.ntmps217;go_wp2_with fail;go_ret;refine⟨?_,ag⟩;have hz:=hz.out;simp at h0 h1 h2 h3;rw[<- hz];simp;omega
def wdV(x y:Int):V1:=⟨true,[.v (.int .u64 (x*y/18446744073709551616)),.v (.int .u64 (x*y%18446744073709551616))]⟩
def WC:ah where
 f:=216;g:=λ| [⟨false,[.i x _]⟩,⟨false,[.i y _]⟩]=>some (.one (wdV x y),[0<=x,0<=y])|_=>none
 ok:=by
  intro args res ps h hp;split at h<;>cases h;rename_i x A y B;intro W vals hv;simp only[aK,iL,dL] at hv;obtain⟨_,⟨⟨_,b1⟩,rfl⟩,_,rfl,_,⟨⟨_,b2⟩,rfl⟩,_,rfl,rfl⟩:=hv;obtain⟨x,rfl⟩:=Int.eq_ofNat_of_zero_le hp.1;obtain⟨y,rfl⟩:=Int.eq_ofNat_of_zero_le hp.2.1;unfold I64 at b1 b2;exact (a5Z x y W (by omega) (by omega)).mono λ_ _ h=>⟨_,h.1,bL.2 ⟨_,nU.2 ⟨rfl,_,rfl,nU.2 ⟨rfl,_,rfl,rfl⟩⟩,rfl⟩,h.2⟩
def V9:ah where
 f:=217;g:=λ| [⟨true,[.v (.int .u64 a),.v (.int .u64 b)]⟩,⟨true,[.v (.int .u64 c),.v (.int .u64 d)]⟩]=>some (.one (aN (decide (a<c\/(a=c/\b<=d)))),[])|_=>none
 ok:=by
  intro args res ps h hp;split at h<;>cases h;intro W vals hv;simp only[aK,iL,bL,nU,fh] at hv;obtain⟨_,⟨_,⟨_,_,rfl,_,_,rfl,rfl⟩,rfl⟩,_,rfl,_,⟨_,⟨_,_,rfl,_,_,rfl,rfl⟩,rfl⟩,_,rfl,rfl⟩:=hv;exact (a5X _ _ _ _ W).mono λ_ _ h=>Hl h
theorem a69{u v:Int}(hu:0<=u)(hv:0<=v):(u/18446744073709551616<v/18446744073709551616\/(u/18446744073709551616=v/18446744073709551616/\u%18446744073709551616<=v%18446744073709551616)) <-> u<=v:=by omega
end
end Go.Proofs.YtghemgdfmldoeaaGreat
