import Derived.Test.YtghemgdfmldoeaaGreatS21
import Derived.ChangeKeysEq
set_option linter.unusedVariables false
set_option linter.unusedSimpArgs false

namespace Go.Proofs.YtghemgdfmldoeaaGreat
open Go.RowKit
abbrev NmV(n:Bool)(p:Option Addr)(l c:Nat):Value:=.agg #[.bool n,.slice p l c]
def nOfC(f:FuncId)(H:∀(z:Int) (w:World),-9223372036854775808<=z->z<=9223372036854775807->Calls Tryz.prog f #[.int .i64 z] w (RetN w (ofZ z))):Con where
 f:=f
 g:=fun | [⟨false,[.i z _]⟩]=>some (.one (nmV (ofZ z)),[])|_=>none
 ok:=by
  intro args res ps h _
  split at h<;>cases h
  intro W vals hv
  simp only[rvs_cons,rvs_nil,rv_i] at hv
  obtain⟨_,⟨⟨_,h1,h2⟩,rfl⟩,_,rfl,rfl⟩:=hv
  exact (H _ W h1 h2).mono fun _ _ h=>gv_nm h
def nRightC(f:FuncId)(H:∀(a:Nm) (n:Bool) (p:Option Addr) (l c:Nat) (w:World),NR w n p l c a->Calls Tryz.prog f #[NmV n p l c] w fun e w'=>e=.returned (.bool a.right)/\Ext w w'):Con where
 f:=f
 g:=fun | [⟨true,[.d (.num a)]⟩]=>some (.one (blV a.right),[])|_=>none
 ok:=by
  intro args res ps h _
  split at h<;>cases h
  intro W vals hv
  simp only[rvs_cons,rvs_nil,rv_t,rl_num,rl_nil] at hv
  obtain⟨_,⟨_,⟨n,p,l,c,h1,_,rfl,rfl⟩,rfl⟩,_,rfl,rfl⟩:=hv
  exact (H _ _ _ _ _ W h1).mono fun _ _ h=>gv_bl h
theorem two_nm{W:World}{a b:Nm}{vals:List Value}(hv:RepVs W W (fun _=>0) 0 [⟨true,[.d (.num a)]⟩,⟨true,[.d (.num b)]⟩] vals):∃n p l c m q k d,vals=[NmV n p l c,NmV m q k d]/\NR W n p l c a/\NR W m q k d b:=by
 simp only[rvs_cons,rvs_nil,rv_t,rl_num,rl_nil] at hv
 obtain⟨_,⟨_,⟨n,p,l,c,h1,_,rfl,rfl⟩,rfl⟩,_,rfl,_,⟨_,⟨m,q,k,d,h2,_,rfl,rfl⟩,rfl⟩,_,rfl,rfl⟩:=hv
 exact⟨n,p,l,c,m,q,k,d,rfl,h1,h2⟩
def nBinC(f:FuncId)(G:Nm->Nm->Nm×Bool)(S:Nm->Nm->List Prop)(H:∀(a b:Nm) (n m:Bool) (p q:Option Addr) (l c k d:Nat) (w:World),All (S a b)->NR w n p l c a->NR w m q k d b->Calls Tryz.prog f #[NmV n p l c,NmV m q k d] w (RetNum w (G a b))):Con where
 f:=f
 g:=fun | [⟨true,[.d (.num a)]⟩,⟨true,[.d (.num b)]⟩]=>some (.tup [nmV (G a b).1,blV (G a b).2],S a b)|_=>none
 ok:=by
  intro args res ps h hp
  split at h<;>cases h
  intro W vals hv
  obtain⟨_,_,_,_,_,_,_,_,rfl,h1,h2⟩:=two_nm hv
  exact (H _ _ _ _ _ _ _ _ _ _ W hp h1 h2).mono fun _ _ h=>gv_nb h
theorem cmpP_b(a b:Nm):(cmpP a b).natAbs<=1/\I64 (cmpP a b):=by
 have h : -1<=cmpP a b/\cmpP a b<=1:=by
  unfold cmpP
  split
  ·exact cmpZ_bd _ _
  ·omega
 exact⟨by omega,by unfold I64;omega⟩
def nCmpC(f:FuncId)(H:∀(a b:Nm) (n m:Bool) (p q:Option Addr) (l c k d:Nat) (w:World),NR w n p l c a->NR w m q k d b->Calls Tryz.prog f #[NmV n p l c,NmV m q k d] w fun e w'=>e=.returned (.int .i64 (cmpP a b))/\Ext w w'):Con where
 f:=f
 g:=fun | [⟨true,[.d (.num a)]⟩,⟨true,[.d (.num b)]⟩]=>some (.one (inV (cmpP a b) 1),[])|_=>none
 ok:=by
  intro args res ps h _
  split at h<;>cases h
  intro W vals hv
  obtain⟨_,_,_,_,_,_,_,_,rfl,h1,h2⟩:=two_nm hv
  exact (H _ _ _ _ _ _ _ _ _ _ W h1 h2).mono fun _ _ h=>gv_in (cmpP_b _ _) h
def nDivC(f:FuncId)(H:∀(a b:Nm) (n m:Bool) (p q:Option Addr) (l c k d:Nat) (w:World),NR w n p l c a->NR w m q k d b->Calls Tryz.prog f #[NmV n p l c,NmV m q k d] w (RetDiv w (divP a b))):Con where
 f:=f
 g:=fun | [⟨true,[.d (.num a)]⟩,⟨true,[.d (.num b)]⟩]=>some (.tup [nmV (divP a b).1,nmV (divP a b).2.1,blV (divP a b).2.2],[])|_=>none
 ok:=by
  intro args res ps h _
  split at h<;>cases h
  intro W vals hv
  obtain⟨_,_,_,_,_,_,_,_,rfl,h1,h2⟩:=two_nm hv
  refine (H _ _ _ _ _ _ _ _ _ _ W h1 h2).mono fun e w' h=>?_
  obtain⟨n,p,l,c,m,q,k,d,rfl,h1,h2,_,_,h3⟩:=h
  exact⟨_,rfl,⟨[_,_,_],rfl,rvs_cons.2 ⟨_,rv_t.2 ⟨_,rl_num.2 ⟨n,p,l,c,h1,_,rfl,rfl⟩,rfl⟩,_,rfl,rvs_cons.2 ⟨_,rv_t.2 ⟨_,rl_num.2 ⟨m,q,k,d,h2,_,rfl,rfl⟩,rfl⟩,_,rfl,rvs_cons.2 ⟨_,rv_v.2 ⟨rfl,rfl⟩,_,rfl,rfl⟩⟩⟩⟩,h3⟩
theorem ofP_div{add s:Int}{n d:Nm}(hd:Dig d.d)(hb:ofBad s n d=false)(h0:¬(s=0\/n.z=0)) :
  ofP add s n d=if 8<max (divP n (gcdP n d).1).1.d.length (divP d (gcdP n d).1).1.d.length then (Rt.no,false) else (⟨add,s,(divP n (gcdP n d).1).1,(divP d (gcdP n d).1).1⟩,true):=by
 obtain⟨s1,s2,rn,rd,nn,dp⟩:=ofBad_false hb
 have en:=z_pos nn
 obtain⟨ed,pd⟩:=d_pos dp
 have gp:0<Nat.gcd (val n.d) (val d.d):=Nat.gcd_pos_of_pos_right _ pd
 have rg:small ((Nat.gcd (val n.d) (val d.d):Nat):Int)=true:=by
  refine small_of_le hd rd ?_
  rw[Int.natAbs_natCast]
  exact Nat.gcd_le_right _ pd
 rw[gcdP_right rn rd,divP_nm rn rg gp,divP_nm rd rg gp]
 unfold ofP gcdN
 rw[hb,if_neg (by simp),if_neg h0]
def cNRight:Con:=nRightC 138 fun a _ _ _ _ w h=>num_Right a _ _ _ _ w h
def cNCmp:Con:=nCmpC 145 fun a b _ _ _ _ _ _ _ _ w h1 h2=>num_Cmp a b _ _ _ _ _ _ _ _ w h1 h2
def cNOf:Con:=nOfC 96 fun z w h1 h2=>num_Of z w h1 h2
def cNGcd:Con:=nBinC 140 gcdP (fun _ b=>[b.right=true]) fun a b _ _ _ _ _ _ _ _ w h h1 h2=>gcd_all a b _ _ _ _ _ _ _ _ _ w h1 h2 h.1 rfl
def cNDiv:Con:=nDivC 141 fun a b _ _ _ _ _ _ _ _ w h1 h2=>div_all a b _ _ _ _ _ _ _ _ _ w h1 h2 rfl
def cRSign:Con where
 f:=139
 g:=fun | [⟨true,[.d (.num a)]⟩]=>some (.one (inV (sgn a.z) 1),[a.right=true])|_=>none
 ok:=by
  intro args res ps h hp
  split at h<;>cases h
  rename_i a
  intro W vals hv
  simp only[rvs_cons,rvs_nil,rv_t,rl_num,rl_nil] at hv
  obtain⟨_,⟨_,⟨n,p,l,c,h1,_,rfl,rfl⟩,rfl⟩,_,rfl,rfl⟩:=hv
  refine (root_sign _ _ _ _ _ W h1 hp.1).mono fun _ _ h=>gv_in ?_ h
  have:=sgn_bd a.z
  exact⟨by omega,by unfold I64;omega⟩
def KNm:List Con:=[cNRight,cNOf,cNGcd,cNDiv,cRSign]

set_option maxRecDepth 100000
section
def rtV(r:Rt):V1:=⟨true,[.i r.add lim,.i r.s lim,.d (.num r.n),.d (.num r.d)]⟩
abbrev rtA(r:Rt×Bool):AV:=.tup [rtV r.1,blV r.2]
theorem ofP_bad{add s:Int}{n d:Nm}(h:ofBad s n d=true):ofP add s n d=(Rt.no,false):=by unfold ofP;rw[h];rfl
theorem ofP_zero{add s:Int}{n d:Nm}(h:ofBad s n d=false)(h0:s=0\/n.z=0):ofP add s n d=(⟨add,0,zero,ofZ 1⟩,true):=by unfold ofP;rw[h,if_neg (by decide),if_pos h0]
theorem sgn_le{z:Int}(b:Bool)(h:decide (z<=0)=b):decide (sgn z<=0)=b:=by
 rw[<- h,decide_eq_decide]
 rcases sgn_cases z with⟨h,g⟩|⟨h,g⟩|⟨h,g⟩<;>omega
theorem sgn_z{z:Int}(b:Bool)(h:(z==0)=b):(sgn z==0)=b:=by
 rw[<- h,Bool.eq_iff_iff,beq_iff_eq,beq_iff_eq]
 rcases sgn_cases z with⟨h,g⟩|⟨h,g⟩|⟨h,g⟩<;>omega
theorem nt_F{b:Bool}(h:b=true):(!b)=false:=by rw[h];rfl
theorem nt_T{b:Bool}(h:b=false):(!b)=true:=by rw[h];rfl
theorem bad_iff{s:Int}{n d:Nm}:ofBad s n d=(decide (s < -1)||(decide (s>1)||(!n.right||(!d.right||(n.neg||decide (d.z<=0)))))):=by
 unfold ofBad
 simp only[Bool.or_assoc,gt_iff_lt]
theorem max_len{x y:List Nat}{b:Bool}(h:decide (8<max x.length y.length)=b):decide (max (x.length:Int) (y.length:Int)>8)=b:=by
 rw[<- h,decide_eq_decide]
 omega
theorem rtOf_fok(add s:Int)(n d:Nm)(dd:Dig d.d):Fok Tryz.prog 95 [inV add lim,inV s lim,nmV n,nmV d] (rtA (ofP add s n d)):=by
 cases h1:decide (s < -1) with
 | true =>
  rw[ofP_bad (by rw[bad_iff,h1];rfl)]
  exact fok KNm [true] [pT h1] (by kernel_rfl)
 | false =>
 cases h2:decide (s>1) with
 | true =>
  rw[ofP_bad (by rw[bad_iff,h1,h2];rfl)]
  exact fok KNm [false,true] [pF h1,pT h2] (by kernel_rfl)
 | false =>
 cases h3:n.right with
 | false =>
  rw[ofP_bad (by rw[bad_iff,h1,h2,h3];rfl)]
  exact fok KNm [false,false,true] [pF h1,pF h2,pT (nt_T h3)] (by kernel_rfl)
 | true =>
 cases h4:d.right with
 | false =>
  rw[ofP_bad (by rw[bad_iff,h1,h2,h3,h4];rfl)]
  exact fok KNm [false,false,false,true] [pF h1,pF h2,pF (nt_F h3),pT (nt_T h4)] (by kernel_rfl)
 | true =>
 cases h5:n.neg with
 | true =>
  rw[ofP_bad (by rw[bad_iff,h1,h2,h3,h4,h5];rfl)]
  exact fok KNm [false,false,false,false,true] [pF h1,pF h2,pF (nt_F h3),pF (nt_F h4),pT h5] (by kernel_rfl)
 | false =>
 cases h6:decide (d.z<=0) with
 | true =>
  rw[ofP_bad (by rw[bad_iff,h1,h2,h3,h4,h5,h6];rfl)]
  exact fok KNm [false,false,false,false,false,true] [pF h1,pF h2,pF (nt_F h3),pF (nt_F h4),pF h5,pP h4,pT (sgn_le _ h6)] (by kernel_rfl)
 | false =>
 have hb:ofBad s n d=false:=by rw[bad_iff,h1,h2,h3,h4,h5,h6];rfl
 cases h7:(s==0) with
 | true =>
  rw[ofP_zero hb (.inl (by simpa using h7))]
  exact fok KNm [false,false,false,false,false,false,true] [pF h1,pF h2,pF (nt_F h3),pF (nt_F h4),pF h5,pP h4,pF (sgn_le _ h6),pT h7] (by kernel_rfl)
 | false =>
 cases h8:(n.z==0) with
 | true =>
  rw[ofP_zero hb (.inr (by simpa using h8))]
  exact fok KNm [false,false,false,false,false,false,false,true] [pF h1,pF h2,pF (nt_F h3),pF (nt_F h4),pF h5,pP h4,pF (sgn_le _ h6),pF h7,pP h3,pT (sgn_z _ h8)] (by kernel_rfl)
 | false =>
 rw[ofP_div dd hb (fun h=>h.elim (fun h=>by rw[h] at h7;cases h7) (fun h=>by rw[h] at h8;cases h8))]
 cases h9:decide (8<max (divP n (gcdP n d).1).1.d.length (divP d (gcdP n d).1).1.d.length) with
 | true =>
  rw[if_pos (of_decide_eq_true h9)]
  exact fok KNm [false,false,false,false,false,false,false,false,true] [pF h1,pF h2,pF (nt_F h3),pF (nt_F h4),pF h5,pP h4,pF (sgn_le _ h6),pF h7,pP h3,pF (sgn_z _ h8),pP h4,pT (max_len h9)] (by kernel_rfl)
 | false =>
  rw[if_neg (of_decide_eq_false h9)]
  exact fok KNm [false,false,false,false,false,false,false,false,false] [pF h1,pF h2,pF (nt_F h3),pF (nt_F h4),pF h5,pP h4,pF (sgn_le _ h6),pF h7,pP h3,pF (sgn_z _ h8),pP h4,pF (max_len h9)] (by kernel_rfl)
theorem rt_at{V W:World}{r:Nat->Nat}{k:Nat}{a s:Int}{A S:Nat}{n d:Nm}{v:Value}:RepV V W r k ⟨true,[.i a A,.i s S,.d (.num n),.d (.num d)]⟩ v->RepV V W r k (rtV ⟨a,s,n,d⟩) v/\Dig n.d/\Dig d.d/\I64 a:=by
 intro hv
 simp only[rv_t,rl_i,rl_num,rl_nil] at hv
 obtain⟨_,⟨⟨_,i1⟩,_,rfl,⟨_,i2⟩,_,rfl,n1,p1,l1,c1,h1,_,rfl,m1,q1,k1,d1,h2,_,rfl,rfl⟩,rfl⟩:=hv
 exact⟨rv_t.2 ⟨_,rl_i.2 ⟨lim64 i1,_,rfl,rl_i.2 ⟨lim64 i2,_,rfl,rl_num.2 ⟨n1,p1,l1,c1,h1,_,rfl,rl_num.2 ⟨m1,q1,k1,d1,h2,_,rfl,rfl⟩⟩⟩⟩,rfl⟩,h1.2.2.dig,h2.2.2.dig,i1⟩
theorem nm_dig{V W:World}{r:Nat->Nat}{k:Nat}{d:Nm}{v:Value}(hv:RepV V W r k ⟨true,[.d (.num d)]⟩ v):Dig d.d:=by
 obtain⟨_,hw,_⟩:=rv_t.1 hv
 obtain⟨m1,q1,k1,d1,h2,_⟩:=rl_num.1 hw
 exact h2.2.2.dig
theorem in_lim{V W:World}{r:Nat->Nat}{k:Nat}{z:Int}{A:Nat}:∀v,RepV V W r k ⟨false,[.i z A]⟩ v->RepV V W r k (inV z lim) v:=fun v hv=>by
 obtain⟨h1,rfl⟩:=rv_i.1 hv
 exact rv_i.2 ⟨lim64 h1.2,rfl⟩
def ofC(f:FuncId)(H:∀(add s:Int) (n d:Nm),Dig d.d->Fok Tryz.prog f [inV add lim,inV s lim,nmV n,nmV d] (rtA (ofP add s n d))):Con where
 f:=f
 g:=fun | [⟨false,[.i a _]⟩,⟨false,[.i s _]⟩,⟨true,[.d (.num n)]⟩,⟨true,[.d (.num d)]⟩]=>some (rtA (ofP a s n d),[])|_=>none
 ok:=by
  intro args res ps h hp
  split at h<;>cases h
  rename_i a _ s _ n d
  intro W vals hv
  have dd:Dig d.d:=by
   obtain⟨_,_,_,_,h1⟩:=rvs_cons.1 hv
   obtain⟨_,_,_,_,h2⟩:=rvs_cons.1 h1
   obtain⟨_,_,_,_,h3⟩:=rvs_cons.1 h2
   obtain⟨_,h4,_⟩:=rvs_cons.1 h3
   exact nm_dig h4
  exact H a s n d dd W vals (rvs_1 in_lim (rvs_1 in_lim fun _ h=>h) _ hv)
def cRtOf:Con:=ofC 95 rtOf_fok
def KRr:List Con:=[cRtOf,cNCmp]
theorem rtRight_fok(a:Rt):Fok Tryz.prog 98 [rtV a] (.one (blV a.right)):=by
 unfold Rt.right
 cases h1:(ofP a.add a.s a.n a.d).2 with
 | false=>exact fok KRr [false] [pF h1] (by kernel_rfl)
 | true =>
 cases h2:((ofP a.add a.s a.n a.d).1.s==a.s) with
 | false=>exact fok KRr [true,false] [pT h1,pF h2] (by kernel_rfl)
 | true =>
 cases h3:(cmpP a.n (ofP a.add a.s a.n a.d).1.n==0) with
 | false=>exact fok KRr [true,true,false] [pT h1,pT h2,pF h3] (by kernel_rfl)
 | true=>exact fok KRr [true,true,true] [pT h1,pT h2,pT h3] (by kernel_rfl)
def rightC(f:FuncId)(H:∀a:Rt,Dig a.n.d/\Dig a.d.d->Fok Tryz.prog f [rtV a] (.one (blV a.right))):Con where
 f:=f
 g:=fun | [⟨true,[.i a _,.i s _,.d (.num n),.d (.num d)]⟩]=>some (.one (blV (Rt.right ⟨a,s,n,d⟩)),[])|_=>none
 ok:=by
  intro args res ps h hp
  split at h<;>cases h
  rename_i a _ s _ n d
  intro W vals hv
  obtain⟨_,hx,_,rfl,hw⟩:=rvs_cons.1 hv
  cases hw
  obtain⟨k1,k2,k3,_⟩:=rt_at hx
  exact H ⟨a,s,n,d⟩ ⟨k2,k3⟩ W _ (rvs_cons.2 ⟨_,k1,_,rfl,rfl⟩)
def cRight:Con:=rightC 98 fun a _=>rtRight_fok a
end

set_option maxRecDepth 100000
section
def jn(e:Nat->Ed)(j:Nat):Bool:=(e (j+1)).ax==(e j).bx&&(e (j+1)).ay==(e j).by'
def shC(f:FuncId)(g:Sh->AV)(c:Sh->List Prop)(h:∀s,All (c s)->Fok Tryz.prog f [shpV s] (g s)):Con where
 f:=f
 g:=fun | [⟨true,l⟩]=>(toSh l).map fun z=>(g z.1,z.2++c z.1)|_=>none
 ok:=by
  intro args res ps h' hp
  split at h'<;>try cases h'
  rename_i l
  cases he:toSh l with
  | none=>simp[he] at h'
  | some z =>
   obtain⟨s,ps1⟩:=z
   simp only[he,Option.map_some,Option.some.injEq,Prod.mk.injEq] at h'
   obtain⟨rfl,rfl⟩:=h'
   obtain⟨p1,p2⟩:=All.app hp
   exact (h s p2).pre fun W=>rvs_1 (fun v hv=>toSh_rep he p1 hv) rvs_0
end

set_option maxRecDepth 100000
section
def errN(e:Nat->Ed):Nat->Int
 | 0=>0
 | n+1=>if errN e n=0 then checkZ (e n) else errN e n
theorem errN_0{e:Nat->Ed}:∀ {n:Nat},errN e n=0->∀k,k<n->checkZ (e k)=0
 | 0,_,k,hk=>absurd hk (Nat.not_lt_zero k)
 | n+1,h,k,hk=>by
  unfold errN at h
  split at h
  ·rename_i h1
   rcases Nat.lt_or_eq_of_le (Nat.le_of_lt_succ hk) with g|g
   ·exact errN_0 h1 k g
   ·rw[g];exact h
  ·rename_i h1;exact absurd h h1
theorem errN_n{e:Nat->Ed}:∀ {n:Nat},errN e n≠0->∃m,m<n/\errN e n=checkZ (e m)/\∀k,k<m->checkZ (e k)=0
 | 0,h=>absurd rfl h
 | n+1,h=>by
  unfold errN at h ⊢
  by_cases h1:errN e n=0
  ·rw [if_pos h1] at h ⊢
   exact⟨n,by omega,rfl,errN_0 h1⟩
  ·rw [if_neg h1] at h ⊢
   obtain⟨m,k1,k2⟩:=errN_n h1
   exact⟨m,by omega,k2⟩
def clsB(s:Sh):Bool:=(s.e 0).ax==(s.e (s.n-1)).bx&&(s.e 0).ay==(s.e (s.n-1)).by'
def fewS(s:Sh):Int:=if s.k=1 then 1 else 2
def chkS(s:Sh):Int :=
 if s.k≠1/\s.k≠2 then 12 else if (s.n:Int)<fewS s then 12 else if 40<s.n then 2 else if errN s.e s.n≠0 then errN s.e s.n else if allB (jn s.e) (s.n-1)=false\/(s.k=2/\clsB s=false) then 12 else if s.k=2/\s.r≠0\/s.r<0\/4194304<s.r then 3 else 0
def shB(s:Sh):List (Option Mb):=[some ⟨30,(shpV s).l⟩]
def pSh(s:Sh):List Pf:=[⟨s.k=s.k,rfl⟩,⟨roE s.n s.e=roE s.n s.e,rfl⟩,⟨s.r=s.r,rfl⟩]
def pEd(s:Sh):Pf:=⟨∀i,i<s.n->isEd (edI (s.e i))=true,fun _ _=>rfl⟩
theorem lt_tt{a b:Int}(h:a<b):decide (a<b)=true:=by simpa using h
theorem lt_ff{a b:Int}(h:¬a<b):decide (a<b)=false:=by simpa using h
theorem Fok.vS{f:FuncId}{args:List V1}{a b:Int}{B:Nat}(h:a=b)(H:Fok Tryz.prog f args (.one (inV b B))):Fok Tryz.prog f args (.one (inV a B)):=h ▸ H
end

set_option maxRecDepth 100000
section
def x0N(e:Nat->Ed):Nat->Int
 | 0=>min (e 0).ax (e 0).bx
 | k+1=>min (x0N e k) (min (e (k+1)).ax (e (k+1)).bx)
def y0N(e:Nat->Ed):Nat->Int
 | 0=>min (e 0).ay (e 0).by'
 | k+1=>min (y0N e k) (min (e (k+1)).ay (e (k+1)).by')
def x1N(e:Nat->Ed):Nat->Int
 | 0=>max (e 0).ax (e 0).bx
 | k+1=>max (x1N e k) (max (e (k+1)).ax (e (k+1)).bx)
def y1N(e:Nat->Ed):Nat->Int
 | 0=>max (e 0).ay (e 0).by'
 | k+1=>max (y1N e k) (max (e (k+1)).ay (e (k+1)).by')
def rcV(a b c d:Int):V1:=⟨true,[.i a lim,.i b lim,.i c lim,.i d lim]⟩
def boxV(s:Sh):V1:=if s.n=0 then rcV 0 0 0 0 else
 rcV (IntKind.i64.wrap (x0N s.e (s.n-1)-s.r)) (IntKind.i64.wrap (y0N s.e (s.n-1)-s.r)) (IntKind.i64.wrap (x1N s.e (s.n-1)+s.r)) (IntKind.i64.wrap (y1N s.e (s.n-1)+s.r))
def rcB(a b c d:Int):Option Mb:=some ⟨100,(rcV a b c d).l⟩
def rcZ:Option Mb:=some ⟨100,[.k 0,.k 0,.k 0,.k 0]⟩
def ptrN(b:Nat):V1:=⟨false,[.p b 0]⟩
def bxR(e:Nat->Ed)(k:Nat):List Pf:=[⟨x0N e k=x0N e k,rfl⟩,⟨y0N e k=y0N e k,rfl⟩,⟨x1N e k=x1N e k,rfl⟩,⟨y1N e k=y1N e k,rfl⟩]
def bxB(e:Nat->Ed)(k:Nat):Option Mb:=rcB (x0N e k) (y0N e k) (x1N e k) (y1N e k)
def r9bD(s:Sh)(j:Nat):Ds:=⟨[(4,.le (inV ((j+1:Nat):Int) 2000)),(1,.eq (ptrN 0)),(2,.eq (ptrN 1)),(3,.eq (ptrN 2))],shB s++[rcZ,bxB s.e j]⟩
theorem eq_tt{a b:Int}(h:a=b):(a==b)=true:=by simpa using h
theorem eq_ff{a b:Int}(h:a≠b):(a==b)=false:=by simpa using h
theorem r9box_ok(s:Sh)(hn:s.n<=1000):Fok Tryz.prog 117 [shpV s] (.one (boxV s)):=by
 by_cases h0:s.n=0
 ·unfold boxV
  rw[if_pos h0]
  exact fok [] [true] [pT (eq_tt (show (s.n:Int)=0 by omega))] (by kernel_rfl)
 ·unfold boxV
  rw[if_neg h0]
  have o:=orc (X:=[]) (K:=[]) (f:=117) (id:=10) (n:=nF 117) (s.n-1) (r9bD s) (fun _=>[]) (e:=.ex 0) (d1:=⟨[(1,.eq (ptrN 0)),(2,.eq (ptrN 1)),(3,.eq (ptrN 2))],shB s++[rcZ,bxB s.e (s.n-1)]⟩) (by kernel_rfl) (fun _=>by kernel_rfl) (fun _ _=>LT.nil)
   (fun k hk=>⟨[true],[pT (lt_tt (show ((k+1:Nat):Int)<(s.n:Int) by omega)),pP (show 0<=((k+1:Nat):Int)/\((k+1:Nat):Int)<s.n by omega),pI (k+1) (by omega),pR (ptrN 0),pR (ptrN 1),pR (ptrN 2)]++pSh s++bxR s.e (k+1),by kernel_rfl⟩)
   ⟨[false],[pF (lt_ff (show ¬((s.n-1+1:Nat):Int)<(s.n:Int) by omega)),pR (ptrN 0),pR (ptrN 1),pR (ptrN 2)]++pSh s++bxR s.e (s.n-1),by kernel_rfl⟩ nofun
  exact fokL [] [] _ (LT.cons o LT.nil) [false] ([pF (eq_ff (show (s.n:Int)≠0 by omega)),pP (show (0:Int)<=0/\(0:Int)<s.n by omega),⟨(1:Int)=((0+1:Nat):Int),rfl⟩,pR (ptrN 0),pR (ptrN 1),pR (ptrN 2)]++pSh s++bxR s.e 0) (by kernel_rfl)
end
theorem ok_xor{e:Ed}(h:e.ok=true)(hk:¬e.k=1):e.ax-e.cx=0\/e.ay-e.cy=0:=by
 have hq:((e.ax-e.cx==0) != (e.ay-e.cy==0))=true:=by
  simp only[Ed.ok,Bool.and_eq_true,if_neg hk] at h
  have h2:=h.2
  split at h2
  ·simp only [Ed.quarter, quarterB, Bool.and_eq_true] at h2
   exact h2.1
  ·split at h2
   ·simp only [Ed.quarter, quarterB, Bool.and_eq_true] at h2
    exact h2.1
   ·cases h2
 by_cases h1:e.ax-e.cx=0
 ·exact .inl h1
 ·by_cases h2 : e.ay - e.cy = 0
  ·exact .inr h2
  ·have e1 : (e.ax - e.cx == 0) = false := by simpa using h1
   have e2:(e.ay-e.cy==0)=false:=by simpa using h2
   rw[e1,e2] at hq
   cases hq
theorem radZ_sum{e:Ed}(h:e.ok=true)(hk:¬e.k=1):max (e.ax-e.cx) (-(e.ax-e.cx))+max (e.ay-e.cy) (-(e.ay-e.cy))=radZ e:=by
 have hkb:(e.k==1)=false:=by simpa using hk
 unfold radZ
 rw[h,hkb]
 simp only[Bool.not_false,Bool.and_self,if_true]
 have:=ok_xor h hk
 omega
theorem radZ_sq{e:Ed}(h:e.ok=true)(hk:¬e.k=1):(e.ax-e.cx)*(e.ax-e.cx)+(e.ay-e.cy)*(e.ay-e.cy)=radZ e*radZ e:=by
 rw[<- radZ_sum h hk]
 have mm:∀x:Int,max x (-x)*max x (-x)=x*x:=by
  intro x
  rcases Int.le_total 0 x with h|h
  ·rw[show max x (-x)=x by omega]
  ·rw[show max x (-x) = -x by omega,Int.neg_mul_neg]
 rcases ok_xor h hk with h0|h0<;>rw[h0]
 ·rw [show max (0 : Int) (-0) = 0 by decide]
  simp only[Int.zero_add,Int.zero_mul]
  exact (mm _).symm
 ·rw [show max (0 : Int) (-0) = 0 by decide]
  simp only[Int.add_zero,Int.zero_mul]
  exact (mm _).symm

set_option maxRecDepth 100000
section
def b27:Nat:=134217728
def beyL(e:Ed)(px py:Int):Bool:=if e.ay>e.by' then decide ((px-e.bx)*(e.ay-e.by')<(py-e.by')*(e.ax-e.bx)) else decide ((px-e.ax)*(e.by'-e.ay)<(py-e.ay)*(e.bx-e.ax))
def beyA(e:Ed)(px py:Int):Bool:=if e.ax+e.bx>2*e.cx then decide ((px-e.cx)*(px-e.cx)+(py-e.cy)*(py-e.cy)<radZ e*radZ e) else decide ((px-e.cx)*(px-e.cx)+(py-e.cy)*(py-e.cy)>radZ e*radZ e)&&decide (px-e.cx<0)
def beyZ(e:Ed)(px py:Int):Bool:=if px<min e.ax e.bx then true else if px >= max e.ax e.bx then false else if e.k=1 then beyL e px py else beyA e px py
def rayZ(e:Ed)(px py:Int):Int:=if e.ay<=py/\py<e.by'/\beyZ e px py=true then 1 else if e.by'<=py/\py<e.ay/\beyZ e px py=true then -1 else 0
theorem ge_tt{a b:Int}(h:a >= b):decide (a >= b)=true:=by simpa using h
theorem ge_ff{a b:Int}(h:¬a >= b):decide (a >= b)=false:=by simpa using h
theorem le_tt{a b:Int}(h:a<=b):decide (a<=b)=true:=by simpa using h
theorem le_ff{a b:Int}(h:¬a<=b):decide (a<=b)=false:=by simpa using h
theorem Fok.bb{f:FuncId}{args:List V1}{a b:Bool}(h:a=b)(H:Fok Tryz.prog f args (.one (blV b))):Fok Tryz.prog f args (.one (blV a)):=h ▸ H
def ptB(l:List It):Option (Int×Int):=match l with | [.i x _,.i y _]=>some (x,y)|_=>none
def Bd(B:Nat)(x y:Int):Prop:=x.natAbs<=B/\y.natAbs<=B
theorem ptB_rep{V W:World}{r:Nat->Nat}{k:Nat}{l:List It}{p:Int×Int}{B:Nat}(h:ptB l=some p)(hb:Bd B p.1 p.2):∀v,RepV V W r k ⟨true,l⟩ v->RepV V W r k (ptV p.1 p.2 B) v:=by
 unfold ptB at h
 split at h<;>cases h
 intro v ⟨cs,⟨c,d,e,h1,c2,d2,e2,h2,h3⟩,h4,h5⟩
 cases h3
 exact⟨cs,⟨c,d,e,⟨h1.1,hb.1,h1.2.2⟩,c2,[],e2,⟨h2.1,hb.2,h2.2.2⟩,rfl⟩,h4,h5⟩
def epC(f:FuncId)(B:Nat)(g:Ed->Int->Int->AV)(h:∀e px py,e.ok=true->Bd B px py->Fok Tryz.prog f [edV e 3 c26,ptV px py B] (g e px py)):Con where
 f:=f
 g:=fun | [⟨true,l⟩,⟨true,m⟩]=>(match toEd l,ptB m with|some e,some p=>some (g e p.1 p.2,[e.ok=true,Bd B p.1 p.2])|_,_=>none)|_=>none
 ok:=by
  intro args res ps h' hp
  split at h'<;>try cases h'
  split at h'<;>cases h'
  rename_i he hq
  exact (h _ _ _ hp.1 hp.2.1).pre fun W=>rvs_1 (ed_ok he hp.1) (rvs_1 (ptB_rep hq hp.2.1) rvs_0)
theorem rayZ_bd(e:Ed)(px py:Int):(rayZ e px py).natAbs<=1:=by unfold rayZ;split;decide;split<;>decide
end

set_option maxHeartbeats 8000000
set_option maxRecDepth 100000
section
theorem td32(k:Nat):((k:Nat):Int).tdiv 32=((k/32:Nat):Int):=tdiv_nat k 32
theorem tm32(k:Nat):((k:Nat):Int).tmod 32=((k%32:Nat):Int):=tmod_nat k 32
attribute [local go_sem] td32 tm32
end

set_option maxHeartbeats 4000000
set_option maxRecDepth 100000
section
theorem tmod2(d:Nat):Int.tmod (d:Int) 2=(d:Int)%2:=rfl
attribute [local go_sem] tmod2
end
theorem sgn_mul{g:Int}(h:0<g)(a:Int):sgn (g*a)=sgn a:=by
 rcases sgn_cases a with⟨h1,h2⟩|⟨h1,h2⟩|⟨h1,h2⟩
 ·have := Int.mul_pos h h2
  rcases sgn_cases (g*a) with⟨h3,h4⟩|⟨h3,h4⟩|⟨h3,h4⟩<;>omega
 ·rw[h2,Int.mul_zero]
 ·have := Int.mul_neg_of_pos_of_neg h h2
  rcases sgn_cases (g*a) with⟨h3,h4⟩|⟨h3,h4⟩|⟨h3,h4⟩<;>omega
theorem cmpZ_sub(a b:Int):cmpZ a b=sgn (a-b):=by
 rcases cmpZ_case a b with⟨h1,h2⟩|⟨h1,h2⟩|⟨h1,h2⟩<;>rcases sgn_cases (a-b) with⟨h3,h4⟩|⟨h3,h4⟩|⟨h3,h4⟩<;>omega
theorem cmpZ_mul{g:Int}(h:0<g)(a b:Int):cmpZ (g*a) (g*b)=cmpZ a b:=by
 rw[cmpZ_sub,cmpZ_sub,<- Int.mul_sub,sgn_mul h]
theorem sideZ_scale{g:Int}(h:0<g)(a b c:Int):sideZ (g*a) b (g*g*c)=sideZ a b c:=by
 have h2:=Int.mul_pos h h
 unfold sideZ
 rw[sgn_mul h,sgn_mul h2]
 have e1:g*a*(g*a)=g*g*(a*a):=by grind
 have e2:b*b*(g*g*c)=g*g*(b*b*c):=by grind
 rw[e1,e2,cmpZ_mul h2]
theorem sideZ_bd(a b c:Int) : -1<=sideZ a b c/\sideZ a b c<=1:=by
 unfold sideZ
 split
 ·omega
 ·rcases sgn_cases a with⟨h1,h2⟩|⟨h1,h2⟩|⟨h1,h2⟩<;>rcases cmpZ_case (a*a) (b*b*c) with⟨h3,h4⟩|⟨h3,h4⟩|⟨h3,h4⟩<;>rw[h1,h3]<;>decide
theorem cmpR_whole(A s n d:Int):cmpR A s n d 0 0 1=sideZ (A*d) s (n*d):=by
 have:=sideZ_bd (A*d) s (n*d)
 unfold cmpR
 split
 ·omega
 ·rename_i h
  have:sideZ (A*d) s (n*d)=0:=by omega
  rw[this,Int.zero_mul]
theorem side_whole{f d n:Int}(hf:0<=f)(hd:0<d)(hn:0<=n):sideZ (-f*d) 1 (n*d)=sgn (n-d*f*f):=by
 have s1:sgn 1=1:=rfl
 unfold sideZ
 rw[s1,Int.one_mul,Int.mul_comm n d,sgn_mul hd,Int.mul_comm (-f) d,sgn_mul hd]
 rcases sgn_cases n with⟨h1,h2⟩|⟨h1,h2⟩|⟨h1,h2⟩
 ·rcases sgn_cases (-f) with ⟨h3, h4⟩ | ⟨h3, h4⟩ | ⟨h3, h4⟩
  ·omega
  ·obtain rfl : f = 0 := by omega
   rw[h1,h3,if_pos (by decide),Int.mul_zero,Int.sub_zero,h1]
   decide
  ·rw [h1, h3, if_neg (by decide)]
   have e:d * -f*(d * -f)=d*(d*f*f):=by grind
   rw[e,Int.mul_one,Int.one_mul,cmpZ_mul hd,cmpZ_sub]
   have e2:n-d*f*f = -(d*f*f-n):=by omega
   rw[e2]
   rcases sgn_cases (d*f*f-n) with⟨h5,h6⟩|⟨h5,h6⟩|⟨h5,h6⟩<;>rcases sgn_cases (-(d*f*f-n)) with⟨h7,h8⟩|⟨h7,h8⟩|⟨h7,h8⟩<;>omega
 ·subst h2
  rw[h1,Int.mul_zero,if_pos (Int.le_refl 0),Int.zero_sub]
  have e : -(d*f*f)=d*(f * -f):=by grind
  rw[e,sgn_mul hd]
  rcases sgn_cases (-f) with⟨h3,h4⟩|⟨h3,h4⟩|⟨h3,h4⟩
  ·omega
  ·obtain rfl : f = 0 := by omega
   rfl
  ·rw [h3, sgn_mul (show 0 < f by omega), h3]
   decide
 ·omega
def rootOf(add s:Int)(n d:Nat):Rt:=if s=0\/n=0 then ⟨add,0,zero,ofZ 1⟩ else ⟨add,s,ofZ ((n/Nat.gcd n d:Nat):Int),ofZ ((d/Nat.gcd n d:Nat):Int)⟩
theorem small_nat{n k:Nat}(h:n<4294967296 ^ k)(hk:k<=64):small (n:Int)=true:=small_of_lt (k:=k) (by rw[Int.natAbs_natCast];exact h) hk
theorem ofZ_len{n k:Nat}(h:n<4294967296 ^ k):(ofZ (n:Int)).d.length<=k:=by
 simp only[ofZ,Int.natAbs_natCast]
 exact (digs_length_le _ _).2 h
theorem ofP_nat{add s:Int}{n d:Nat}(hs : -1<=s/\s<=1)(hn:n<4294967296 ^ 8)(hd:d<4294967296 ^ 8)(h0:0<d):ofP add s (ofZ (n:Int)) (ofZ (d:Int))=(rootOf add s n d,true):=by
 have sn:=small_nat hn (by decide)
 have sd:=small_nat hd (by decide)
 have vn:val (ofZ (n:Int)).d=n:=by rw[val_ofZ];rfl
 have vd:val (ofZ (d:Int)).d=d:=by rw[val_ofZ];rfl
 have hb:ofBad s (ofZ (n:Int)) (ofZ (d:Int))=false:=ofBad_of hs.1 hs.2 (ofZ_right sn) (ofZ_right sd) neg_ofZ (by rw[ofZ_z];omega)
 unfold rootOf
 by_cases hz:s=0\/n=0
 ·rw [if_pos hz]
  unfold ofP
  rw[hb,if_neg (by simp),if_pos (by rw[ofZ_z];omega)]
 ·rw [if_neg hz, ofP_main neg_ofZ (by rw [ofZ_z]; omega) hb (by rw [ofZ_z]; omega), vn, vd, if_neg]
  have h1:=ofZ_len (Nat.lt_of_le_of_lt (Nat.div_le_self n (Nat.gcd n d)) hn)
  have h2:=ofZ_len (Nat.lt_of_le_of_lt (Nat.div_le_self d (Nat.gcd n d)) hd)
  omega
theorem whole_ok{add s:Int}{n d:Nat}(hs : -1<=s/\s<=1)(hn:n<4294967296 ^ 8)(hd:d<4294967296 ^ 8)(h0:0<d):(rootOf add s n d).Ok/\(rootOf add s n d).right=true:=by
 have dg:∀z,Dig (ofZ z).d:=fun z=>dig_digs _
 obtain⟨h1,h2,_⟩:=ofP_ok (dg n) (dg d) (ofP_nat (add:=add) hs hn hd h0)
 exact⟨h1,right_of h2 h1.nr h1.dr⟩
theorem cmp_int{add s x:Int}{n d:Nat}(h0:0<d)(hs:s=0->n=0):cmpR ((rootOf add s n d).add-x) (rootOf add s n d).s (rootOf add s n d).n.z (rootOf add s n d).d.z 0 0 1=sideZ ((add-x)*d) s ((n:Int)*d):=by
 rw[cmpR_whole]
 unfold rootOf
 by_cases hz:s=0\/n=0
 ·have hn : n = 0 := by rcases hz with h | h; exact hs h; exact h
  rw[if_pos hz,hn]
  simp only
  rw[ofZ_z,zero_z]
  have e:∀y t:Int,sideZ y t 0=sgn y:=fun y t=>by
   have:sgn 0=0:=rfl
   unfold sideZ
   rw[this,Int.mul_zero,Int.mul_zero,if_pos (Int.le_refl 0)]
   rcases sgn_cases y with⟨h,_⟩|⟨h,_⟩|⟨h,_⟩<;>rw[h]<;>decide
  rw[Int.zero_mul,e,show ((0:Nat):Int)*(d:Int)=0 by simp,e,Int.mul_one,Int.mul_comm,sgn_mul (by omega)]
 ·rw [if_neg hz]
  simp only
  rw[ofZ_z,ofZ_z]
  have hg:0<Nat.gcd n d:=Nat.gcd_pos_of_pos_right _ h0
  have e1:Nat.gcd n d*(n/Nat.gcd n d)=n:=Nat.mul_div_cancel' (Nat.gcd_dvd_left _ _)
  have e2:Nat.gcd n d*(d/Nat.gcd n d)=d:=Nat.mul_div_cancel' (Nat.gcd_dvd_right _ _)
  have e1':(n:Int)=(Nat.gcd n d:Int)*((n/Nat.gcd n d:Nat):Int):=by rw[<- Int.natCast_mul,e1]
  have e2':(d:Int)=(Nat.gcd n d:Int)*((d/Nat.gcd n d:Nat):Int):=by rw[<- Int.natCast_mul,e2]
  have hg2:(0:Int)<(Nat.gcd n d:Int):=by omega
  generalize (Nat.gcd n d:Int)=g at *
  generalize ((n/Nat.gcd n d:Nat):Int)=N at *
  generalize ((d/Nat.gcd n d:Nat):Int)=D at *
  rw[e1',e2',show (add-x)*(g*D)=g*((add-x)*D) by grind,show g*N*(g*D)=g*g*(N*D) by grind,sideZ_scale hg2]

set_option maxRecDepth 100000
section
theorem addP_z{x y:Int}(hx:small x=true)(hy:small y=true)(hs:small (x+y)=true):addP (ofZ x) (ofZ y)=(ofZ (x+y),true):=by
 unfold addP fit
 rw[ofZ_right hx,ofZ_right hy,ofZ_z,ofZ_z,hs]
 rfl
theorem zadd_c(x y:Int)(A B:Nat)(h:decide (A+B<c2048)=true)(b1:x.natAbs<=A)(b2:y.natAbs<=B):(x+y).natAbs<=A+B/\addP (ofZ x) (ofZ y)=(ofZ (x+y),true):=by
 have h:=of_decide_eq_true h
 have b3:(x+y).natAbs<=A+B:=by omega
 exact⟨b3,addP_z (small_c b1 (by omega)) (small_c b2 (by omega)) (small_c b3 h)⟩
theorem cmpZ_b(a b:Int):(cmpZ a b).natAbs<=1/\I64 (cmpZ a b):=by
 have:=cmpZ_bd a b
 exact⟨by omega,by unfold I64;omega⟩
def zCmpC(f:FuncId)(H:∀(a b:Nm) (n m:Bool) (p q:Option Addr) (l c k d:Nat) (w:World),NR w n p l c a->NR w m q k d b->Calls Tryz.prog f #[NmV n p l c,NmV m q k d] w fun e w'=>e=.returned (.int .i64 (cmpP a b))/\Ext w w'):Con where
 f:=f
 g:=fun | [⟨true,l⟩,⟨true,m⟩]=>(match toZi l,toZi m with|some (x,A),some (y,B)=>if A<c2048/\B<c2048 then some (.one (inV (cmpZ x y) 1),[]) else none|_,_=>none)|_=>none
 ok:=by
  intro args res ps h hp
  split at h<;>try cases h
  split at h<;>try cases h
  split at h<;>cases h
  rename_i x A y B hx hy hb
  intro W vals hv
  obtain⟨v1,g1,l1,rfl,hv1⟩:=rvs_cons.1 hv
  obtain⟨v2,g2,l2,rfl,hv2⟩:=rvs_cons.1 hv1
  cases hv2
  obtain⟨b1,_,_,_,_,rfl,h1⟩:=toZi_rep hx g1
  obtain⟨b2,_,_,_,_,rfl,h2⟩:=toZi_rep hy g2
  exact (H _ _ _ _ _ _ _ _ _ _ W h1 h2).mono fun _ _ h=>gv_in (cmpZ_b _ _) (cmpP_side (small_c b1 hb.1) (small_c b2 hb.2) ▸ h)
def d1ZRight:Con where
 f:=159
 g:=fun | [⟨true,[.d (.zi x A)]⟩]=>if A<c2048 then some (.one ⟨false,[.b true]⟩,[]) else none|_=>none
 ok:=by
  intro args res ps h hp
  split at h<;>try cases h
  split at h<;>cases h
  rename_i x A hb
  intro W vals hv
  simp only[rvs_cons,rvs_nil,rv_t,rl_zi,rl_nil] at hv
  obtain⟨_,⟨_,⟨b1,n,p,l,c,h1,_,rfl,rfl⟩,rfl⟩,_,rfl,rfl⟩:=hv
  have e:(ofZ x).right=true:=ofZ_right (small_c b1 hb)
  exact (r01_Right _ _ _ _ _ W h1).mono fun _ _ h=>⟨_,h.1,RepI.val (i:=.b true) (by show [_]=[_];rw[e]),h.2⟩
def c672:Nat:=4294967296 ^ 21
theorem zi_up{V W:World}{r:Nat->Nat}{k:Nat}{z:Int}{A B:Nat}(h:A<=B):∀v,RepV V W r k ⟨true,[.d (.zi z A)]⟩ v->RepV V W r k (ziV z B) v:=by
 intro v hv
 obtain⟨_,hw,rfl⟩:=rv_t.1 hv
 obtain⟨b1,h2⟩:=rl_zi.1 hw
 exact rv_t.2 ⟨_,rl_zi.2 ⟨Nat.le_trans b1 h,h2⟩,rfl⟩
def sideC(f:FuncId)(M:Nat)(H:∀a b c:Int,a.natAbs<=M->b.natAbs<=M->c.natAbs<=M->0<=c->Fok Tryz.prog f [ziV a M,ziV b M,ziV c M] (.one (inV (sideZ a b c) lim))):Con where
 f:=f
 g:=fun | [⟨true,[.d (.zi x A)]⟩,⟨true,[.d (.zi y B)]⟩,⟨true,[.d (.zi d D)]⟩]=>if A<=M/\B<=M/\D<=M then some (.one (inV (sideZ x y d) 1),[0<=d]) else none|_=>none
 ok:=by
  intro args res ps h hp
  split at h<;>try cases h
  split at h<;>cases h
  rename_i x A y B d D hb
  intro W vals hv
  obtain⟨v1,g1,l1,e1,hv1⟩:=rvs_cons.1 hv
  obtain⟨v2,g2,l2,e2,hv2⟩:=rvs_cons.1 hv1
  obtain⟨v3,g3,_⟩:=rvs_cons.1 hv2
  have bd:∀ {z:Int} {A:Nat} {v:Value},RepV W W (fun _=>0) 0 ⟨true,[.d (.zi z A)]⟩ v->z.natAbs<=A:=fun h=>by
   obtain⟨_,hw,_⟩:=rv_t.1 h
   exact (rl_zi.1 hw).1
  have hs:=sideZ_bd x y d
  exact Fok.bd (H x y d (Nat.le_trans (bd g1) hb.1) (Nat.le_trans (bd g2) hb.2.1) (Nat.le_trans (bd g3) hb.2.2) hp.1) (by omega) W vals (rvs_1 (zi_up hb.1) (rvs_1 (zi_up hb.2.1) (rvs_1 (zi_up hb.2.2) fun _ h=>h)) _ hv)
end

set_option maxRecDepth 100000
section
def tlE(s:Sh):V1:=⟨false,[.ro 7 (s.n-1) fun j=>edI (s.e (1+j))]⟩
def lnE(n:Nat):V1:=⟨false,[.i (n:Int) lim]⟩
def sbD(s:Sh)(j:Nat):Ds:=⟨[(21,.le (inV (j:Int) 2000)),(1,.eq (ptrN 0)),(2,.eq (ptrN 1)),(3,.eq (ptrN 2)),(19,.eq (tlE s)),(20,.eq (lnE (s.n-1)))],shB s++[rcZ,bxB s.e j]⟩
def bxS(e:Nat->Ed)(k:Nat):List Pf:=[⟨min (x0N e k) (min (e (1+k)).ax (e (1+k)).bx)=x0N e (k+1),by rw[Nat.add_comm];rfl⟩,⟨min (y0N e k) (min (e (1+k)).ay (e (1+k)).by')=y0N e (k+1),by rw[Nat.add_comm];rfl⟩,⟨max (x1N e k) (max (e (1+k)).ax (e (1+k)).bx)=x1N e (k+1),by rw[Nat.add_comm];rfl⟩,⟨max (y1N e k) (max (e (1+k)).ay (e (1+k)).by')=y1N e (k+1),by rw[Nat.add_comm];rfl⟩]
theorem sbox_ok(s:Sh)(hn:s.n<=1000):Fok Tryz.prog 124 [shpV s] (.one (boxV s)):=by
 by_cases h0:s.n=0
 ·unfold boxV
  rw[if_pos h0]
  exact fok [] [true] [pT (eq_tt (show (s.n:Int)=0 by omega))] (by kernel_rfl)
 ·unfold boxV
  rw[if_neg h0]
  have o:=orc (X:=[]) (K:=[]) (f:=124) (id:=10) (n:=nF 124) (s.n-1) (sbD s) (fun _=>[]) (e:=.ex 0) (d1:=⟨[(1,.eq (ptrN 0)),(2,.eq (ptrN 1)),(3,.eq (ptrN 2))],shB s++[rcZ,bxB s.e (s.n-1)]⟩) (by kernel_rfl) (fun _=>by kernel_rfl) (fun _ _=>LT.nil)
   (fun k hk=>⟨[true],[pT (lt_tt (show (k:Int)<((s.n-1:Nat):Int) by omega)),pP (show 0<=(k:Int)/\(k:Int)<(s.n-1:Nat) by omega),pI k (by omega),pR (ptrN 0),pR (ptrN 1),pR (ptrN 2),pR (tlE s),pR (lnE (s.n-1))]++pSh s++bxS s.e k,by kernel_rfl⟩)
   ⟨[false],[pF (lt_ff (show ¬((s.n-1:Nat):Int)<((s.n-1:Nat):Int) by omega)),pR (ptrN 0),pR (ptrN 1),pR (ptrN 2)]++pSh s++bxR s.e (s.n-1),by kernel_rfl⟩ nofun
  exact fokL [] [] _ (LT.cons o LT.nil) [false] ([pF (eq_ff (show (s.n:Int)≠0 by omega)),pP (show (0:Int)<=0/\(0:Int)<s.n by omega),pP (show (0:Int)<=1/\(1:Int)<=s.n by omega),⟨(0:Int)=((0:Nat):Int),rfl⟩,pR (ptrN 0),pR (ptrN 1),pR (ptrN 2),pR (tlE s),pR (lnE (s.n-1))]++pSh s++bxR s.e 0) (by kernel_rfl)
end

set_option maxHeartbeats 1000000
set_option maxRecDepth 100000
section
theorem shape_product(x y:Nat)(w:World)(hx:x<9223372036854775808)(hy:y<9223372036854775808):Calls Tryz.prog 216 #[.int .i64 x,.int .i64 y] w fun e w'=>e=.returned (.agg #[.int .u64 ((x:Int)*y/18446744073709551616),.int .u64 ((x:Int)*y%18446744073709551616)])/\Ext w w':=by
 have c1:IntKind.u64.wrap (x:Int)=x:=by rw[IntKind.wrap_u64];omega
 have c2:IntKind.u64.wrap (y:Int)=y:=by rw[IntKind.wrap_u64];omega
 go_enter Tryz.func216,Tryz.ntmps216
 go_wp2_with fail
 refine (Tryz.bits_Mul64 x y (by omega) (by omega) _).mono ?_
 rintro e w1 ⟨rfl,rfl⟩
 go_wp2
 refine bodyPost_ret (v:=.agg #[.int .u64 ((x:Int)*y/18446744073709551616),.int .u64 ((x:Int)*y%18446744073709551616)]) (by simp only[results,Tryz.results216];go_simp) rfl ?_
 exact⟨rfl,bxx⟩
theorem shape_atMost(a b c d:Int)(w:World):Calls Tryz.prog 217 #[.agg #[.int .u64 a,.int .u64 b],.agg #[.int .u64 c,.int .u64 d]] w fun e w'=>e=.returned (.bool (decide (a<c\/(a=c/\b<=d))))/\Ext w w':=by
 have hq:∀w,(Op.equalIn 10000 252 (.agg #[.int .u64 a,.int .u64 b]) (.agg #[.int .u64 c,.int .u64 d])).run Tryz.prog w=.ok (a==c&&b==d) w:=fun w=>by
  obtain⟨i,hi⟩:=Option.isSome_iff_exists.1 (show (Tryz.prog.info? 185).isSome=true by kernel_rfl)
  have hc:Tryz.prog.cellsOf 185=1:=by kernel_rfl
  rw[run_equalIn_array w 9999 (n:=2) _ _ (by kernel_rfl) hi,hc]
  simp only[show List.range 2=[0,1] from rfl,Op.eqItems]
  have hs:szT Tryz.prog 185=some 1:=by kernel_rfl
  have ha:agT Tryz.prog 185=some false:=by kernel_rfl
  have q0:∀x y:Int,(part 185 #[.int .u64 x,.int .u64 y] 0).run Tryz.prog w=.ok (.int .u64 x) w:=fun x y=>by
   simpa[cellsV] using run_partT (cs:=[.int .u64 x,.int .u64 y]) (o:=0) (W:=w) hs ha (by simp) (by simp)
  have q1:∀x y:Int,(part 185 #[.int .u64 x,.int .u64 y] 1).run Tryz.prog w=.ok (.int .u64 y) w:=fun x y=>by
   simpa[cellsV] using run_partT (cs:=[.int .u64 x,.int .u64 y]) (o:=1) (W:=w) hs ha (by simp) (by simp)
  have q2:∀x y:Int,(Op.equalIn 9999 185 (.int .u64 x) (.int .u64 y)).run Tryz.prog w=.ok (x==y) w:=fun x y=>run_equalIn_int w 9998 185 .u64 .u64 _ _ (by kernel_rfl)
  simp only[Nat.zero_mul,Nat.one_mul,Sem.run_bind,q0,q1,q2,Result.andThen_ok]
  cases h0:(a==c)<;>cases h1:(b==d)<;>simp[Sem.run_bind,q1,q2,h1]
 obtain⟨z,hz⟩:∃z,decide (a<c\/(a=c/\b<=d))=z:=⟨_,rfl⟩
 rw[hz]
 have hz:=Lib.hid hz
 cases h0:(a==c)<;>cases h1:decide (a<c)<;>cases h2:(b==d)<;>cases h3:decide (b<d)
 all_goals
  go_enter Tryz.func217,Tryz.ntmps217
  go_wp2_with fail
  go_ret
  refine⟨?_,bxx⟩
  have hz:=hz.out
  simp at h0 h1 h2 h3
  rw[<- hz]
  simp
  omega
def wdV(x y:Int):V1:=⟨true,[.v (.int .u64 (x*y/18446744073709551616)),.v (.int .u64 (x*y%18446744073709551616))]⟩
def cProd:Con where
 f:=216
 g:=fun | [⟨false,[.i x _]⟩,⟨false,[.i y _]⟩]=>some (.one (wdV x y),[0<=x,0<=y])|_=>none
 ok:=by
  intro args res ps h hp
  split at h<;>cases h
  rename_i x A y B
  intro W vals hv
  simp only[rvs_cons,rvs_nil,rv_i] at hv
  obtain⟨_,⟨⟨_,b1⟩,rfl⟩,_,rfl,_,⟨⟨_,b2⟩,rfl⟩,_,rfl,rfl⟩:=hv
  obtain⟨x,rfl⟩:=Int.eq_ofNat_of_zero_le hp.1
  obtain⟨y,rfl⟩:=Int.eq_ofNat_of_zero_le hp.2.1
  unfold I64 at b1 b2
  exact (shape_product x y W (by omega) (by omega)).mono fun _ _ h=>⟨_,h.1,rv_t.2 ⟨_,rl_v.2 ⟨rfl,_,rfl,rl_v.2 ⟨rfl,_,rfl,rfl⟩⟩,rfl⟩,h.2⟩
def cAtM:Con where
 f:=217
 g:=fun | [⟨true,[.v (.int .u64 a),.v (.int .u64 b)]⟩,⟨true,[.v (.int .u64 c),.v (.int .u64 d)]⟩]=>some (.one (blV (decide (a<c\/(a=c/\b<=d)))),[])|_=>none
 ok:=by
  intro args res ps h hp
  split at h<;>cases h
  intro W vals hv
  simp only[rvs_cons,rvs_nil,rv_t,rl_v,rl_nil] at hv
  obtain⟨_,⟨_,⟨_,_,rfl,_,_,rfl,rfl⟩,rfl⟩,_,rfl,_,⟨_,⟨_,_,rfl,_,_,rfl,rfl⟩,rfl⟩,_,rfl,rfl⟩:=hv
  exact (shape_atMost _ _ _ _ W).mono fun _ _ h=>gv_bl h
theorem words_le{u v:Int}(hu:0<=u)(hv:0<=v):(u/18446744073709551616<v/18446744073709551616\/(u/18446744073709551616=v/18446744073709551616/\u%18446744073709551616<=v%18446744073709551616)) <-> u<=v:=by omega
end
end Go.Proofs.YtghemgdfmldoeaaGreat
