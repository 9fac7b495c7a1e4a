import Derived.Test.YtghemgdfmldoeaaGreatP22
import Derived.Test.YtghemgdfmldoeaaGreatRows
import Derived.ProofKit
import Derived.OpenShut
import Derived.ShutString
import Derived.ChangeOld
import Derived.Lib.SmallJoins
set_option linter.unusedVariables false
set_option linter.unusedSimpArgs false
namespace Go.Proofs.YtghemgdfmldoeaaGreat
open Go.RowKit
theorem law_true{f:FuncId}{args:List V1}(h:ae Tryz.prog f args (.one (aN true))){W:World}{vals:List Value}(hv:aV W W (λ_=>0) 0 args vals):Calls Tryz.prog f vals.toArray W λe w'=>e=.returned (.bool true)/\Below W.heap.size W w' :=
 (h W vals hv).mono λe w' ⟨v,e1,h1,h2⟩=>⟨by rw[e1,(lg.1 h1).2],h2⟩
end Go.Proofs.YtghemgdfmldoeaaGreat
set_option maxRecDepth 100000
namespace Go.Proofs.YtghemgdfmldoeaaGreat.fin
open Go.ChangeShapes Go.WideShapes Go.ChangeAt Go.RowKit Go.Joins
set_option linter.unusedVariables false
def In64(z:Int):Prop := -9223372036854775808<=z/\z<=9223372036854775807
theorem dA{α:Type}{L:List α}{n:Nat}(h:L.length=n+1):∃x M,L=x::M/\M.length=n:=by
 cases L with|nil=>simp at h|cons x M=>exact⟨x,M,rfl,by simpa using h⟩
theorem own:ownKnob Tryz.prog.godebug=none:=by kernel_rfl
theorem laidOut:laidOutB Tryz.prog=true:=by kernel_rfl
def Au(k:IntKind)(w:World)(a:Option Addr)(len cap:Nat)(zs:List Int):Prop :=
 (a=none/\len=0/\cap=0/\zs=[]) \/
 ∃x,a=some x/\len<=cap/\cap<=maxLen/\zs.length=cap/\(∀i,i<zs.length->w.cell? (x.add i)=some (.int k (zs.getD i 0)))/\∀n∈zs,(Lit.int k n).wf=true
theorem Au.ints{w:World}{a:Option Addr}{len cap:Nat}{zs:List Int}(h:Au .i64 w a len cap zs):Ints w a len (zs.take len)/\len<=cap/\cap<=9223372036854775807:=by
 rcases h with⟨rfl,rfl,rfl,rfl⟩|⟨x,rfl,hl,hm,hz,hc,_⟩
 ·exact⟨⟨rfl,by omega,λh=>absurd h (by omega)⟩,by omega,by omega⟩
 ·unfold maxLen at hm;refine⟨⟨by rw[List.length_take,hz];omega,by omega,λh0=>?_⟩,hl,by omega⟩;obtain⟨b,o,rfl,hd⟩:=ints_at hc (by omega);refine⟨b,o,rfl,?_,λi hi=>?_⟩
  ·exact World.block_lt_of_cell? w _ (hd 0 (by omega))
  ·rw [hd i (by omega), List.getElem?_take_of_lt hi];rfl
theorem yM{W:World}{base:Nat}{v:Value}(h:Cell.okWide Tryz.prog W .any base 3 v):∃z,v=.int .i64 z/\In64 z:=by
 have hu:=Tryz.underlying3;unfold Cell.okWide at h;rw[hu] at h;cases v with|int k z =>
  simp only[Cell.ok,hu,IntKind.has] at h;obtain⟨rfl,h1,h2⟩:=h;simp[IntKind.min,IntKind.max,IntKind.signed,IntKind.bits] at h1 h2;exact⟨z,rfl,h1,h2⟩|_=>simp[Cell.ok,hu] at h
end Go.Proofs.YtghemgdfmldoeaaGreat.fin
namespace Go.Proofs.YtghemgdfmldoeaaGreat
open Go.RowKit
def e7(e:Ed):List (Int×Nat):=[(e.k,lim),(e.ax,lim),(e.ay,lim),(e.bx,lim),(e.by',lim),(e.cx,lim),(e.cy,lim)]
def fW(n:Nat)(e:Nat->Ed):It:=.d (.ed n λi=>e7 (e i))
def bY(s:Sh):List It:=[.i s.k lim,fW s.n s.e,.i s.r lim]
def bf(s:Sh):V1:=⟨true,bY s⟩
theorem D7{R:List It->List Value->Prop}{V:World}{z n:Nat}{f g:Nat->List It}{v:Value}(h:∀i,i<n->f i=g i):fU R V z n f v->fU R V z n g v
 | ⟨a,c,e,h1,h2,h3⟩=>⟨a,c,e,h1,h2,λi hi=>by rw[<- h i hi];exact h3 i hi⟩
theorem JK{W:World}:∀ {l:List (Int×Nat)} {cs:List Value},aE W (l.map λx=>It.i x.1 x.2) cs->cs=l.map (λx=>Value.int .i64 x.1)/\∀x∈l,x.1.natAbs<=x.2/\I64 x.1
 | [],_,e=>⟨e,nofun⟩|_::_,_,⟨c,d,e,h1,h2⟩=>by
  obtain⟨k1,k2⟩:=JK h2;obtain⟨rfl,k3⟩:=h1;subst e;rw[k1];exact⟨rfl,λx hx=>by rcases List.mem_cons.1 hx with rfl|hx;exact k3;exact k2 x hx⟩
theorem a43{W:World}{n:Nat}{e:Nat->Ed}{v:Value}(h:fU (aE W) W 7 n (λi=>cV (e i)) v)(hT:∀g o m c,v=.slice (some ⟨g,o,none⟩) m c->∀(xs:Array Value) (T:TypeId) (fr:Nat×Nat),W.heap[g]? = some (.cells xs T fr)->T=tE):lY W n (λi=>e7 (e i)) v:=by
 obtain⟨a,c,rfl,h1,h2,h3⟩:=h;refine⟨a,c,rfl,h1,h2,λi hi=>?_⟩;obtain⟨g,o,xs,T,rfl,k1,k2,cs,d,k3,k4⟩:=h3 i hi;have hE:T.1=tE:=hT g o n c rfl xs T.1 T.2 k1;obtain⟨q1,q2⟩:=JK (l:=e7 (e i)) k4;exact⟨g,o,xs,T.2,rfl,by rw[<- hE];exact k1,k2,⟨d,by rw[k3,q1]⟩,q2⟩
def tn(P:Program)(E:Env)(call:gw)(L:List (Nat×bO)):Nat->Code->St->List Bool->Option (St×List Prop×List Bool)
 | 0,_,s,q=>some (s,[],q)
 | n+1,.seq a b,s,q=>match fq P E call L a s q with
  | some (.nm,s,ps,q)=>(tn P E call L n b s q).map λr=>(r.1,ps++r.2.1,r.2.2)
  | _=>none
 | _+1,_,_,_=>none
def nT:Nat->Code->Code
 | 0,c=>c|n+1,.seq _ b=>nT n b|_+1,_=>.skip
theorem LS{P:Program}{E:Env}{call:gw}{L:List (Nat×bO)}(hs:iP P E call){Q:Exit->Act->World->Prop}:∀ {n:Nat} {c:Code} {V:World} {s s':St} {q q':List Bool} {ps:List Prop} {a:Act} {w:World},eO P (eB c) L->tn P E call L n c s q=some (s',ps,q')->aw ps->JJ V s a w ->
  (∀a' W,JJ V s' a' W->(nT n c).wp P Q a' W)->c.wp P Q a w
 | 0,c,V,s,s',q,q',ps,a,w,_,h,_,hJ,hQ=>by
  unfold tn at h;cases h;exact hQ _ _ hJ
 | n+1,c,V,s,s',q,q',ps,a,w,hL,h,hp,hJ,hQ=>by
  cases c with
  | seq x y =>
   have hL1:eO P (eB x) L:=λc hc=>hL c (List.mem_append_left _ hc)
   have hL2:eO P (eB y) L:=λc hc=>hL c (List.mem_append_right _ hc)
   unfold tn at h;split at h
   ·rename_i s1 ps1 q1 h1;cases h2:tn P E call L n y s1 q1 with
    | none=>simp[h2] at h
    | some z =>
     obtain⟨s2,ps2,q2⟩:=z;simp only[h2,Option.map_some,Option.some.injEq,Prod.mk.injEq] at h;obtain⟨rfl,rfl,rfl⟩:=h;obtain⟨p1,p2⟩:=aw.app hp;exact wp_seq (kt hs hL1 h1 p1 hJ λa' W hW=>LS hs hL2 h2 p2 hW hQ)
   ·cases h
  | _=>unfold tn at h;cases h
noncomputable def Jr(X:List Eff)(K:List ah)(L:List (Nat×bO))(f:FuncId)(n:Nat)(args:List V1)(d:Ds)(q:List Bool):Option (List Prop) :=
 match tn Tryz.prog (env X) (m9 X K) L n (dC Tryz.prog f) ⟨⟨args.length+(nF f-args.length),(Tr.full 12).fill 0 (args.map λv=>.one (pL v))⟩,[],0⟩ q with
 | some (s,ps,[])=>if qG f L&&(s.t.n==nF f) then (kU s d).map (ps++·) else none
 | _=>none
theorem Q7{X:List Eff}{K:List ah}{L:List (Nat×bO)}{f:FuncId}(hL:LT f L){n:Nat}{args:List V1}{d:Ds}{q:List Bool}(pf:List Pf)(h:Jr X K L f n args d q=some (pf.map Pf.p)){w:World}{vals:List Value}(hv:aV w w (λ_=>0) 0 args vals){Q:Exit->Act->World->Prop}
  (hQ:∀a' W,JJ w (bI (nF f) d) a' W->(nT n (dC Tryz.prog f)).wp Tryz.prog Q a' W):(dC Tryz.prog f).wp Tryz.prog Q { tmps:=vals.toArray++Array.replicate (nF f-vals.toArray.size) undef,defers:=[] } w:=by
 have hp:=ku pf;rw[show pf.map Pf.p=pf.map Pf.p from rfl] at h;generalize pf.map Pf.p=ps at h hp;unfold Jr at h;split at h
 ·rename_i s ps1 h1;split at h
  ·rename_i hc;simp only[Bool.and_eq_true,beq_iff_eq] at hc;obtain⟨hk,hn⟩:=hc;cases h2:kU s d with|none=>simp[h2] at h|some ps2 =>
    simp only[h2,Option.map_some,Option.some.injEq] at h;subst h;obtain⟨p1,p2⟩:=aw.app hp;have hLp:eO Tryz.prog (eB (dC Tryz.prog f)) L:=by
     cases L with|nil=>exact eO.nil|cons x L =>
      have g:eO Tryz.prog (oY f) (x::L):=LT.ok (ui hk x (List.mem_cons_self ..)) hL (ui hk);rw[Iq] at g;exact g
    exact LS (od X K) hLp h1 p1 ⟨_,_,Ej hv⟩ λa' W hW=>hQ a' W (vR h2 p2 hn hW)
  ·cases h
 ·cases h
structure bG where
 x:Int
 y:Int
 t:Int
 m:Bool
structure aI where
 s:Sh
 c:Bool
structure cA where
 s:Sh
 f:Int
 t:Int
 p:Bool
structure je where
 c:Int
 a:ByteArray
 b:ByteArray
 x:Int
 y:Int
 l:Int
structure Pnl where
 nc:Nat
 c:Nat->bG
 nt:Nat
 t:Nat->Sh
 nm:Nat
 m:Nat->Int×Int
 r:Int
def aX(m:bG):List It:=[.i m.x lim,.i m.y lim,.i m.t lim,.v (.bool m.m)]
def aS(d:aI):List It:=[.i d.s.k lim,fW d.s.n d.s.e,.i d.s.r lim,.v (.bool d.c)]
def aY(h:cA):List It:=[.i h.s.k lim,fW h.s.n h.s.e,.i h.s.r lim,.i h.f lim,.i h.t lim,.v (.bool h.p)]
def cS(p:je):List It:=[.i p.c lim,.v (.string p.a),.v (.string p.b),.i p.x lim,.i p.y lim,.i p.l lim]
def ptI(p:Int×Int):List It:=[.i p.1 lim,.i p.2 lim]
def YZ(n:Nat)(f:Nat->List (Int×Nat)):Nat->Ed:=λi=>match f i with
 | [k,ax,ay,bx,by',cx,cy]=>⟨k.1,ax.1,ay.1,bx.1,by'.1,cx.1,cy.1⟩|_=>⟨0,0,0,0,0,0,0⟩
def vV:List It->bG
 | [.i x _,.i y _,.i t _,.v (.bool m)]=>⟨x,y,t,m⟩|_=>⟨0,0,0,false⟩
def gK:List It->Sh
 | [.i k _,.d (.ed n f),.i r _]=>⟨k,n,YZ n f,r⟩|_=>⟨0,0,λ_=>⟨0,0,0,0,0,0,0⟩,0⟩
def qi:List It->aI
 | [a,b,c,.v (.bool d)]=>⟨gK [a,b,c],d⟩|_=>⟨gK [],false⟩
def vG:List It->cA
 | [a,b,c,.i f _,.i t _,.v (.bool p)]=>⟨gK [a,b,c],f,t,p⟩|_=>⟨gK [],0,0,false⟩
def Jq:List It->je
 | [.i c _,.v (.string a),.v (.string b),.i x _,.i y _,.i l _]=>⟨c,a,b,x,y,l⟩|_=>⟨0,default,default,0,0,0⟩
def wA:List It->Int×Int
 | [.i x _,.i y _]=>(x,y)|_=>(0,0)
def pM(z:Nat):It->Option (Nat×(Nat->List It))
 | .ro z' n f=>if z'=z then some (n,f) else none|.v (.slice none 0 0)=>some (0,λ_=>[])|_=>none
theorem uN{α:Type}{I:α->List It}{A:List It->α}{V W:World}{r:Nat->Nat}{k z n:Nat}{i:It}{f:Nat->List It}{cs:List Value}(h:pM z i=some (n,f))(hp:∀j,j<n->f j=I (A (f j)))(hr:af V W r k i cs):af V W r k (.ro z n λj=>I (A (f j))) cs:=by
 unfold pM at h;split at h
 ·split at h <;> cases h;rename_i hz;subst hz;obtain⟨v,e,hr⟩:=hr;exact⟨v,e,D7 hp hr⟩
 ·cases h;obtain⟨e,_⟩:=hr;exact⟨_,e,none,0,rfl,Nat.le_refl _,Nat.zero_le _,λj hj=>absurd hj (Nat.not_lt_zero _)⟩
 ·cases h
structure gg where
 α:Type
 C:α->V1
 d:V1->Option (α×List Prop)
 ok:∀v a ps,d v=some (a,ps)->aw ps->∀W x,au W W (λ_=>0) 0 v x->au W W (λ_=>0) 0 (C a) x
def yl{α:Type}(z:Nat)(I:α->List It)(A:List It->α):gg where
 α:=Nat×(Nat->α)
 C:=λa=>⟨false,[.ro z a.1 λj=>I (a.2 j)]⟩
 d:=fun|⟨false,[i]⟩=>(pM z i).map λnf=>((nf.1,λj=>A (nf.2 j)),[∀j,j<nf.1->nf.2 j=I (A (nf.2 j))])|_=>none
 ok:=by
  intro v a ps h hp W x hr;split at h
  ·rename_i i;cases hq:pM z i with|none=>simp[hq] at h|some nf =>
    obtain⟨n,f⟩:=nf;simp only[hq,Option.map_some,Option.some.injEq,Prod.mk.injEq] at h;obtain⟨rfl,rfl⟩:=h;exact af.val (uN hq hp.1 hr.scal)
  ·cases h
def tB:gg:=yl 4 aS qi
def tC:gg:=yl 6 aY vG
def yj:gg:=yl 6 cS Jq
def NY:gg:=yl 3 bY gK
def qh:gg where
 α:=Sh
 C:=bh;d:=fun|⟨true,l⟩=>oe l|_=>none
 ok:=by
  intro v a ps h hp W x hr;split at h
  ·exact wZ h hp hr
  ·cases h
def yi:gg where
 α:=Int
 C:=λz=>aj z lim
 d:=fun|⟨false,[.i z _]⟩=>some (z,[])|_=>none
 ok:=by
  intro v a ps h hp W x hr;split at h<;>cases h;rw[aj,dL] at *;exact⟨⟨aQ hr.1.2,hr.1.2⟩,hr.2⟩
def tD:gg where
 α:=Int×Int
 C:=λp=>⟨true,ptI p⟩
 d:=fun|⟨true,[.i x _,.i y _]⟩=>some ((x,y),[])|_=>none
 ok:=by
  intro v a ps h hp W x hr;split at h<;>cases h;obtain⟨cs,⟨_,_,rfl,⟨rfl,_,i1⟩,_,_,rfl,⟨rfl,_,i2⟩,rfl⟩,e,_⟩:=hr;exact⟨_,⟨_,_,rfl,⟨rfl,aQ i1,i1⟩,_,[],rfl,⟨rfl,aQ i2,i2⟩,rfl⟩,e,nofun⟩
def oL:gg where
 α:=bG
 C:=λm=>⟨true,aX m⟩
 d:=fun|⟨true,[.i x _,.i y _,.i t _,.v (.bool m)]⟩=>some (⟨x,y,t,m⟩,[])|_=>none
 ok:=by
  intro v a ps h hp W x hr;split at h<;>cases h;obtain⟨cs,⟨_,_,rfl,⟨rfl,_,i1⟩,_,_,rfl,⟨rfl,_,i2⟩,_,_,rfl,⟨rfl,_,i3⟩,_,_,rfl,hb,rfl⟩,e,_⟩:=hr;exact⟨_,⟨_,_,rfl,⟨rfl,aQ i1,i1⟩,_,_,rfl,⟨rfl,aQ i2,i2⟩,_,_,rfl,⟨rfl,aQ i3,i3⟩,_,[],rfl,hb,rfl⟩,e,nofun⟩
def lQ(p:Pnl):List It:=[.ro 4 p.nc λi=>aX (p.c i),.ro 3 p.nt λi=>bY (p.t i),.ro 2 p.nm λi=>ptI (p.m i),.i p.r lim]
def panV(p:Pnl):V1:=⟨true,lQ p⟩
def Ac:List It->Option (Pnl×List Prop)
 | [a,b,c,d]=>match pM 4 a,pM 3 b,pM 2 c,asI d with
  | some (nc,fc),some (nt,ft),some (nm,fm),some z=>some (⟨nc,λi=>vV (fc i),nt,λi=>gK (ft i),nm,λi=>wA (fm i),z.1⟩,[∀j,j<nc->fc j=aX (vV (fc j)),∀j,j<nt->ft j=bY (gK (ft j)),∀j,j<nm->fm j=ptI (wA (fm j))])
  | _,_,_,_=>none
 | _=>none
def dPan:gg where
 α:=Pnl
 C:=panV;d:=fun|⟨true,l⟩=>Ac l|_=>none
 ok:=by
  intro v a ps h hp W x hr;split at h
  ·unfold Ac at h;split at h
   ·split at h <;> cases h;rename_i z ha hb hc hd;obtain⟨p1,p2,p3,_⟩:=hp;obtain⟨cs,⟨c1,_,rfl,h1,c2,_,rfl,h2,c3,_,rfl,h3,c4,_,rfl,h4,rfl⟩,e,_⟩:=hr;exact⟨_,⟨c1,_,rfl,uN ha p1 h1,c2,_,rfl,uN hb p2 h2,c3,_,rfl,uN hc p3 h3,c4,[],rfl,vc hd h4,rfl⟩,e,nofun⟩
   ·cases h
  ·cases h
def qe(D:gg)(f:FuncId)(g:D.α->AV)(p:D.α->List Prop)(h:∀a,aw (p a)->ae Tryz.prog f [D.C a] (g a)):ah where
 f:=f
 g:=λ| [u]=>(D.d u).map λa=>(g a.1,p a.1++a.2)|_=>none
 ok:=by
  intro args res ps h' hp
  split at h'<;>try cases h'
  rename_i u
  cases hq:D.d u with
  | none=>simp[hq] at h'
  | some a =>
   simp only[hq,Option.map_some,Option.some.injEq,Prod.mk.injEq] at h'
   obtain⟨rfl,rfl⟩:=h'
   obtain⟨p1,p2⟩:=aw.app hp
   exact (h _ p1).pre λW=>aU (λx=>D.ok u a.1 a.2 hq p2 W x) dY
def gi(D E:gg)(f:FuncId)(g:D.α->E.α->AV)(p:D.α->E.α->List Prop)(h:∀a b,aw (p a b)->ae Tryz.prog f [D.C a,E.C b] (g a b)):ah where
 f:=f
 g:=λ| [u,v]=>(match D.d u,E.d v with|some a,some b=>some (g a.1 b.1,p a.1 b.1++(a.2++b.2))|_,_=>none)|_=>none
 ok:=by
  intro args res ps h' hp
  split at h'<;>try cases h'
  split at h'<;>cases h'
  rename_i u v _ _ a b ha hb
  obtain⟨p1,p2⟩:=aw.app hp
  obtain⟨p2,p3⟩:=aw.app p2
  exact (h _ _ p1).pre λW=>aU (λx=>D.ok u a.1 a.2 ha p2 W x) (aU (λx=>E.ok v b.1 b.2 hb p3 W x) dY)
def me(D E F:gg)(f:FuncId)(g:D.α->E.α->F.α->AV)(p:D.α->E.α->F.α->List Prop)(h:∀a b c,aw (p a b c)->ae Tryz.prog f [D.C a,E.C b,F.C c] (g a b c)):ah where
 f:=f
 g:=λ| [u,v,w]=>(match D.d u,E.d v,F.d w with|some a,some b,some c=>some (g a.1 b.1 c.1,p a.1 b.1 c.1++(a.2++(b.2++c.2)))|_,_,_=>none)|_=>none
 ok:=by
  intro args res ps h' hp
  split at h'<;>try cases h'
  split at h'<;>cases h'
  rename_i u v w _ _ _ a b c ha hb hc
  obtain⟨p1,p2⟩:=aw.app hp
  obtain⟨p2,p3⟩:=aw.app p2
  obtain⟨p3,p4⟩:=aw.app p3
  exact (h _ _ _ p1).pre λW=>aU (λx=>D.ok u a.1 a.2 ha p2 W x) (aU (λx=>E.ok v b.1 b.2 hb p3 W x) (aU (λx=>F.ok w c.1 c.2 hc p4 W x) dY))
def aJ:Eff where
 f:=10;g:=λ_ _ _=>none
 ok:=λ_ _ _ _ _ _ h=>by cases h
def IZ{α:Type}(T:TypeId)(z:Nat)(I:α->List It)(n:Nat)(f:Nat->α):V1:=⟨false,[.ol T z n λi=>I (f i)]⟩
def fK(n:Nat)(f:Nat->aI):V1:=IZ 72 4 aS n f
def gW(n:Nat)(f:Nat->cA):V1:=IZ 78 6 aY n f
def mS(n:Nat)(f:Nat->je):V1:=IZ 64 6 cS n f
def cN{α:Type}(z:Nat)(I:α->List It)(n:Nat)(f:Nat->α):V1:=⟨false,[.ro z n λi=>I (f i)]⟩
structure Sp where
 x:Int
 y:Int
 dx:Int
 dy:Int
 p:Int
 q:Int
 len:Int
def Sp.no:Sp:=⟨0,0,0,0,0,0,0⟩
def qY(x y:Int):Sp:=⟨x,y,0,0,0,1,0⟩
def jv(x y:Int):Int:=x*x+y*y
def dR(add s n d:Int):Rt:=(dc add s (ai n) (ai d)).1
def BM(px py qx qy:Int):Rt×Sp:=(dR 0 1 (jv (px-qx) (py-qy)) 1,qY qx qy)
def Ip(e:Ed)(px py:Int):Rt×Sp :=
 if (px-e.ax)*(e.bx-e.ax)+(py-e.ay)*(e.by'-e.ay)<=0 then BM px py e.ax e.ay
 else if jv (e.bx-e.ax) (e.by'-e.ay)<=(px-e.ax)*(e.bx-e.ax)+(py-e.ay)*(e.by'-e.ay) then BM px py e.bx e.by'
 else (dR 0 1 (((e.bx-e.ax)*(py-e.ay)-(e.by'-e.ay)*(px-e.ax))*((e.bx-e.ax)*(py-e.ay)-(e.by'-e.ay)*(px-e.ax))) (jv (e.bx-e.ax) (e.by'-e.ay)),
  ⟨e.ax,e.ay,e.bx-e.ax,e.by'-e.ay,(px-e.ax)*(e.bx-e.ax)+(py-e.ay)*(e.by'-e.ay),jv (e.bx-e.ax) (e.by'-e.ay),0⟩)
def uR(dx dy fx fy tx ty:Int):Bool:=decide (0<=fx*dy-fy*dx)&&decide (0<=dx*ty-dy*tx)
def eF(e:Ed)(vx vy:Int):Bool :=
 !(vx==0&&vy==0)&&(if e.k=3 then uR vx vy (e.bx-e.cx) (e.by'-e.cy) (e.ax-e.cx) (e.ay-e.cy) else uR vx vy (e.ax-e.cx) (e.ay-e.cy) (e.bx-e.cx) (e.by'-e.cy))
def Ft(e:Ed)(px py:Int):Rt×Sp :=
 if eF e (px-e.cx) (py-e.cy) then
  (if az e*az e<=jv (px-e.cx) (py-e.cy) then dR (-az e) 1 (jv (px-e.cx) (py-e.cy)) 1 else dR (az e) (-1) (jv (px-e.cx) (py-e.cy)) 1,⟨e.cx,e.cy,px-e.cx,py-e.cy,0,0,az e⟩)
 else if jv (px-e.bx) (py-e.by')<jv (px-e.ax) (py-e.ay) then BM px py e.bx e.by' else BM px py e.ax e.ay
def gm(e:Ed)(px py:Int):Rt×Sp :=
 if !(e.ok&&dP px py) then (Rt.no,Sp.no) else if e.k=1 then Ip e px py else Ft e px py
structure Pr where
 d:Rt
 a:Sp
 b:Sp
def Pr.swap(p:Pr):Pr:=⟨p.d,p.b,p.a⟩
def kR(l a:Ed):List Pr :=
 let dx:=l.bx-l.ax;let dy:=l.by'-l.ay
 let t:=(a.cx-l.ax)*dx+(a.cy-l.ay)*dy;let c:=dx*(a.cy-l.ay)-dy*(a.cx-l.ax);let nx:=if 0<c then dy else -dy
 let ny:=if 0<c then -dx else dx
 if t<=0\/jv dx dy<=t\/c*c<=az a*az a*jv dx dy\/eF a nx ny=false then []
 else [⟨dR (-az a) 1 (c*c) (jv dx dy),⟨l.ax,l.ay,dx,dy,t,jv dx dy,0⟩,⟨a.cx,a.cy,nx,ny,0,0,az a⟩⟩]
def vh(a b:Ed):List Pr :=
 let vx:=b.cx-a.cx;let vy:=b.cy-a.cy;let r:=az a;let s:=az b;let n:=jv vx vy;if (r+s)*(r+s)<n then (if eF a vx vy&&eF b (-vx) (-vy) then [⟨dR (-r-s) 1 n 1,⟨a.cx,a.cy,vx,vy,0,0,r⟩,⟨b.cx,b.cy,-vx,-vy,0,0,s⟩⟩] else [])
 else if (r-s)*(r-s)<=n then []
 else if s<r then (if eF a vx vy&&eF b vx vy then [⟨dR (r-s) (-1) n 1,⟨a.cx,a.cy,vx,vy,0,0,r⟩,⟨b.cx,b.cy,vx,vy,0,0,s⟩⟩] else [])
 else (if eF a (-vx) (-vy)&&eF b (-vx) (-vy) then [⟨dR (s-r) (-1) n 1,⟨a.cx,a.cy,-vx,-vy,0,0,r⟩,⟨b.cx,b.cy,-vx,-vy,0,0,s⟩⟩] else [])
def jY(a b:Ed):List Pr :=
 if a.k=1 then (if b.k=1 then [] else kR a b) else if b.k=1 then (kR b a).map Pr.swap else vh a b
def nh(a b:Ed):List Pr :=
 [⟨(gm b a.ax a.ay).1,qY a.ax a.ay,(gm b a.ax a.ay).2⟩,⟨(gm b a.bx a.by').1,qY a.bx a.by',(gm b a.bx a.by').2⟩,
  ⟨(gm a b.ax b.ay).1,(gm a b.ax b.ay).2,qY b.ax b.ay⟩,⟨(gm a b.bx b.by').1,(gm a b.bx b.by').2,qY b.bx b.by'⟩]++jY a b
def FA(x y:Pr):Pr:=if eE y.d x.d<0 then y else x
def a8:List Pr->Pr
 | []=>⟨Rt.no,Sp.no,Sp.no⟩|x::l=>l.foldl FA x
def gC(a b:Ed):Pr:=if !(a.ok&&b.ok) || !(bK a b==0) then ⟨Rt.no,Sp.no,Sp.no⟩ else a8 (nh a b)
theorem a6o(x:Int):0<=x*x:=by
 rcases Int.le_total 0 x with h|h
 ·exact Int.mul_nonneg h h
 ·rw[<- Int.neg_mul_neg];exact Int.mul_nonneg (by omega) (by omega)
theorem Di.sq{x y:Int}(hx:Di x)(hy:Di y):I64 (jv x y):=hx.dot hx hy hy
def cMul:ah:=Qi 212 jE (λ_ _=>[]) λa b _ _ _ _ _ _ _ _ w _ h1 h2=>CJ a b _ _ _ _ _ _ _ _ w h1 h2
set_option maxHeartbeats 2000000
set_option maxRecDepth 100000
section
attribute [local go_sem] aL dz
def lX(w:World)(B:Nat)(v:Value)(d:List Value)(T:TypeId)(k:Nat):Prop:=w.heap[B]? = some (.cells (v::.int .i64 (k:Nat)::d).toArray T)
theorem lX.at{w:World}{B len cp k:Nat}{a:Option Addr}{d:List Value}{T:TypeId}(h:lX w B (.slice a len cp) d T k):pO w B a len cp k:=by
 unfold lX at h;refine⟨(Array.getElem?_eq_some_iff.1 h).1,?_,?_,λo=>by simp[World.frozen?,h]⟩
 ·rw[cell_of_row _ _ _ _ _ _ h];simp
 ·rw[cell_of_row _ _ _ _ _ _ h];simp
theorem lX.ext{w w':World}{B k:Nat}{v:Value}{d:List Value}{T:TypeId}(h:lX w B v d T k)(hx:ac w w'):lX w' B v d T k:=aH h hx
theorem lX.set{w:World}{B k:Nat}{v:Value}{d:List Value}{T:TypeId}(h:lX w B v d T k)(j:Nat):lX (w.setCell ⟨B,1,none⟩ (.int .i64 (j:Nat))) B v d T j:=by
 unfold lX at *;have hB:=(Array.getElem?_eq_some_iff.1 h).1;have e:=(Array.getElem?_eq_some_iff.1 h).2;rw[Array.getElem?_eq_some_iff];refine⟨by simpa[World.setCell] using hB,?_⟩;simp only[World.setCell,Array.getElem_modify,if_true,e];simp
theorem a3V(L:List Int)(B:Nat)(a:Option Addr)(len cp k:Nat)(n:Int)(d:List Value)(T:TypeId)(w:World)(hH:lX w B (.slice a len cp) d T k)(hL:Ints w a len L)(hne:0<len->∀x,a=some x->x.block≠B)(hn:0<n/\n<=4294967296)(hk:k<=len) :
  Calls Tryz.prog 52 #[.pointer (some ⟨B,0,none⟩),.int .i64 n] w λe w'=>e=.returned (.int .i64 (o9 L k n))/\lX w' B (.slice a len cp) d T (qH L k)/\Past B w w':=by
 have hd:=hH.at
 obtain⟨hB,c0,c1,hf⟩:=hd
 obtain⟨hl,hm,hrow⟩:=hL
 by_cases hlt:k<len
 ·have e1 : o9 L k n = am (L[k]?.getD 0) n := by unfold o9; rw [if_pos (by omega)]
  have e2:qH L k=k+1:=by unfold qH;rw[if_pos (by omega)]
  rw[e1,e2]
  obtain⟨b,o,rfl,hb,hc⟩:=hrow (by omega)
  have hck:=hc k hlt
  have hbB:b≠B:=hne (by omega) _ rfl
  obtain⟨x,X⟩:∃x,L[k]?.getD 0=x:=⟨_,rfl⟩
  rw[X] at hck ⊢
  have MC:=Lib.hid (λw=>Ro x n w hn)
  replace hH:=Lib.hid hH
  clear e1 e2 hc hrow hl hne X hn
  have w1:IntKind.i64.wrap ((k:Int)+1)=((k+1:Nat):Int):=by rw[wrap_in];rfl;unfold I64;omega
  have w2:IntKind.i64.wrap (((k+1:Nat):Int)-1)=(k:Int):=by rw[wrap_in];omega;unfold I64;omega
  have g1:decide ((len:Int)<=(k:Int))=false:=by rw[decide_eq_false_iff_not];omega
  have i0:(0:Int)<=(k:Int):=by omega
  have i1:(k:Int)<(len:Int):=by omega
  go_enter Tryz.func52,Tryz.ntmps52
  have w3:IntKind.i64.wrap (k:Int)=(k:Int):=by rw[wrap_in];unfold I64;omega
  have ts:(k:Int).toNat=k:=by omega
  go_wp2_with fail
  refine uT (λW=>W.cell? ⟨B,0,none⟩=some (.slice (some ⟨b,o,none⟩) len cp)/\W.cell? ⟨B,1,none⟩=some (.int .i64 k)) ?_
  repeat (first|refine gQ ?_|refine gP ?_)
  rintro W ⟨hx,hc0,hc1⟩
  have hdW:pO W B (some ⟨b,o,none⟩) len cp k:=pO.ext ⟨hB,c0,c1,hf⟩ hx
  have hfW:=hdW.2.2.2
  have hkW:W.cell? ⟨b,o+k,none⟩=some (.int .i64 x):=(hx.cell (p:=⟨b,o+k,none⟩) hb).trans hck
  have hBW:B<W.heap.size:=Nat.lt_of_lt_of_le hB hx.size
  have hbW:b<W.heap.size:=Nat.lt_of_lt_of_le hb hx.size
  have hxs:=hx.size
  clear hdW
  have HD:=Lib.hid (hH.out.ext hx)
  have HX:Hid (ac w W):=hx
  clear hx
  go_wp2_with fail
  refine uT (λW=>W.cell? ⟨B,0,none⟩=some (.slice (some ⟨b,o,none⟩) len cp)/\W.cell? ⟨B,1,none⟩=some (.int .i64 (k+1:Nat))/\W.cell? ⟨b,o+k,none⟩=some (.int .i64 x)) ?_
  repeat (first|refine gQ ?_|refine gP ?_)
  refine xo (.int .i64 (am x n)) (λW hW=>MC.out _) ?_
  repeat (first|refine gQ ?_|refine gP ?_)
  rintro W2 ⟨hx2,hc2⟩
  go_wp2
  go_ret
  exact⟨rfl,(HD.out.set _).ext hx2,((Past.of_ext HX.out).step (Past.set W 1 _)).step (Past.of_ext hx2)⟩
 ·have e1 : o9 L k n = 0 := by unfold o9; rw [if_neg (by omega)]
  have e2:qH L k=k:=by unfold qH;rw[if_neg (by omega)]
  rw[e1,e2]
  have g1:decide ((len:Int)<=(k:Int))=true:=by rw[decide_eq_true_iff];omega
  have hdh:=Lib.hid hH
  clear hH
  clear e1 e2 hl hne hn hrow
  go_enter Tryz.func52,Tryz.ntmps52
  go_wp2_with fail
  refine uT (λW=>W.cell? ⟨B,0,none⟩=some (.slice a len cp)/\W.cell? ⟨B,1,none⟩=some (.int .i64 k)) ?_
  repeat (first|refine gQ ?_|refine gP ?_)
  rintro W ⟨hx,hc0,hc1⟩
  go_wp2
  go_ret
  exact⟨rfl,hdh.out.ext hx,Past.of_ext hx⟩
theorem a0A{w:World}{L:List Int}{v:Value}{B:Nat}(h:jQ w L v)(hne:∀a len c,v=.slice a len c->0<len->∀x,a=some x->x.block≠B):∃a len c,v=.slice a len c/\Ints w a len L/\(0<len->∀x,a=some x->x.block≠B):=by
 obtain⟨a,len,c,e,h1,h2,h3⟩:=h;exact⟨a,len,c,e,h1,hne a len c e⟩
theorem a1P{L:List Int}{k:Nat}(h:k<=L.length):qH L k<=L.length:=by unfold qH;split<;>omega
def dZ:Eff where
 f:=52;g:=λL k args=>match args with | [⟨false,[.i n _]⟩]=>if 0<n/\n<=4294967296 then some (⟨false,[.i (o9 L k n) n.natAbs]⟩,qH L k,[]) else none|_=>none
 ok:=by
  intro L k args res k' ps h hp W B v d T vals hg hL hne hk hv;simp only at h;split at h<;>(try (cases h;done));split at h<;>cases h;rename_i n A hn;simp only[aK,iL,dL] at hv;obtain⟨_,⟨_,rfl⟩,_,rfl,rfl⟩:=hv;obtain⟨a,len,c,rfl,h1,h2⟩:=a0A hL hne;refine (a3V L B a len c k n d T W hg h1 h2 hn (by rw[h1.1];exact hk)).mono λe w' ⟨e1,h3,h4⟩=>⟨_,e1,?_,h3,a1P hk,h4⟩
  have:=Qp L k hn.1;exact dL.2 ⟨⟨by omega,by unfold I64;omega⟩,rfl⟩
end
def nK(L:List Int):Nat->Nat
 | 0=>0|n+1=>qH L (nK L n)
def nV(L:List Int)(n:Nat)(m:Int):Int:=o9 L (nK L n) m
theorem eG(L:List Int)(n:Nat){m:Int}(h:0<m):0<=nV L n m/\nV L n m<m:=Qp _ _ h
set_option maxRecDepth 100000
section
def fb:Nat:=1099511627776
abbrev p4:Pf:=⟨(4:Int)≠0,by decide⟩
def o7(ax ay n:Int)(m:Bool)(A:Nat):V1:=⟨true,[.i ax A,.i ay A,.i n A,.v (.bool m)]⟩
def wB(p:Int×Int):V1:=⟨true,[.i p.1 lim,.i p.2 lim]⟩
def dO(ax ay n:Int)(m:Bool)(x y:Int):Int×Int:=kL ax ay (am n 4) m x y
theorem Qf(n:Int):am n 4=(n.tmod 4+4).tmod 4:=rfl
theorem uK{n x y ax ay:Int}{m:Bool}(h:am n 4=0):dO ax ay n m x y=((if m then 0-x else x)+ax,y+ay):=by
 unfold dO kL;rw[h];cases m<;>simp[fH,uk]
theorem uL{n x y ax ay:Int}{m:Bool}(h:am n 4=1):dO ax ay n m x y=(0-y+ax,(if m then 0-x else x)+ay):=by
 unfold dO kL;rw[h];cases m<;>simp[fH,uk]
theorem uM{n x y ax ay:Int}{m:Bool}(h:am n 4=2):dO ax ay n m x y=(0-(if m then 0-x else x)+ax,0-y+ay):=by
 unfold dO kL;rw[h];cases m<;>simp[fH,uk]
theorem wX{n x y ax ay:Int}{m:Bool}(h:am n 4=3):dO ax ay n m x y=(y+ax,0-(if m then 0-x else x)+ay):=by
 unfold dO kL;rw[h];cases m<;>simp[fH,uk]
theorem NZ(ax ay n x y:Int)(m:Bool):ae Tryz.prog 64 [o7 ax ay n m fb,ew x y fb] (.one (wB (dO ax ay n m x y))):=by
 have hb:=lK n (m:=4) (by omega);by_cases h1:am n 4=1
 ·rw [uL h1];cases m with|true=>exact ad [] [true,true] [pT rfl,p4,p4,pT (dD h1)] (by kernel_rfl)|false=>exact ad [] [false,true] [pF rfl,p4,p4,pT (dD h1)] (by kernel_rfl)
 by_cases h2:am n 4=2
 ·rw [uM h2];cases m with|true=>exact ad [] [true,false,true] [pT rfl,p4,p4,pF (aB h1),pT (dD h2)] (by kernel_rfl)|false=>exact ad [] [false,false,true] [pF rfl,p4,p4,pF (aB h1),pT (dD h2)] (by kernel_rfl)
 by_cases h3:am n 4=3
 ·rw [wX h3];cases m with|true=>exact ad [] [true,false,false,true] [pT rfl,p4,p4,pF (aB h1),pF (aB h2),pT (dD h3)] (by kernel_rfl)|false=>exact ad [] [false,false,false,true] [pF rfl,p4,p4,pF (aB h1),pF (aB h2),pT (dD h3)] (by kernel_rfl)
 ·rw [uK (by omega)];cases m with|true=>exact ad [] [true,false,false,false] [pT rfl,p4,p4,pF (aB h1),pF (aB h2),pF (aB h3)] (by kernel_rfl)|false=>exact ad [] [false,false,false,false] [pF rfl,p4,p4,pF (aB h1),pF (aB h2),pF (aB h3)] (by kernel_rfl)
theorem S3(t:Nat){x y:Int}{D E:Nat}(h1:x.natAbs<=D)(h2:y.natAbs<=E):(fH t (x,y)).1.natAbs<=D+E/\(fH t (x,y)).2.natAbs<=D+E:=by
 induction t with|zero=>exact⟨by simp only[fH];omega,by simp only[fH];omega⟩|succ t ih =>
  obtain⟨a,b⟩:=ih;simp only[fH];omega
theorem AO{ax ay n x y:Int}{m:Bool}{A B D E:Nat}(a1:ax.natAbs<=A)(a2:ay.natAbs<=B)(h1:x.natAbs<=D)(h2:y.natAbs<=E):(dO ax ay n m x y).1.natAbs<=A+B+D+E/\(dO ax ay n m x y).2.natAbs<=A+B+D+E:=by
 unfold dO kL uk;cases m
 ·obtain ⟨u1, u2⟩ := S3 (am n 4).toNat h1 h2;simp only[Bool.false_eq_true,if_false];omega
 ·obtain ⟨u1, u2⟩ := S3 (D := D) (am n 4).toNat (x := -x) (by omega) h2;simp only[if_true];omega
def L6(f:FuncId)(S:Int->List Prop)(H:∀(ax ay n x y:Int) (m:Bool),aw (S n)->ae Tryz.prog f [o7 ax ay n m fb,ew x y fb] (.one (wB (dO ax ay n m x y)))):ah where
 f:=f
 g:=λ| [⟨true,[.i ax A,.i ay B,.i n C,.v (.bool m)]⟩,⟨true,[.i x D,.i y E]⟩]=>if (A<=fb/\B<=fb/\C<=fb)/\D<=fb/\E<=fb then some (.one ⟨true,[.i (dO ax ay n m x y).1 (A+B+D+E),.i (dO ax ay n m x y).2 (A+B+D+E)]⟩,S n) else none|_=>none
 ok:=by
  intro args res ps h hp
  split at h<;>try cases h
  split at h<;>cases h
  rename_i ax A ay B n C m x D y E hb
  intro W vals hv
  have hv2:=hv
  simp only[aK,iL,bL,bi,nU,fh] at hv2
  obtain⟨_,⟨_,⟨⟨a1,i1⟩,_,rfl,⟨a2,i2⟩,_,rfl,⟨a3,i3⟩,_,rfl,_,_,rfl,rfl⟩,rfl⟩,_,rfl,_,⟨_,⟨⟨a4,i4⟩,_,rfl,⟨a5,i5⟩,_,rfl,rfl⟩,rfl⟩,_,rfl,rfl⟩:=hv2
  have hb2:=hb
  unfold fb at hb2
  obtain⟨q1,q2⟩:=AO (n:=n) (m:=m) a1 a2 a4 a5
  refine (H ax ay n x y m hp W _ (aK.2 ⟨_,bL.2 ⟨_,bi.2 ⟨⟨by omega,i1⟩,_,rfl,bi.2 ⟨⟨by omega,i2⟩,_,rfl,bi.2 ⟨⟨by omega,i3⟩,_,rfl,nU.2 ⟨rfl,_,rfl,rfl⟩⟩⟩⟩,rfl⟩,_,rfl,aK.2 ⟨_,bL.2 ⟨_,bi.2 ⟨⟨by omega,i4⟩,_,rfl,bi.2 ⟨⟨by omega,i5⟩,_,rfl,rfl⟩⟩,rfl⟩,_,rfl,rfl⟩⟩)).mono λe w' ⟨v,e1,h1,h2⟩=>⟨v,e1,?_,h2⟩
  simp only[bT,wB,bL,bi,fh] at h1 ⊢
  obtain⟨cs,⟨⟨_,g1⟩,_,rfl,⟨_,g2⟩,_,rfl,rfl⟩,e2⟩:=h1
  exact⟨_,⟨⟨q1,g1⟩,_,rfl,⟨q2,g2⟩,_,rfl,rfl⟩,e2⟩
def Gg:ah:=L6 64 (λ_=>[]) λax ay n x y m _=>NZ ax ay n x y m
end
def vW(e:Ed)(x y t:Int)(m:Bool):Ed :=
 ⟨if m then (jk e.k).k else e.k,(kL x y t m e.ax e.ay).1,(kL x y t m e.ax e.ay).2,(kL x y t m e.bx e.by').1,(kL x y t m e.bx e.by').2,
  if e.k=1 then e.cx else (kL x y t m e.cx e.cy).1,if e.k=1 then e.cy else (kL x y t m e.cx e.cy).2⟩
set_option maxHeartbeats 2000000
set_option maxRecDepth 100000
section
attribute [local go_sem] aL dz
theorem a62(ax ay t:Int)(m:Bool)(w:World)(h : -8<=t/\t<=8) :
  Calls Tryz.prog 87 #[.agg #[.int .i64 ax,.int .i64 ay,.int .i64 t,.bool m]] w λe w'=>e=.returned (.int .i64 (am t 4))/\ac w w':=by
 obtain rfl|rfl|rfl|rfl|rfl|rfl|rfl|rfl|rfl|rfl|rfl|rfl|rfl|rfl|rfl|rfl|rfl:t = -8\/t = -7\/t = -6\/t = -5\/t = -4\/t = -3\/t = -2\/t = -1\/t=0\/t=1\/t=2\/t=3\/t=4\/t=5\/t=6\/t=7\/t=8:=by omega
 all_goals
  go_enter Tryz.func87,Tryz.ntmps87;go_wp2;go_ret;exact⟨rfl,ag⟩
def WO:ah where
 f:=87;g:=λ| [⟨true,[.i _ _,.i _ _,.i n _,.v (.bool _)]⟩]=>some (.one (aj (am n 4) 3),[-8<=n/\n<=8])|_=>none
 ok:=by
  intro args res ps h hp;split at h<;>cases h;rename_i n _ _;intro W vals hv;simp only[aK,iL,bL,bi,nU,fh] at hv;obtain⟨_,⟨_,⟨_,_,rfl,_,_,rfl,_,_,rfl,_,_,rfl,rfl⟩,rfl⟩,_,rfl,rfl⟩:=hv;have hb:=lK n (m:=4) (by omega);exact (a62 _ _ _ _ W hp.1).mono λ_ _ h=>tW ⟨by omega,by unfold I64;omega⟩ h
def KV:List ah:=[WO]
theorem Uk{n x y ax ay:Int}{m:Bool}(h:am n 4=3):dO ax ay n m x y=(0-(0-y)+ax,0-(if m then 0-x else x)+ay):=by
 rw[wX h];congr 1;omega
theorem Uz(ax ay n x y:Int)(m:Bool)(hn : -8<=n/\n<=8):ae Tryz.prog 30 [o7 ax ay n m fb,ew x y fb] (.one (wB (dO ax ay n m x y))):=by
 have hb:=lK n (m:=4) (by omega);have q:∀k b,decide (k<am n 4)=b->decide (k<am n 4)=b:=λ_ _ h=>h
 by_cases h0:am n 4=0
 ·have f0 : decide (0 < am n 4) = false := by rw [h0]; rfl
  rw[uK h0];cases m with|true=>exact ad KV [true,false] [pT rfl,pP hn,pF f0] (by kernel_rfl)|false=>exact ad KV [false,false] [pF rfl,pP hn,pF f0] (by kernel_rfl)
 have t0:decide (0<am n 4)=true:=by simp;omega
 by_cases h1:am n 4=1
 ·have f1 : decide (0 + 1 < am n 4) = false := by rw [h1]; rfl
  rw[uL h1];cases m with|true=>exact ad KV [true,true,false] [pT rfl,pP hn,pT t0,pF f1] (by kernel_rfl)|false=>exact ad KV [false,true,false] [pF rfl,pP hn,pT t0,pF f1] (by kernel_rfl)
 have t1:decide (0+1<am n 4)=true:=by simp;omega
 by_cases h2:am n 4=2
 ·have f2 : decide (0 + 1 + 1 < am n 4) = false := by rw [h2]; rfl
  rw[uM h2];cases m with|true=>exact ad KV [true,true,true,false] [pT rfl,pP hn,pT t0,pT t1,pF f2] (by kernel_rfl)|false=>exact ad KV [false,true,true,false] [pF rfl,pP hn,pT t0,pT t1,pF f2] (by kernel_rfl)
 have h3:am n 4=3:=by omega
 have t2:decide (0+1+1<am n 4)=true:=by rw[h3];rfl
 have f3:decide (0+1+1+1<am n 4)=false:=by rw[h3];rfl
 rw[Uk h3];cases m with|true=>exact ad KV [true,true,true,true,false] [pT rfl,pP hn,pT t0,pT t1,pT t2,pF f3] (by kernel_rfl)|false=>exact ad KV [false,true,true,true,false] [pF rfl,pP hn,pT t0,pT t1,pT t2,pF f3] (by kernel_rfl)
def WU:ah:=L6 30 (λn=>[-8<=n/\n<=8]) λax ay n x y m h=>Uz ax ay n x y m h.1
def Av:List ah:=[bM,WU]
theorem vZ{k:Int}(h:k=1):(k != 1)=false:=by rw[h];rfl
theorem us{k:Int}(h:¬k=1):(k != 1)=true:=by simpa using h
theorem a1u(e:Ed)(x y n:Int)(m:Bool)(he:e.ok=true)(hn : -8<=n/\n<=8):ae Tryz.prog 86 [aO e 3 aC,o7 x y n m aC] (.one (aO (vW e x y (am n 4) m) lim lim)):=by
 have hf:(jk e.k).k=1 <-> e.k=1:=by rcases nE he with k|k|k<;>rw[k]<;>decide
 unfold vW;cases m with|true =>
  by_cases hk:e.k=1
  ·simp only [if_pos hk];exact ad Av [true,false] [pT rfl,pF (vZ (hf.2 hk)),pP hn,pP hn] (by kernel_rfl)
  ·simp only [if_neg hk];exact ad Av [true,true] [pT rfl,pT (us λh=>hk (hf.1 h)),pP hn,pP hn,pP hn] (by kernel_rfl)|false =>
  by_cases hk:e.k=1
  ·simp only [if_pos hk];exact ad Av [false,false] [pF rfl,pF (vZ hk),pP hn,pP hn] (by kernel_rfl)
  ·simp only [if_neg hk];exact ad Av [false,true] [pF rfl,pT (us hk),pP hn,pP hn,pP hn] (by kernel_rfl)
end
def gI(m:bG)(p:Int×Int):Int×Int:=dO m.x m.y m.t m.m p.1 p.2
def ul(m:bG)(p:Int×Int):Prop:=((m.x.natAbs<=fb/\m.y.natAbs<=fb) /\ -8<=m.t/\m.t<=8)/\p.1.natAbs<=fb/\p.2.natAbs<=fb
theorem Qd{W:World}{m:bG}{p:Int×Int}(h:ul m p):∀xs,aV W W (λ_=>0) 0 [⟨true,aX m⟩,⟨true,ptI p⟩] xs->aV W W (λ_=>0) 0 [o7 m.x m.y m.t m.m fb,ew p.1 p.2 fb] xs:=by
 obtain⟨⟨⟨h1,h2⟩,h3⟩,h4,h5⟩:=h;have c8:8<=fb:=by decide
 refine aU (λx hr=>?_) (aU (λx hr=>?_) dY)
 ·obtain ⟨cs, ⟨_, _, rfl, ⟨rfl, _, i1⟩, _, _, rfl, ⟨rfl, _, i2⟩, _, _, rfl, ⟨rfl, _, i3⟩, _, _, rfl, hb, rfl⟩, e, _⟩ := hr;exact⟨_,⟨_,_,rfl,⟨rfl,h1,i1⟩,_,_,rfl,⟨rfl,h2,i2⟩,_,_,rfl,⟨rfl,by omega,i3⟩,_,[],rfl,hb,rfl⟩,e,nofun⟩
 ·obtain ⟨cs, ⟨_, _, rfl, ⟨rfl, _, i1⟩, _, _, rfl, ⟨rfl, _, i2⟩, rfl⟩, e, _⟩ := hr;exact⟨_,⟨_,_,rfl,⟨rfl,h4,i1⟩,_,[],rfl,⟨rfl,h5,i2⟩,rfl⟩,e,nofun⟩
def WT:ah:=gi oL tD 30 (λm p=>.one ⟨true,ptI (gI m p)⟩) (λm p=>[ul m p]) λm p h=>(Uz m.x m.y m.t p.1 p.2 m.m h.1.1.2).pre λ_=>Qd h.1
def NN:ah:=gi oL tD 64 (λm p=>.one ⟨true,ptI (gI m p)⟩) (λm p=>[ul m p]) λm p h=>(NZ m.x m.y m.t p.1 p.2 m.m).pre λ_=>Qd h.1
set_option maxRecDepth 100000
section
def dQ(p:Pnl):List (Option Mb):=[some ⟨43,lQ p⟩]
def oS(f:FuncId):V1:=⟨false,[.v (.func (.func f) #[] #[])]⟩
def wN(f:FuncId)(p:Pnl)(L:V1):List (Nat×Rq):=[(1,.eq L),(2,.eq (oS f)),(3,.eq ⟨false,[.p 0 0]⟩),(12,.eq (cN 4 aX p.nc p.c)),(13,.le (aj p.nc lim))]
def i9(f:FuncId)(p:Pnl)(L:V1)(O:Nat->V1)(n k:Nat):Ds:=⟨(7,.le (O (k*n)))::(14,.le (aj (k:Int) 2000))::wN f p L,dQ p⟩
def iY(f:FuncId)(p:Pnl)(L:V1)(O:Nat->V1)(n k:Nat):Ds:=⟨(7,.le (O ((k+1)*n)))::(14,.le (aj (k:Int) 2000))::wN f p L,dQ p⟩
def iZ(f:FuncId)(p:Pnl)(L:V1)(O:Nat->V1)(n k j:Nat):Ds:=⟨(7,.le (O (k*n+j)))::(8,.le (aj (k:Int) 2000))::(14,.le (aj (k:Int) 2000))::(17,.eq L)::(18,.le (aj (n:Int) lim))::(19,.le (aj (j:Int) 2000))::wN f p L,dQ p⟩
def ju(O:Nat->V1)(m:Nat):Ds:=⟨[(7,.le (O m))],[]⟩
theorem aZ{a b:Int}(h:a<b):decide (a<b)=true:=by simpa using h
theorem ce{a b:Int}(h:¬a<b):decide (a<b)=false:=by simpa using h
def qZ(z:Int):Pf:=⟨z=z,rfl⟩
def jJ(i:It):Pf:=⟨i=i,rfl⟩
theorem VF{α:Type}{I:α->List It}{G:Nat->α}{N M:Nat}{r:List It}(hM:N+1=M)(hr:r.map dB=I (G N)):N+1=M/\∀i,i<N+1->iw N (λi=>I (G i)) (λi=>([r].getD i []).map dB) i=(λi=>I (G i)) i :=
 ⟨hM,λi hi=>by
  unfold iw;by_cases h:i<N
  ·rw[if_pos h]
  ·obtain rfl : i = N := by omega
   rw[if_neg h,Nat.sub_self];exact hr⟩
def qA{α:Type}(I:α->List It)(G:Nat->α)(N M:Nat)(r:List It)(hM:N+1=M)(hr:r.map dB=I (G N)):Pf:=⟨_,VF hM hr⟩
def qL{α:Type}(I:α->List It)(G:Nat->α)(N M:Nat)(h:N=M):Pf:=⟨N=M/\∀i,i<N->(λi=>I (G i)) i=(λi=>I (G i)) i,h,λ_ _=>rfl⟩
def qP(p:Pnl):List Pf:=[jJ (.ro 4 p.nc λi=>aX (p.c i)),jJ (.ro 3 p.nt λi=>bY (p.t i)),jJ (.ro 2 p.nm λi=>ptI (p.m i)),qZ p.r]
def qR(f:FuncId)(p:Pnl)(L:V1):List Pf:=[pR L,pR (oS f),pR ⟨false,[.p 0 0]⟩,pR (cN 4 aX p.nc p.c),qZ p.nc]++qP p
theorem oO{k n j:Nat}(h:j<n):(k*n+j)/n=k/\(k*n+j)%n=j:=by
 have h0:0<n:=by omega
 constructor
 ·rw[Nat.mul_comm,Nat.mul_add_div h0,Nat.div_eq_of_lt h,Nat.add_zero]
 ·rw[Nat.mul_comm,Nat.mul_add_mod,Nat.mod_eq_of_lt h]
def fl(p:Pnl)(n:Nat)(F:Nat->je)(i:Nat):je:=⟨((i/n:Nat):Int),(F (i%n)).a,(F (i%n)).b,(gI (p.c (i/n)) ((F (i%n)).x,(F (i%n)).y)).1,(gI (p.c (i/n)) ((F (i%n)).x,(F (i%n)).y)).2,(F (i%n)).l⟩
def ti:List ah:=[WT]
def fM:FuncId:=62
section
variable (p:Pnl) (n:Nat) (F:Nat->je)
def cX(m:Nat):V1:=mS m (fl p n F)
def cR:V1:=cN 6 cS n F
def dW:FuncId:=63
def zj(k j:Nat):List It:=[.i (k:Int) 2000,.v (.string (F j).a),.v (.string (F j).b),.i (gI (p.c k) ((F j).x,(F j).y)).1 lim,.i (gI (p.c k) ((F j).x,(F j).y)).2 lim,.i (F j).l lim]
theorem I7{k j:Nat}(h:j<n):(zj p F k j).map dB=cS (fl p n F (k*n+j)):=by
 obtain⟨e1,e2⟩:=oO (k:=k) h;unfold cS fl;rw[e1,e2];rfl
structure iO:Prop where
 nc:p.nc<=1000
 ln:n<=1000
 all:p.nc*n<=1000
 ok:∀k j,k<p.nc->j<n->ul (p.c k) ((F j).x,(F j).y)
theorem te{a n k j:Nat}(h:a*n<=1000)(hk:k<a)(hj:j<n):k*n+j+1<=1000:=by
 have:=Nat.mul_le_mul_right n (show k+1<=a from hk);rw[Nat.succ_mul] at this;omega
theorem J2(h:iO p n F)(k:Nat)(hk:k<p.nc):bJ Tryz.prog (bm fM 12) ⟨nF fM,iZ dW p (cR n F) (cX p n F) n k 0,.ex 2,iY dW p (cR n F) (cX p n F) n k⟩ :=
 bW (X:=[aJ]) (K:=ti) (f:=fM) (id:=12) (n:=nF fM) n (iZ dW p (cR n F) (cX p n F) n k) (λ_=>[]) (e:=.ex 2) (d1:=iY dW p (cR n F) (cX p n F) n k) (by kernel_rfl) (λ_=>by kernel_rfl) (λ_ _=>LT.nil)
  (λj hj=>⟨[true],[pT (aZ (show (j:Int)<(n:Int) by omega)),pP (show 0<=(j:Int)/\(j:Int)<(n:Int) by omega),pP (show 0<=(k:Int)/\(k:Int)<(p.nc:Int) by omega),pP (h.ok k j hk hj),pP (te h.all hk hj),qA cS (fl p n F) (k*n+j) (k*n+(j+1)) (zj p F k j) (by omega) (I7 p n F hj),qZ k,qZ k,pR (cR n F),qZ n,pI j (by have:=h.ln;omega)]++qR dW p (cR n F),by kernel_rfl⟩)
  ⟨[false],[pF (ce (show ¬(n:Int)<(n:Int) by omega)),qL cS (fl p n F) (k*n+n) ((k+1)*n) (by rw[Nat.succ_mul]),qZ k]++qR dW p (cR n F),by kernel_rfl⟩ nofun
def q0:Pf:=⟨(0:Int)=((0:Nat):Int),rfl⟩
noncomputable def nY(k:Nat):List (Nat×bO):=if k<p.nc then [(12,⟨nF fM,iZ dW p (cR n F) (cX p n F) n k 0,.ex 2,iY dW p (cR n F) (cX p n F) n k⟩)] else []
theorem J3(h:iO p n F):bJ Tryz.prog (bm fM 6) ⟨nF fM,i9 dW p (cR n F) (cX p n F) n 0,.ex 0,ju (cX p n F) (p.nc*n)⟩ :=
 bW (X:=[aJ]) (K:=ti) (f:=fM) (id:=6) (n:=nF fM) p.nc (i9 dW p (cR n F) (cX p n F) n) (λk=>nY p n F k) (e:=.ex 0) (d1:=ju (cX p n F) (p.nc*n)) (by kernel_rfl) (λk=>by unfold nY;by_cases h:k<p.nc<;>simp only[h,if_true,if_false]<;>kernel_rfl) (λk _=>by
   unfold nY;by_cases hk:k<p.nc
   ·rw[if_pos hk];exact LT.cons (J2 p n F h k hk) LT.nil
   ·rw[if_neg hk];exact LT.nil)
  (λk hk => by
   unfold nY;rw[if_pos hk];exact⟨[true],[pT (aZ (show (k:Int)<(p.nc:Int) by omega)),qL cS (fl p n F) (k*n) (k*n+0) rfl,qZ k,qZ k,pR (cR n F),qZ n,q0]++qR dW p (cR n F)++[qL cS (fl p n F) ((k+1)*n) ((k+1)*n) rfl,pI k (by have:=h.nc;omega)]++qR dW p (cR n F),by kernel_rfl⟩)
  (by
   unfold nY;rw[if_neg (Nat.lt_irrefl _)];exact⟨[false],[pF (ce (show ¬(p.nc:Int)<(p.nc:Int) by omega)),qL cS (fl p n F) (p.nc*n) (p.nc*n) rfl],by kernel_rfl⟩) nofun
theorem J4(h:iO p n F):ae Tryz.prog fM [panV p,cR n F,oS dW] (.one (cX p n F (p.nc*n))) :=
 cD [aJ] ti [(6,⟨nF fM,i9 dW p (cR n F) (cX p n F) n 0,.ex 0,ju (cX p n F) (p.nc*n)⟩)] (LT.cons (J3 p n F h) LT.nil) [] ([⟨0*n=0,Nat.zero_mul n⟩,q0]++qR dW p (cR n F)) (by kernel_rfl)
end
end
set_option maxRecDepth 100000
section
def vu(f:FuncId):gg where
 α:=Unit
 C:=λ_=>oS f
 d:=fun|⟨false,[.v (.func (.func g) a c)]⟩=>if g=f/\a.size=0/\c.size=0 then some ((),[]) else none|_=>none
 ok:=by
  intro v a ps h hp W x hr;split at h
  ·split at h <;> cases h;rename_i e;obtain⟨rfl,e1,e2⟩:=e;rw[Array.eq_empty_of_size_eq_zero e1,Array.eq_empty_of_size_eq_zero e2] at hr;exact hr
  ·cases h
def FP:ah:=me dPan yj (vu dW) fM (λp L _=>.one (cX p L.1 L.2 (p.nc*L.1))) (λp L _=>[iO p L.1 L.2]) λp L _ h=>J4 p L.1 L.2 h.1
theorem Js(p:Pnl)(n:Nat)(F:Nat->je)(h:iO p n F):ae Tryz.prog 22 [panV p,cR n F] (.one (cX p n F (p.nc*n))) :=
 qp [aJ] [FP] [] [pP h,⟨∀j,j<p.nc->aX (p.c j)=aX (p.c j),λ_ _=>rfl⟩,⟨∀j,j<p.nt->bY (p.t j)=bY (p.t j),λ_ _=>rfl⟩,⟨∀j,j<p.nm->ptI (p.m j)=ptI (p.m j),λ_ _=>rfl⟩,⟨∀j,j<n->cS (F j)=cS (F j),λ_ _=>rfl⟩] (by kernel_rfl)
def FM:ah:=gi dPan yj 22 (λp L=>.one (cX p L.1 L.2 (p.nc*L.1))) (λp L=>[iO p L.1 L.2]) λp L h=>Js p L.1 L.2 h.1
end
set_option maxRecDepth 100000
section
def rP(a b:Ed):Bool:=a.k==b.k&&(a.ax==b.ax&&(a.ay==b.ay&&(a.bx==b.bx&&(a.by'==b.by'&&(a.cx==b.cx&&a.cy==b.cy)))))
def iE(a b:Sh):Bool:=a.k==b.k&&(a.r==b.r&&(decide (a.n=b.n)&&eh (λi=>rP (a.e i) (b.e i)) a.n))
def Ei(a b:Sh)(j:Nat):Ds:=⟨[(5,.le (aj (j:Int) 2000)),(2,.eq (ak 0)),(3,.eq (ak 1))],lU a++lU b⟩
def rT:FuncId:=55
theorem o8{a b:Int}(h:a≠b):(a != b)=true:=by simpa using h
theorem eD{a b:Int}(h:a=b):(a != b)=false:=by simpa using h
theorem a5G(a b:Sh)(hn:a.n<=1000):ae Tryz.prog rT [bh a,bh b] (.one (aN (iE a b))):=by
 by_cases h1:a.k=b.k;rotate_left
 ·exact ae.bb (show iE a b=false by simp[iE,h1]) (ad [] [true] [pT (o8 h1)] (by kernel_rfl))
 by_cases h2:a.r=b.r;rotate_left
 ·exact ae.bb (show iE a b=false by simp[iE,h2]) (ad [] [false,true] [pF (eD h1),pT (o8 h2)] (by kernel_rfl))
 by_cases h3:a.n=b.n;rotate_left
 ·exact ae.bb (show iE a b=false by simp[iE,h3]) (ad [] [false,false,true] [pF (eD h1),pF (eD h2),pT (o8 (a:=a.n) (b:=b.n) (by omega))] (by kernel_rfl))
 have hb:iE a b=eh (λi=>rP (a.e i) (b.e i)) a.n:=by simp[iE,h1,h2,h3]
 have R:∀k,k<a.n->rP (a.e k) (b.e k)=true->Rnd [] [] rT 8 [] (nF rT) (Ei a b k) (Ei a b (k+1)) .nm:=λk hk h =>
  ⟨[true,false],[pT (aZ (show (k:Int)<(a.n:Int) by omega)),pP (show 0<=(k:Int)/\(k:Int)<(a.n:Int) by omega),pP (show 0<=(k:Int)/\(k:Int)<(b.n:Int) by omega),pF (show (!rP (a.e k) (b.e k))=false by rw[h];rfl),pI k (by omega),pR (ak 0),pR (ak 1)]++fk a++fk b,by kernel_rfl⟩
 cases h4:eh (λi=>rP (a.e i) (b.e i)) a.n with|true =>
  have o:=bW (X:=[]) (K:=[]) (f:=rT) (id:=8) (n:=nF rT) a.n (Ei a b) (λ_=>[]) (e:=.ex 0) (d1:=⟨[],[]⟩) (by kernel_rfl) (λ_=>by kernel_rfl) (λ_ _=>LT.nil) (λk hk=>R k hk (md.1 h4 k hk))
   ⟨[false],[pF (ce (show ¬(a.n:Int)<(a.n:Int) by omega))],by kernel_rfl⟩ nofun
  exact ae.bb (by rw[hb,h4]) (cD [] [] _ (LT.cons o LT.nil) [false,false,false] ([pF (eD h1),pF (eD h2),pF (eD (a:=a.n) (b:=b.n) (by omega)),q0,pR (ak 0),pR (ak 1)]++fk a++fk b) (by kernel_rfl))|false =>
  obtain⟨m,hm,k1,k2⟩:=AL h4;have o:=bW (X:=[]) (K:=[]) (f:=rT) (id:=8) (n:=nF rT) m (Ei a b) (λ_=>[]) (e:=.rt) (d1:=⟨[(4,.eq ⟨false,[.b false]⟩)],[]⟩) (by kernel_rfl) (λ_=>by kernel_rfl) (λ_ _=>LT.nil) (λk hk=>R k (by omega) (k2 k hk))
   ⟨[true,true],[pT (aZ (show (m:Int)<(a.n:Int) by omega)),pP (show 0<=(m:Int)/\(m:Int)<(a.n:Int) by omega),pP (show 0<=(m:Int)/\(m:Int)<(b.n:Int) by omega),pT (show (!rP (a.e m) (b.e m))=true by rw[k1];rfl),pR ⟨false,[.b false]⟩],by kernel_rfl⟩ nofun
  exact ae.bb (by rw[hb,h4]) (cD [] [] _ (LT.cons o LT.nil) [false,false,false] ([pF (eD h1),pF (eD h2),pF (eD (a:=a.n) (b:=b.n) (by omega)),q0,pR (ak 0),pR (ak 1)]++fk a++fk b) (by kernel_rfl))
def YA:ah:=gi qh qh rT (λa b=>.one (aN (iE a b))) (λa _=>[a.n<=1000]) λa b h=>a5G a b h.1
end
end Go.Proofs.YtghemgdfmldoeaaGreat
