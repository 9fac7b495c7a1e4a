import Derived.Test.YtghemgdfmldoeaaGreatS22
import Derived.Test.YtghemgdfmldoeaaGreatRows
import Derived.ProofKit
import Derived.OpenShut
import Derived.ShutString
import Derived.ChangeOld
import Derived.Lib.SmallJoins
set_option linter.unusedVariables false
set_option linter.unusedSimpArgs false

namespace Go.Proofs.YtghemgdfmldoeaaGreat
open Go.RowKit
theorem law_true{f:FuncId}{args:List V1}(h:Fok Tryz.prog f args (.one (blV true))){W:World}{vals:List Value}(hv:RepVs W W (fun _=>0) 0 args vals):Calls Tryz.prog f vals.toArray W fun e w'=>e=.returned (.bool true)/\Below W.heap.size W w' :=
 (h W vals hv).mono fun e w' ⟨v,e1,h1,h2⟩=>⟨by rw[e1,(rv_v.1 h1).2],h2⟩
end Go.Proofs.YtghemgdfmldoeaaGreat

set_option maxRecDepth 100000
namespace Go.Proofs.YtghemgdfmldoeaaGreat.fin
open Go.ChangeShapes Go.WideShapes Go.ChangeAt Go.RowKit Go.Joins
set_option linter.unusedVariables false
def In64(z:Int):Prop := -9223372036854775808<=z/\z<=9223372036854775807
theorem list_cons{α:Type}{L:List α}{n:Nat}(h:L.length=n+1):∃x M,L=x::M/\M.length=n:=by
 cases L with
 | nil=>simp at h
 | cons x M=>exact⟨x,M,rfl,by simpa using h⟩
theorem own:ownKnob Tryz.prog.godebug=none:=by kernel_rfl
theorem laidOut:laidOutB Tryz.prog=true:=by kernel_rfl
def IsRow(k:IntKind)(w:World)(a:Option Addr)(len cap:Nat)(zs:List Int):Prop :=
 (a=none/\len=0/\cap=0/\zs=[]) \/
 ∃x,a=some x/\len<=cap/\cap<=maxLen/\zs.length=cap/\(∀i,i<zs.length->w.cell? (x.add i)=some (.int k (zs.getD i 0)))/\∀n∈zs,(Lit.int k n).wf=true
theorem IsRow.ints{w:World}{a:Option Addr}{len cap:Nat}{zs:List Int}(h:IsRow .i64 w a len cap zs):Ints w a len (zs.take len)/\len<=cap/\cap<=9223372036854775807:=by
 rcases h with⟨rfl,rfl,rfl,rfl⟩|⟨x,rfl,hl,hm,hz,hc,_⟩
 ·exact⟨⟨rfl,by omega,fun h=>absurd h (by omega)⟩,by omega,by omega⟩
 ·unfold maxLen at hm
  refine⟨⟨by rw[List.length_take,hz];omega,by omega,fun h0=>?_⟩,hl,by omega⟩
  obtain⟨b,o,rfl,hd⟩:=ints_at hc (by omega)
  refine⟨b,o,rfl,?_,fun i hi=>?_⟩
  ·exact World.block_lt_of_cell? w _ (hd 0 (by omega))
  ·rw [hd i (by omega), List.getElem?_take_of_lt hi]
   rfl
theorem int_of{W:World}{base:Nat}{v:Value}(h:Cell.okWide Tryz.prog W .any base 3 v):∃z,v=.int .i64 z/\In64 z:=by
 have hu:=Tryz.underlying3
 unfold Cell.okWide at h
 rw[hu] at h
 cases v with
 | int k z =>
  simp only[Cell.ok,hu,IntKind.has] at h
  obtain⟨rfl,h1,h2⟩:=h
  simp[IntKind.min,IntKind.max,IntKind.signed,IntKind.bits] at h1 h2
  exact⟨z,rfl,h1,h2⟩
 | _=>simp[Cell.ok,hu] at h
end Go.Proofs.YtghemgdfmldoeaaGreat.fin
namespace Go.Proofs.YtghemgdfmldoeaaGreat
open Go.RowKit
def e7(e:Ed):List (Int×Nat):=[(e.k,lim),(e.ax,lim),(e.ay,lim),(e.bx,lim),(e.by',lim),(e.cx,lim),(e.cy,lim)]
def edD(n:Nat)(e:Nat->Ed):It:=.d (.ed n fun i=>e7 (e i))
def shIs(s:Sh):List It:=[.i s.k lim,edD s.n s.e,.i s.r lim]
def shdV(s:Sh):V1:=⟨true,shIs s⟩
theorem rowC_cg{R:List It->List Value->Prop}{V:World}{z n:Nat}{f g:Nat->List It}{v:Value}(h:∀i,i<n->f i=g i):RowC R V z n f v->RowC R V z n g v
 | ⟨a,c,e,h1,h2,h3⟩=>⟨a,c,e,h1,h2,fun i hi=>by rw[<- h i hi];exact h3 i hi⟩
theorem repF_ints{W:World}:∀ {l:List (Int×Nat)} {cs:List Value},RepF W (l.map fun x=>It.i x.1 x.2) cs->cs=l.map (fun x=>Value.int .i64 x.1)/\∀x∈l,x.1.natAbs<=x.2/\I64 x.1
 | [],_,e=>⟨e,nofun⟩
 | _::_,_,⟨c,d,e,h1,h2⟩=>by
  obtain⟨k1,k2⟩:=repF_ints h2
  obtain⟨rfl,k3⟩:=h1
  subst e
  rw[k1]
  exact⟨rfl,fun x hx=>by rcases List.mem_cons.1 hx with rfl|hx;exact k3;exact k2 x hx⟩
theorem rowC_ed{W:World}{n:Nat}{e:Nat->Ed}{v:Value}(h:RowC (RepF W) W 7 n (fun i=>edI (e i)) v)(hT:∀g o m c,v=.slice (some ⟨g,o,none⟩) m c->∀(xs:Array Value) (T:TypeId) (fr:Nat×Nat),W.heap[g]? = some (.cells xs T fr)->T=tE):EdC W n (fun i=>e7 (e i)) v:=by
 obtain⟨a,c,rfl,h1,h2,h3⟩:=h
 refine⟨a,c,rfl,h1,h2,fun i hi=>?_⟩
 obtain⟨g,o,xs,T,rfl,k1,k2,cs,d,k3,k4⟩:=h3 i hi
 have hE:T.1=tE:=hT g o n c rfl xs T.1 T.2 k1
 obtain⟨q1,q2⟩:=repF_ints (l:=e7 (e i)) k4
 exact⟨g,o,xs,T.2,rfl,by rw[<- hE];exact k1,k2,⟨d,by rw[k3,q1]⟩,q2⟩
def aHead(P:Program)(E:Env)(call:CallF)(L:List (Nat×Orc)):Nat->Code->St->List Bool->Option (St×List Prop×List Bool)
 | 0,_,s,q=>some (s,[],q)
 | n+1,.seq a b,s,q=>match aCodeL P E call L a s q with
  | some (.nm,s,ps,q)=>(aHead P E call L n b s q).map fun r=>(r.1,ps++r.2.1,r.2.2)
  | _=>none
 | _+1,_,_,_=>none
def restS:Nat->Code->Code
 | 0,c=>c
 | n+1,.seq _ b=>restS n b
 | _+1,_=>.skip
theorem aHead_wp{P:Program}{E:Env}{call:CallF}{L:List (Nat×Orc)}(hs:Sound P E call){Q:Exit->Act->World->Prop}:∀ {n:Nat} {c:Code} {V:World} {s s':St} {q q':List Bool} {ps:List Prop} {a:Act} {w:World},LpOk P (loopsOf c) L->aHead P E call L n c s q=some (s',ps,q')->All ps->JJ V s a w ->
  (∀a' W,JJ V s' a' W->(restS n c).wp P Q a' W)->c.wp P Q a w
 | 0,c,V,s,s',q,q',ps,a,w,_,h,_,hJ,hQ=>by
  unfold aHead at h
  cases h
  exact hQ _ _ hJ
 | n+1,c,V,s,s',q,q',ps,a,w,hL,h,hp,hJ,hQ=>by
  cases c with
  | seq x y =>
   have hL1:LpOk P (loopsOf x) L:=fun c hc=>hL c (List.mem_append_left _ hc)
   have hL2:LpOk P (loopsOf y) L:=fun c hc=>hL c (List.mem_append_right _ hc)
   unfold aHead at h
   split at h
   ·rename_i s1 ps1 q1 h1
    cases h2:aHead P E call L n y s1 q1 with
    | none=>simp[h2] at h
    | some z =>
     obtain⟨s2,ps2,q2⟩:=z
     simp only[h2,Option.map_some,Option.some.injEq,Prod.mk.injEq] at h
     obtain⟨rfl,rfl,rfl⟩:=h
     obtain⟨p1,p2⟩:=All.app hp
     exact wp_seq (aCodeL_wp hs hL1 h1 p1 hJ fun a' W hW=>aHead_wp hs hL2 h2 p2 hW hQ)
   ·cases h
  | _=>unfold aHead at h;cases h
noncomputable def preF(X:List Eff)(K:List Con)(L:List (Nat×Orc))(f:FuncId)(n:Nat)(args:List V1)(d:Ds)(q:List Bool):Option (List Prop) :=
 match aHead Tryz.prog (env X) (callK X K) L n (bodyF Tryz.prog f) ⟨⟨args.length+(nF f-args.length),(Tr.full 12).fill 0 (args.map fun v=>.one (toOV v))⟩,[],0⟩ q with
 | some (s,ps,[])=>if lpsOk f L&&(s.t.n==nF f) then (leS s d).map (ps++·) else none
 | _=>none
theorem preF_wp{X:List Eff}{K:List Con}{L:List (Nat×Orc)}{f:FuncId}(hL:LT f L){n:Nat}{args:List V1}{d:Ds}{q:List Bool}(pf:List Pf)(h:preF X K L f n args d q=some (pf.map Pf.p)){w:World}{vals:List Value}(hv:RepVs w w (fun _=>0) 0 args vals){Q:Exit->Act->World->Prop}
  (hQ:∀a' W,JJ w (mkS (nF f) d) a' W->(restS n (bodyF Tryz.prog f)).wp Tryz.prog Q a' W):(bodyF Tryz.prog f).wp Tryz.prog Q { tmps:=vals.toArray++Array.replicate (nF f-vals.toArray.size) undef,defers:=[] } w:=by
 have hp:=all_pf pf
 rw[show pf.map Pf.p=pf.map Pf.p from rfl] at h
 generalize pf.map Pf.p=ps at h hp
 unfold preF at h
 split at h
 ·rename_i s ps1 h1
  split at h
  ·rename_i hc
   simp only[Bool.and_eq_true,beq_iff_eq] at hc
   obtain⟨hk,hn⟩:=hc
   cases h2:leS s d with
   | none=>simp[h2] at h
   | some ps2 =>
    simp only[h2,Option.map_some,Option.some.injEq] at h
    subst h
    obtain⟨p1,p2⟩:=All.app hp
    have hLp:LpOk Tryz.prog (loopsOf (bodyF Tryz.prog f)) L:=by
     cases L with
     | nil=>exact LpOk.nil
     | cons x L =>
      have g:LpOk Tryz.prog (lpsF f) (x::L):=LT.ok (lpsOk_at hk x (List.mem_cons_self ..)) hL (lpsOk_at hk)
      rw[lpsF_eq] at g
      exact g
    exact aHead_wp (snd_ok X K) hLp h1 p1 ⟨_,_,start_J hv⟩ fun a' W hW=>hQ a' W (le_J h2 p2 hn hW)
  ·cases h
 ·cases h
structure Mot where
 x:Int
 y:Int
 t:Int
 m:Bool
structure Drw where
 s:Sh
 c:Bool
structure Hol where
 s:Sh
 f:Int
 t:Int
 p:Bool
structure Prb where
 c:Int
 a:ByteArray
 b:ByteArray
 x:Int
 y:Int
 l:Int
structure Pnl where
 nc:Nat
 c:Nat->Mot
 nt:Nat
 t:Nat->Sh
 nm:Nat
 m:Nat->Int×Int
 r:Int
def moI(m:Mot):List It:=[.i m.x lim,.i m.y lim,.i m.t lim,.v (.bool m.m)]
def drI(d:Drw):List It:=[.i d.s.k lim,edD d.s.n d.s.e,.i d.s.r lim,.v (.bool d.c)]
def hoI(h:Hol):List It:=[.i h.s.k lim,edD h.s.n h.s.e,.i h.s.r lim,.i h.f lim,.i h.t lim,.v (.bool h.p)]
def prbI(p:Prb):List It:=[.i p.c lim,.v (.string p.a),.v (.string p.b),.i p.x lim,.i p.y lim,.i p.l lim]
def ptI(p:Int×Int):List It:=[.i p.1 lim,.i p.2 lim]
def edOf7(n:Nat)(f:Nat->List (Int×Nat)):Nat->Ed:=fun i=>match f i with
 | [k,ax,ay,bx,by',cx,cy]=>⟨k.1,ax.1,ay.1,bx.1,by'.1,cx.1,cy.1⟩
 | _=>⟨0,0,0,0,0,0,0⟩
def moA:List It->Mot
 | [.i x _,.i y _,.i t _,.v (.bool m)]=>⟨x,y,t,m⟩
 | _=>⟨0,0,0,false⟩
def shR:List It->Sh
 | [.i k _,.d (.ed n f),.i r _]=>⟨k,n,edOf7 n f,r⟩
 | _=>⟨0,0,fun _=>⟨0,0,0,0,0,0,0⟩,0⟩
def drA':List It->Drw
 | [a,b,c,.v (.bool d)]=>⟨shR [a,b,c],d⟩
 | _=>⟨shR [],false⟩
def hoA:List It->Hol
 | [a,b,c,.i f _,.i t _,.v (.bool p)]=>⟨shR [a,b,c],f,t,p⟩
 | _=>⟨shR [],0,0,false⟩
def prbA:List It->Prb
 | [.i c _,.v (.string a),.v (.string b),.i x _,.i y _,.i l _]=>⟨c,a,b,x,y,l⟩
 | _=>⟨0,default,default,0,0,0⟩
def ptA:List It->Int×Int
 | [.i x _,.i y _]=>(x,y)
 | _=>(0,0)
def toRows(z:Nat):It->Option (Nat×(Nat->List It))
 | .ro z' n f=>if z'=z then some (n,f) else none
 | .v (.slice none 0 0)=>some (0,fun _=>[])
 | _=>none
theorem toRows_rep{α:Type}{I:α->List It}{A:List It->α}{V W:World}{r:Nat->Nat}{k z n:Nat}{i:It}{f:Nat->List It}{cs:List Value}(h:toRows z i=some (n,f))(hp:∀j,j<n->f j=I (A (f j)))(hr:RepI V W r k i cs):RepI V W r k (.ro z n fun j=>I (A (f j))) cs:=by
 unfold toRows at h
 split at h
 ·split at h <;> cases h
  rename_i hz
  subst hz
  obtain⟨v,e,hr⟩:=hr
  exact⟨v,e,rowC_cg hp hr⟩
 ·cases h
  obtain⟨e,_⟩:=hr
  exact⟨_,e,none,0,rfl,Nat.le_refl _,Nat.zero_le _,fun j hj=>absurd hj (Nat.not_lt_zero _)⟩
 ·cases h
structure Dec where
 α:Type
 C:α->V1
 d:V1->Option (α×List Prop)
 ok:∀v a ps,d v=some (a,ps)->All ps->∀W x,RepV W W (fun _=>0) 0 v x->RepV W W (fun _=>0) 0 (C a) x
def decRow{α:Type}(z:Nat)(I:α->List It)(A:List It->α):Dec where
 α:=Nat×(Nat->α)
 C:=fun a=>⟨false,[.ro z a.1 fun j=>I (a.2 j)]⟩
 d:=fun|⟨false,[i]⟩=>(toRows z i).map fun nf=>((nf.1,fun j=>A (nf.2 j)),[∀j,j<nf.1->nf.2 j=I (A (nf.2 j))])|_=>none
 ok:=by
  intro v a ps h hp W x hr
  split at h
  ·rename_i i
   cases hq:toRows z i with
   | none=>simp[hq] at h
   | some nf =>
    obtain⟨n,f⟩:=nf
    simp only[hq,Option.map_some,Option.some.injEq,Prod.mk.injEq] at h
    obtain⟨rfl,rfl⟩:=h
    exact RepI.val (toRows_rep hq hp.1 hr.scal)
  ·cases h
def dDrs:Dec:=decRow 4 drI drA'
def dHos:Dec:=decRow 6 hoI hoA
def dPrs:Dec:=decRow 6 prbI prbA
def dShs:Dec:=decRow 3 shIs shR
def dSh:Dec where
 α:=Sh
 C:=shpV
 d:=fun|⟨true,l⟩=>toSh l|_=>none
 ok:=by
  intro v a ps h hp W x hr
  split at h
  ·exact toSh_rep h hp hr
  ·cases h
def dIn:Dec where
 α:=Int
 C:=fun z=>inV z lim
 d:=fun|⟨false,[.i z _]⟩=>some (z,[])|_=>none
 ok:=by
  intro v a ps h hp W x hr
  split at h<;>cases h
  rw[inV,rv_i] at *
  exact⟨⟨i64_lim hr.1.2,hr.1.2⟩,hr.2⟩
def dPt:Dec where
 α:=Int×Int
 C:=fun p=>⟨true,ptI p⟩
 d:=fun|⟨true,[.i x _,.i y _]⟩=>some ((x,y),[])|_=>none
 ok:=by
  intro v a ps h hp W x hr
  split at h<;>cases h
  obtain⟨cs,⟨_,_,rfl,⟨rfl,_,i1⟩,_,_,rfl,⟨rfl,_,i2⟩,rfl⟩,e,_⟩:=hr
  exact⟨_,⟨_,_,rfl,⟨rfl,i64_lim i1,i1⟩,_,[],rfl,⟨rfl,i64_lim i2,i2⟩,rfl⟩,e,nofun⟩
def dMo:Dec where
 α:=Mot
 C:=fun m=>⟨true,moI m⟩
 d:=fun|⟨true,[.i x _,.i y _,.i t _,.v (.bool m)]⟩=>some (⟨x,y,t,m⟩,[])|_=>none
 ok:=by
  intro v a ps h hp W x hr
  split at h<;>cases h
  obtain⟨cs,⟨_,_,rfl,⟨rfl,_,i1⟩,_,_,rfl,⟨rfl,_,i2⟩,_,_,rfl,⟨rfl,_,i3⟩,_,_,rfl,hb,rfl⟩,e,_⟩:=hr
  exact⟨_,⟨_,_,rfl,⟨rfl,i64_lim i1,i1⟩,_,_,rfl,⟨rfl,i64_lim i2,i2⟩,_,_,rfl,⟨rfl,i64_lim i3,i3⟩,_,[],rfl,hb,rfl⟩,e,nofun⟩
def panI(p:Pnl):List It:=[.ro 4 p.nc fun i=>moI (p.c i),.ro 3 p.nt fun i=>shIs (p.t i),.ro 2 p.nm fun i=>ptI (p.m i),.i p.r lim]
def panV(p:Pnl):V1:=⟨true,panI p⟩
def toPan:List It->Option (Pnl×List Prop)
 | [a,b,c,d]=>match toRows 4 a,toRows 3 b,toRows 2 c,asI d with
  | some (nc,fc),some (nt,ft),some (nm,fm),some z=>some (⟨nc,fun i=>moA (fc i),nt,fun i=>shR (ft i),nm,fun i=>ptA (fm i),z.1⟩,[∀j,j<nc->fc j=moI (moA (fc j)),∀j,j<nt->ft j=shIs (shR (ft j)),∀j,j<nm->fm j=ptI (ptA (fm j))])
  | _,_,_,_=>none
 | _=>none
def dPan:Dec where
 α:=Pnl
 C:=panV
 d:=fun|⟨true,l⟩=>toPan l|_=>none
 ok:=by
  intro v a ps h hp W x hr
  split at h
  ·unfold toPan at h
   split at h
   ·split at h <;> cases h
    rename_i z ha hb hc hd
    obtain⟨p1,p2,p3,_⟩:=hp
    obtain⟨cs,⟨c1,_,rfl,h1,c2,_,rfl,h2,c3,_,rfl,h3,c4,_,rfl,h4,rfl⟩,e,_⟩:=hr
    exact⟨_,⟨c1,_,rfl,toRows_rep ha p1 h1,c2,_,rfl,toRows_rep hb p2 h2,c3,_,rfl,toRows_rep hc p3 h3,c4,[],rfl,asI_lim hd h4,rfl⟩,e,nofun⟩
   ·cases h
  ·cases h
def con1(D:Dec)(f:FuncId)(g:D.α->AV)(p:D.α->List Prop)(h:∀a,All (p a)->Fok Tryz.prog f [D.C a] (g a)):Con where
 f:=f
 g:=fun | [u]=>(D.d u).map fun a=>(g a.1,p a.1++a.2)|_=>none
 ok:=by
  intro args res ps h' hp
  split at h'<;>try cases h'
  rename_i u
  cases hq:D.d u with
  | none=>simp[hq] at h'
  | some a =>
   simp only[hq,Option.map_some,Option.some.injEq,Prod.mk.injEq] at h'
   obtain⟨rfl,rfl⟩:=h'
   obtain⟨p1,p2⟩:=All.app hp
   exact (h _ p1).pre fun W=>rvs_1 (fun x=>D.ok u a.1 a.2 hq p2 W x) rvs_0
def con2(D E:Dec)(f:FuncId)(g:D.α->E.α->AV)(p:D.α->E.α->List Prop)(h:∀a b,All (p a b)->Fok Tryz.prog f [D.C a,E.C b] (g a b)):Con where
 f:=f
 g:=fun | [u,v]=>(match D.d u,E.d v with|some a,some b=>some (g a.1 b.1,p a.1 b.1++(a.2++b.2))|_,_=>none)|_=>none
 ok:=by
  intro args res ps h' hp
  split at h'<;>try cases h'
  split at h'<;>cases h'
  rename_i u v _ _ a b ha hb
  obtain⟨p1,p2⟩:=All.app hp
  obtain⟨p2,p3⟩:=All.app p2
  exact (h _ _ p1).pre fun W=>rvs_1 (fun x=>D.ok u a.1 a.2 ha p2 W x) (rvs_1 (fun x=>E.ok v b.1 b.2 hb p3 W x) rvs_0)
def con3(D E F:Dec)(f:FuncId)(g:D.α->E.α->F.α->AV)(p:D.α->E.α->F.α->List Prop)(h:∀a b c,All (p a b c)->Fok Tryz.prog f [D.C a,E.C b,F.C c] (g a b c)):Con where
 f:=f
 g:=fun | [u,v,w]=>(match D.d u,E.d v,F.d w with|some a,some b,some c=>some (g a.1 b.1 c.1,p a.1 b.1 c.1++(a.2++(b.2++c.2)))|_,_,_=>none)|_=>none
 ok:=by
  intro args res ps h' hp
  split at h'<;>try cases h'
  split at h'<;>cases h'
  rename_i u v w _ _ _ a b c ha hb hc
  obtain⟨p1,p2⟩:=All.app hp
  obtain⟨p2,p3⟩:=All.app p2
  obtain⟨p3,p4⟩:=All.app p3
  exact (h _ _ _ p1).pre fun W=>rvs_1 (fun x=>D.ok u a.1 a.2 ha p2 W x) (rvs_1 (fun x=>E.ok v b.1 b.2 hb p3 W x) (rvs_1 (fun x=>F.ok w c.1 c.2 hc p4 W x) rvs_0))
def xAll:Eff where
 f:=10
 g:=fun _ _ _=>none
 ok:=fun _ _ _ _ _ _ h=>by cases h
def olV{α:Type}(T:TypeId)(z:Nat)(I:α->List It)(n:Nat)(f:Nat->α):V1:=⟨false,[.ol T z n fun i=>I (f i)]⟩
def drsO(n:Nat)(f:Nat->Drw):V1:=olV 72 4 drI n f
def hosO(n:Nat)(f:Nat->Hol):V1:=olV 78 6 hoI n f
def prsO(n:Nat)(f:Nat->Prb):V1:=olV 64 6 prbI n f
def rowV{α:Type}(z:Nat)(I:α->List It)(n:Nat)(f:Nat->α):V1:=⟨false,[.ro z n fun i=>I (f i)]⟩
structure Sp where
 x:Int
 y:Int
 dx:Int
 dy:Int
 p:Int
 q:Int
 len:Int
def Sp.no:Sp:=⟨0,0,0,0,0,0,0⟩
def spP(x y:Int):Sp:=⟨x,y,0,0,0,1,0⟩
def sqI(x y:Int):Int:=x*x+y*y
def dR(add s n d:Int):Rt:=(ofP add s (ofZ n) (ofZ d)).1
def endR(px py qx qy:Int):Rt×Sp:=(dR 0 1 (sqI (px-qx) (py-qy)) 1,spP qx qy)
def lineR(e:Ed)(px py:Int):Rt×Sp :=
 if (px-e.ax)*(e.bx-e.ax)+(py-e.ay)*(e.by'-e.ay)<=0 then endR px py e.ax e.ay
 else if sqI (e.bx-e.ax) (e.by'-e.ay)<=(px-e.ax)*(e.bx-e.ax)+(py-e.ay)*(e.by'-e.ay) then endR px py e.bx e.by'
 else (dR 0 1 (((e.bx-e.ax)*(py-e.ay)-(e.by'-e.ay)*(px-e.ax))*((e.bx-e.ax)*(py-e.ay)-(e.by'-e.ay)*(px-e.ax))) (sqI (e.bx-e.ax) (e.by'-e.ay)),
  ⟨e.ax,e.ay,e.bx-e.ax,e.by'-e.ay,(px-e.ax)*(e.bx-e.ax)+(py-e.ay)*(e.by'-e.ay),sqI (e.bx-e.ax) (e.by'-e.ay),0⟩)
def wiB(dx dy fx fy tx ty:Int):Bool:=decide (0<=fx*dy-fy*dx)&&decide (0<=dx*ty-dy*tx)
def inQ(e:Ed)(vx vy:Int):Bool :=
 !(vx==0&&vy==0)&&(if e.k=3 then wiB vx vy (e.bx-e.cx) (e.by'-e.cy) (e.ax-e.cx) (e.ay-e.cy) else wiB vx vy (e.ax-e.cx) (e.ay-e.cy) (e.bx-e.cx) (e.by'-e.cy))
def arcR(e:Ed)(px py:Int):Rt×Sp :=
 if inQ e (px-e.cx) (py-e.cy) then
  (if radZ e*radZ e<=sqI (px-e.cx) (py-e.cy) then dR (-radZ e) 1 (sqI (px-e.cx) (py-e.cy)) 1 else dR (radZ e) (-1) (sqI (px-e.cx) (py-e.cy)) 1,⟨e.cx,e.cy,px-e.cx,py-e.cy,0,0,radZ e⟩)
 else if sqI (px-e.bx) (py-e.by')<sqI (px-e.ax) (py-e.ay) then endR px py e.bx e.by' else endR px py e.ax e.ay
def pointR(e:Ed)(px py:Int):Rt×Sp :=
 if !(e.ok&&coordB px py) then (Rt.no,Sp.no) else if e.k=1 then lineR e px py else arcR e px py
structure Pr where
 d:Rt
 a:Sp
 b:Sp
def Pr.swap(p:Pr):Pr:=⟨p.d,p.b,p.a⟩
def footR(l a:Ed):List Pr :=
 let dx:=l.bx-l.ax
 let dy:=l.by'-l.ay
 let t:=(a.cx-l.ax)*dx+(a.cy-l.ay)*dy
 let c:=dx*(a.cy-l.ay)-dy*(a.cx-l.ax)
 let nx:=if 0<c then dy else -dy
 let ny:=if 0<c then -dx else dx
 if t<=0\/sqI dx dy<=t\/c*c<=radZ a*radZ a*sqI dx dy\/inQ a nx ny=false then []
 else [⟨dR (-radZ a) 1 (c*c) (sqI dx dy),⟨l.ax,l.ay,dx,dy,t,sqI dx dy,0⟩,⟨a.cx,a.cy,nx,ny,0,0,radZ a⟩⟩]
def centR(a b:Ed):List Pr :=
 let vx:=b.cx-a.cx
 let vy:=b.cy-a.cy
 let r:=radZ a
 let s:=radZ b
 let n:=sqI vx vy
 if (r+s)*(r+s)<n then (if inQ a vx vy&&inQ b (-vx) (-vy) then [⟨dR (-r-s) 1 n 1,⟨a.cx,a.cy,vx,vy,0,0,r⟩,⟨b.cx,b.cy,-vx,-vy,0,0,s⟩⟩] else [])
 else if (r-s)*(r-s)<=n then []
 else if s<r then (if inQ a vx vy&&inQ b vx vy then [⟨dR (r-s) (-1) n 1,⟨a.cx,a.cy,vx,vy,0,0,r⟩,⟨b.cx,b.cy,vx,vy,0,0,s⟩⟩] else [])
 else (if inQ a (-vx) (-vy)&&inQ b (-vx) (-vy) then [⟨dR (s-r) (-1) n 1,⟨a.cx,a.cy,-vx,-vy,0,0,r⟩,⟨b.cx,b.cy,-vx,-vy,0,0,s⟩⟩] else [])
def innerR(a b:Ed):List Pr :=
 if a.k=1 then (if b.k=1 then [] else footR a b) else if b.k=1 then (footR b a).map Pr.swap else centR a b
def candR(a b:Ed):List Pr :=
 [⟨(pointR b a.ax a.ay).1,spP a.ax a.ay,(pointR b a.ax a.ay).2⟩,⟨(pointR b a.bx a.by').1,spP a.bx a.by',(pointR b a.bx a.by').2⟩,
  ⟨(pointR a b.ax b.ay).1,(pointR a b.ax b.ay).2,spP b.ax b.ay⟩,⟨(pointR a b.bx b.by').1,(pointR a b.bx b.by').2,spP b.bx b.by'⟩]++innerR a b
def betterP(x y:Pr):Pr:=if cmpRt y.d x.d<0 then y else x
def leastP:List Pr->Pr
 | []=>⟨Rt.no,Sp.no,Sp.no⟩
 | x::l=>l.foldl betterP x
def edgesR(a b:Ed):Pr:=if !(a.ok&&b.ok) || !(countE a b==0) then ⟨Rt.no,Sp.no,Sp.no⟩ else leastP (candR a b)
theorem sqz_nn(x:Int):0<=x*x:=by
 rcases Int.le_total 0 x with h|h
 ·exact Int.mul_nonneg h h
 ·rw[<- Int.neg_mul_neg];exact Int.mul_nonneg (by omega) (by omega)
theorem Di.sq{x y:Int}(hx:Di x)(hy:Di y):I64 (sqI x y):=hx.dot hx hy hy
def cMul:Con:=nBinC 212 mulP (fun _ _=>[]) fun a b _ _ _ _ _ _ _ _ w _ h1 h2=>num_Mul a b _ _ _ _ _ _ _ _ w h1 h2

set_option maxHeartbeats 2000000
set_option maxRecDepth 100000
section
attribute [local go_sem] Gives givesU
def DrawH(w:World)(B:Nat)(v:Value)(d:List Value)(T:TypeId)(k:Nat):Prop:=w.heap[B]? = some (.cells (v::.int .i64 (k:Nat)::d).toArray T)
theorem DrawH.at{w:World}{B len cp k:Nat}{a:Option Addr}{d:List Value}{T:TypeId}(h:DrawH w B (.slice a len cp) d T k):DrawAt w B a len cp k:=by
 unfold DrawH at h
 refine⟨(Array.getElem?_eq_some_iff.1 h).1,?_,?_,fun o=>by simp[World.frozen?,h]⟩
 ·rw[cell_of_row _ _ _ _ _ _ h];simp
 ·rw[cell_of_row _ _ _ _ _ _ h];simp
theorem DrawH.ext{w w':World}{B k:Nat}{v:Value}{d:List Value}{T:TypeId}(h:DrawH w B v d T k)(hx:Ext w w'):DrawH w' B v d T k:=heap_ext h hx
theorem DrawH.set{w:World}{B k:Nat}{v:Value}{d:List Value}{T:TypeId}(h:DrawH w B v d T k)(j:Nat):DrawH (w.setCell ⟨B,1,none⟩ (.int .i64 (j:Nat))) B v d T j:=by
 unfold DrawH at *
 have hB:=(Array.getElem?_eq_some_iff.1 h).1
 have e:=(Array.getElem?_eq_some_iff.1 h).2
 rw[Array.getElem?_eq_some_iff]
 refine⟨by simpa[World.setCell] using hB,?_⟩
 simp only[World.setCell,Array.getElem_modify,if_true,e]
 simp
theorem r01_NextH(L:List Int)(B:Nat)(a:Option Addr)(len cp k:Nat)(n:Int)(d:List Value)(T:TypeId)(w:World)(hH:DrawH w B (.slice a len cp) d T k)(hL:Ints w a len L)(hne:0<len->∀x,a=some x->x.block≠B)(hn:0<n/\n<=4294967296)(hk:k<=len) :
  Calls Tryz.prog 52 #[.pointer (some ⟨B,0,none⟩),.int .i64 n] w fun e w'=>e=.returned (.int .i64 (nextV L k n))/\DrawH w' B (.slice a len cp) d T (nextK L k)/\Past B w w':=by
 have hd:=hH.at
 obtain⟨hB,c0,c1,hf⟩:=hd
 obtain⟨hl,hm,hrow⟩:=hL
 by_cases hlt:k<len
 ·have e1 : nextV L k n = modZ (L[k]?.getD 0) n := by unfold nextV; rw [if_pos (by omega)]
  have e2:nextK L k=k+1:=by unfold nextK;rw[if_pos (by omega)]
  rw[e1,e2]
  obtain⟨b,o,rfl,hb,hc⟩:=hrow (by omega)
  have hck:=hc k hlt
  have hbB:b≠B:=hne (by omega) _ rfl
  obtain⟨x,X⟩:∃x,L[k]?.getD 0=x:=⟨_,rfl⟩
  rw[X] at hck ⊢
  have MC:=Lib.hid (fun w=>r01_Mod x n w hn)
  replace hH:=Lib.hid hH
  clear e1 e2 hc hrow hl hne X hn
  have w1:IntKind.i64.wrap ((k:Int)+1)=((k+1:Nat):Int):=by rw[wrap_in];rfl;unfold I64;omega
  have w2:IntKind.i64.wrap (((k+1:Nat):Int)-1)=(k:Int):=by rw[wrap_in];omega;unfold I64;omega
  have g1:decide ((len:Int)<=(k:Int))=false:=by rw[decide_eq_false_iff_not];omega
  have i0:(0:Int)<=(k:Int):=by omega
  have i1:(k:Int)<(len:Int):=by omega
  go_enter Tryz.func52,Tryz.ntmps52
  have w3:IntKind.i64.wrap (k:Int)=(k:Int):=by rw[wrap_in];unfold I64;omega
  have ts:(k:Int).toNat=k:=by omega
  go_wp2_with fail
  refine wp_FSc (fun W=>W.cell? ⟨B,0,none⟩=some (.slice (some ⟨b,o,none⟩) len cp)/\W.cell? ⟨B,1,none⟩=some (.int .i64 k)) ?_
  repeat (first|refine F_s ?_|refine F_r ?_)
  rintro W ⟨hx,hc0,hc1⟩
  have hdW:DrawAt W B (some ⟨b,o,none⟩) len cp k:=DrawAt.ext ⟨hB,c0,c1,hf⟩ hx
  have hfW:=hdW.2.2.2
  have hkW:W.cell? ⟨b,o+k,none⟩=some (.int .i64 x):=(hx.cell (p:=⟨b,o+k,none⟩) hb).trans hck
  have hBW:B<W.heap.size:=Nat.lt_of_lt_of_le hB hx.size
  have hbW:b<W.heap.size:=Nat.lt_of_lt_of_le hb hx.size
  have hxs:=hx.size
  clear hdW
  have HD:=Lib.hid (hH.out.ext hx)
  have HX:Hid (Ext w W):=hx
  clear hx
  go_wp2_with fail
  refine wp_FSc (fun W=>W.cell? ⟨B,0,none⟩=some (.slice (some ⟨b,o,none⟩) len cp)/\W.cell? ⟨B,1,none⟩=some (.int .i64 (k+1:Nat))/\W.cell? ⟨b,o+k,none⟩=some (.int .i64 x)) ?_
  repeat (first|refine F_s ?_|refine F_r ?_)
  refine F_c (.int .i64 (modZ x n)) (fun W hW=>MC.out _) ?_
  repeat (first|refine F_s ?_|refine F_r ?_)
  rintro W2 ⟨hx2,hc2⟩
  go_wp2
  go_ret
  exact⟨rfl,(HD.out.set _).ext hx2,((Past.of_ext HX.out).step (Past.set W 1 _)).step (Past.of_ext hx2)⟩
 ·have e1 : nextV L k n = 0 := by unfold nextV; rw [if_neg (by omega)]
  have e2:nextK L k=k:=by unfold nextK;rw[if_neg (by omega)]
  rw[e1,e2]
  have g1:decide ((len:Int)<=(k:Int))=true:=by rw[decide_eq_true_iff];omega
  have hdh:=Lib.hid hH
  clear hH
  clear e1 e2 hl hne hn hrow
  go_enter Tryz.func52,Tryz.ntmps52
  go_wp2_with fail
  refine wp_FSc (fun W=>W.cell? ⟨B,0,none⟩=some (.slice a len cp)/\W.cell? ⟨B,1,none⟩=some (.int .i64 k)) ?_
  repeat (first|refine F_s ?_|refine F_r ?_)
  rintro W ⟨hx,hc0,hc1⟩
  go_wp2
  go_ret
  exact⟨rfl,hdh.out.ext hx,Past.of_ext hx⟩
theorem ints_ne{w:World}{L:List Int}{v:Value}{B:Nat}(h:IntsC w L v)(hne:∀a len c,v=.slice a len c->0<len->∀x,a=some x->x.block≠B):∃a len c,v=.slice a len c/\Ints w a len L/\(0<len->∀x,a=some x->x.block≠B):=by
 obtain⟨a,len,c,e,h1,h2,h3⟩:=h
 exact⟨a,len,c,e,h1,hne a len c e⟩
theorem nextK_le{L:List Int}{k:Nat}(h:k<=L.length):nextK L k<=L.length:=by unfold nextK;split<;>omega
def xNext:Eff where
 f:=52
 g:=fun L k args=>match args with | [⟨false,[.i n _]⟩]=>if 0<n/\n<=4294967296 then some (⟨false,[.i (nextV L k n) n.natAbs]⟩,nextK L k,[]) else none|_=>none
 ok:=by
  intro L k args res k' ps h hp W B v d T vals hg hL hne hk hv
  simp only at h
  split at h<;>(try (cases h;done))
  split at h<;>cases h
  rename_i n A hn
  simp only[rvs_cons,rvs_nil,rv_i] at hv
  obtain⟨_,⟨_,rfl⟩,_,rfl,rfl⟩:=hv
  obtain⟨a,len,c,rfl,h1,h2⟩:=ints_ne hL hne
  refine (r01_NextH L B a len c k n d T W hg h1 h2 hn (by rw[h1.1];exact hk)).mono fun e w' ⟨e1,h3,h4⟩=>⟨_,e1,?_,h3,nextK_le hk,h4⟩
  have:=nextV_bd L k hn.1
  exact rv_i.2 ⟨⟨by omega,by unfold I64;omega⟩,rfl⟩
end
def nK(L:List Int):Nat->Nat
 | 0=>0
 | n+1=>nextK L (nK L n)
def nV(L:List Int)(n:Nat)(m:Int):Int:=nextV L (nK L n) m
theorem nV_bd(L:List Int)(n:Nat){m:Int}(h:0<m):0<=nV L n m/\nV L n m<m:=nextV_bd _ _ h

set_option maxRecDepth 100000
section
def c40:Nat:=1099511627776
abbrev p4:Pf:=⟨(4:Int)≠0,by decide⟩
def moV(ax ay n:Int)(m:Bool)(A:Nat):V1:=⟨true,[.i ax A,.i ay A,.i n A,.v (.bool m)]⟩
def ptL(p:Int×Int):V1:=⟨true,[.i p.1 lim,.i p.2 lim]⟩
def applyQ(ax ay n:Int)(m:Bool)(x y:Int):Int×Int:=applyP ax ay (modZ n 4) m x y
theorem tn0{n x y ax ay:Int}{m:Bool}(h:modZ n 4=0):applyQ ax ay n m x y=((if m then 0-x else x)+ax,y+ay):=by
 unfold applyQ applyP;rw[h];cases m<;>simp[rot,mir]
theorem tn1{n x y ax ay:Int}{m:Bool}(h:modZ n 4=1):applyQ ax ay n m x y=(0-y+ax,(if m then 0-x else x)+ay):=by
 unfold applyQ applyP;rw[h];cases m<;>simp[rot,mir]
theorem tn2{n x y ax ay:Int}{m:Bool}(h:modZ n 4=2):applyQ ax ay n m x y=(0-(if m then 0-x else x)+ax,0-y+ay):=by
 unfold applyQ applyP;rw[h];cases m<;>simp[rot,mir]
theorem tn3{n x y ax ay:Int}{m:Bool}(h:modZ n 4=3):applyQ ax ay n m x y=(y+ax,0-(if m then 0-x else x)+ay):=by
 unfold applyQ applyP;rw[h];cases m<;>simp[rot,mir]
theorem dapply_ok(ax ay n x y:Int)(m:Bool):Fok Tryz.prog 64 [moV ax ay n m c40,ptV x y c40] (.one (ptL (applyQ ax ay n m x y))):=by
 have hb:=modZ_bd n (m:=4) (by omega)
 by_cases h1:modZ n 4=1
 ·rw [tn1 h1]
  cases m with
  | true=>exact fok [] [true,true] [pT rfl,p4,p4,pT (bq_T h1)] (by kernel_rfl)
  | false=>exact fok [] [false,true] [pF rfl,p4,p4,pT (bq_T h1)] (by kernel_rfl)
 by_cases h2:modZ n 4=2
 ·rw [tn2 h2]
  cases m with
  | true=>exact fok [] [true,false,true] [pT rfl,p4,p4,pF (bq_F h1),pT (bq_T h2)] (by kernel_rfl)
  | false=>exact fok [] [false,false,true] [pF rfl,p4,p4,pF (bq_F h1),pT (bq_T h2)] (by kernel_rfl)
 by_cases h3:modZ n 4=3
 ·rw [tn3 h3]
  cases m with
  | true=>exact fok [] [true,false,false,true] [pT rfl,p4,p4,pF (bq_F h1),pF (bq_F h2),pT (bq_T h3)] (by kernel_rfl)
  | false=>exact fok [] [false,false,false,true] [pF rfl,p4,p4,pF (bq_F h1),pF (bq_F h2),pT (bq_T h3)] (by kernel_rfl)
 ·rw [tn0 (by omega)]
  cases m with
  | true=>exact fok [] [true,false,false,false] [pT rfl,p4,p4,pF (bq_F h1),pF (bq_F h2),pF (bq_F h3)] (by kernel_rfl)
  | false=>exact fok [] [false,false,false,false] [pF rfl,p4,p4,pF (bq_F h1),pF (bq_F h2),pF (bq_F h3)] (by kernel_rfl)
theorem rot_bd(t:Nat){x y:Int}{D E:Nat}(h1:x.natAbs<=D)(h2:y.natAbs<=E):(rot t (x,y)).1.natAbs<=D+E/\(rot t (x,y)).2.natAbs<=D+E:=by
 induction t with
 | zero=>exact⟨by simp only[rot];omega,by simp only[rot];omega⟩
 | succ t ih =>
  obtain⟨a,b⟩:=ih
  simp only[rot]
  omega
theorem applyQ_bd{ax ay n x y:Int}{m:Bool}{A B D E:Nat}(a1:ax.natAbs<=A)(a2:ay.natAbs<=B)(h1:x.natAbs<=D)(h2:y.natAbs<=E):(applyQ ax ay n m x y).1.natAbs<=A+B+D+E/\(applyQ ax ay n m x y).2.natAbs<=A+B+D+E:=by
 unfold applyQ applyP mir
 cases m
 ·obtain ⟨u1, u2⟩ := rot_bd (modZ n 4).toNat h1 h2
  simp only[Bool.false_eq_true,if_false]
  omega
 ·obtain ⟨u1, u2⟩ := rot_bd (D := D) (modZ n 4).toNat (x := -x) (by omega) h2
  simp only[if_true]
  omega
def appC(f:FuncId)(S:Int->List Prop)(H:∀(ax ay n x y:Int) (m:Bool),All (S n)->Fok Tryz.prog f [moV ax ay n m c40,ptV x y c40] (.one (ptL (applyQ ax ay n m x y)))):Con where
 f:=f
 g:=fun | [⟨true,[.i ax A,.i ay B,.i n C,.v (.bool m)]⟩,⟨true,[.i x D,.i y E]⟩]=>if (A<=c40/\B<=c40/\C<=c40)/\D<=c40/\E<=c40 then some (.one ⟨true,[.i (applyQ ax ay n m x y).1 (A+B+D+E),.i (applyQ ax ay n m x y).2 (A+B+D+E)]⟩,S n) else none|_=>none
 ok:=by
  intro args res ps h hp
  split at h<;>try cases h
  split at h<;>cases h
  rename_i ax A ay B n C m x D y E hb
  intro W vals hv
  have hv2:=hv
  simp only[rvs_cons,rvs_nil,rv_t,rl_i,rl_v,rl_nil] at hv2
  obtain⟨_,⟨_,⟨⟨a1,i1⟩,_,rfl,⟨a2,i2⟩,_,rfl,⟨a3,i3⟩,_,rfl,_,_,rfl,rfl⟩,rfl⟩,_,rfl,_,⟨_,⟨⟨a4,i4⟩,_,rfl,⟨a5,i5⟩,_,rfl,rfl⟩,rfl⟩,_,rfl,rfl⟩:=hv2
  have hb2:=hb
  unfold c40 at hb2
  obtain⟨q1,q2⟩:=applyQ_bd (n:=n) (m:=m) a1 a2 a4 a5
  refine (H ax ay n x y m hp W _ (rvs_cons.2 ⟨_,rv_t.2 ⟨_,rl_i.2 ⟨⟨by omega,i1⟩,_,rfl,rl_i.2 ⟨⟨by omega,i2⟩,_,rfl,rl_i.2 ⟨⟨by omega,i3⟩,_,rfl,rl_v.2 ⟨rfl,_,rfl,rfl⟩⟩⟩⟩,rfl⟩,_,rfl,rvs_cons.2 ⟨_,rv_t.2 ⟨_,rl_i.2 ⟨⟨by omega,i4⟩,_,rfl,rl_i.2 ⟨⟨by omega,i5⟩,_,rfl,rfl⟩⟩,rfl⟩,_,rfl,rfl⟩⟩)).mono fun e w' ⟨v,e1,h1,h2⟩=>⟨v,e1,?_,h2⟩
  simp only[RepA,ptL,rv_t,rl_i,rl_nil] at h1 ⊢
  obtain⟨cs,⟨⟨_,g1⟩,_,rfl,⟨_,g2⟩,_,rfl,rfl⟩,e2⟩:=h1
  exact⟨_,⟨⟨q1,g1⟩,_,rfl,⟨q2,g2⟩,_,rfl,rfl⟩,e2⟩
def dApply:Con:=appC 64 (fun _=>[]) fun ax ay n x y m _=>dapply_ok ax ay n x y m
end
def moveE(e:Ed)(x y t:Int)(m:Bool):Ed :=
 ⟨if m then (fam e.k).k else e.k,(applyP x y t m e.ax e.ay).1,(applyP x y t m e.ax e.ay).2,(applyP x y t m e.bx e.by').1,(applyP x y t m e.bx e.by').2,
  if e.k=1 then e.cx else (applyP x y t m e.cx e.cy).1,if e.k=1 then e.cy else (applyP x y t m e.cx e.cy).2⟩

set_option maxHeartbeats 2000000
set_option maxRecDepth 100000
section
attribute [local go_sem] Gives givesU
theorem vec_turns8(ax ay t:Int)(m:Bool)(w:World)(h : -8<=t/\t<=8) :
  Calls Tryz.prog 87 #[.agg #[.int .i64 ax,.int .i64 ay,.int .i64 t,.bool m]] w fun e w'=>e=.returned (.int .i64 (modZ t 4))/\Ext w w':=by
 obtain rfl|rfl|rfl|rfl|rfl|rfl|rfl|rfl|rfl|rfl|rfl|rfl|rfl|rfl|rfl|rfl|rfl:t = -8\/t = -7\/t = -6\/t = -5\/t = -4\/t = -3\/t = -2\/t = -1\/t=0\/t=1\/t=2\/t=3\/t=4\/t=5\/t=6\/t=7\/t=8:=by omega
 all_goals
  go_enter Tryz.func87,Tryz.ntmps87
  go_wp2
  go_ret
  exact⟨rfl,bxx⟩
def cTurns8:Con where
 f:=87
 g:=fun | [⟨true,[.i _ _,.i _ _,.i n _,.v (.bool _)]⟩]=>some (.one (inV (modZ n 4) 3),[-8<=n/\n<=8])|_=>none
 ok:=by
  intro args res ps h hp
  split at h<;>cases h
  rename_i n _ _
  intro W vals hv
  simp only[rvs_cons,rvs_nil,rv_t,rl_i,rl_v,rl_nil] at hv
  obtain⟨_,⟨_,⟨_,_,rfl,_,_,rfl,_,_,rfl,_,_,rfl,rfl⟩,rfl⟩,_,rfl,rfl⟩:=hv
  have hb:=modZ_bd n (m:=4) (by omega)
  exact (vec_turns8 _ _ _ _ W hp.1).mono fun _ _ h=>gv_in ⟨by omega,by unfold I64;omega⟩ h
def KV:List Con:=[cTurns8]
theorem tn3'{n x y ax ay:Int}{m:Bool}(h:modZ n 4=3):applyQ ax ay n m x y=(0-(0-y)+ax,0-(if m then 0-x else x)+ay):=by
 rw[tn3 h];congr 1;omega
theorem vApply_ok(ax ay n x y:Int)(m:Bool)(hn : -8<=n/\n<=8):Fok Tryz.prog 30 [moV ax ay n m c40,ptV x y c40] (.one (ptL (applyQ ax ay n m x y))):=by
 have hb:=modZ_bd n (m:=4) (by omega)
 have q:∀k b,decide (k<modZ n 4)=b->decide (k<modZ n 4)=b:=fun _ _ h=>h
 by_cases h0:modZ n 4=0
 ·have f0 : decide (0 < modZ n 4) = false := by rw [h0]; rfl
  rw[tn0 h0]
  cases m with
  | true=>exact fok KV [true,false] [pT rfl,pP hn,pF f0] (by kernel_rfl)
  | false=>exact fok KV [false,false] [pF rfl,pP hn,pF f0] (by kernel_rfl)
 have t0:decide (0<modZ n 4)=true:=by simp;omega
 by_cases h1:modZ n 4=1
 ·have f1 : decide (0 + 1 < modZ n 4) = false := by rw [h1]; rfl
  rw[tn1 h1]
  cases m with
  | true=>exact fok KV [true,true,false] [pT rfl,pP hn,pT t0,pF f1] (by kernel_rfl)
  | false=>exact fok KV [false,true,false] [pF rfl,pP hn,pT t0,pF f1] (by kernel_rfl)
 have t1:decide (0+1<modZ n 4)=true:=by simp;omega
 by_cases h2:modZ n 4=2
 ·have f2 : decide (0 + 1 + 1 < modZ n 4) = false := by rw [h2]; rfl
  rw[tn2 h2]
  cases m with
  | true=>exact fok KV [true,true,true,false] [pT rfl,pP hn,pT t0,pT t1,pF f2] (by kernel_rfl)
  | false=>exact fok KV [false,true,true,false] [pF rfl,pP hn,pT t0,pT t1,pF f2] (by kernel_rfl)
 have h3:modZ n 4=3:=by omega
 have t2:decide (0+1+1<modZ n 4)=true:=by rw[h3];rfl
 have f3:decide (0+1+1+1<modZ n 4)=false:=by rw[h3];rfl
 rw[tn3' h3]
 cases m with
 | true=>exact fok KV [true,true,true,true,false] [pT rfl,pP hn,pT t0,pT t1,pT t2,pF f3] (by kernel_rfl)
 | false=>exact fok KV [false,true,true,true,false] [pF rfl,pP hn,pT t0,pT t1,pT t2,pF f3] (by kernel_rfl)
def cVApply:Con:=appC 30 (fun n=>[-8<=n/\n<=8]) fun ax ay n x y m h=>vApply_ok ax ay n x y m h.1
def KMv:List Con:=[cOfE,cVApply]
theorem nz_F{k:Int}(h:k=1):(k != 1)=false:=by rw[h];rfl
theorem nz_T{k:Int}(h:¬k=1):(k != 1)=true:=by simpa using h
theorem move_fok(e:Ed)(x y n:Int)(m:Bool)(he:e.ok=true)(hn : -8<=n/\n<=8):Fok Tryz.prog 86 [edV e 3 c26,moV x y n m c26] (.one (edV (moveE e x y (modZ n 4) m) lim lim)):=by
 have hf:(fam e.k).k=1 <-> e.k=1:=by rcases kind_of he with k|k|k<;>rw[k]<;>decide
 unfold moveE
 cases m with
 | true =>
  by_cases hk:e.k=1
  ·simp only [if_pos hk]
   exact fok KMv [true,false] [pT rfl,pF (nz_F (hf.2 hk)),pP hn,pP hn] (by kernel_rfl)
  ·simp only [if_neg hk]
   exact fok KMv [true,true] [pT rfl,pT (nz_T fun h=>hk (hf.1 h)),pP hn,pP hn,pP hn] (by kernel_rfl)
 | false =>
  by_cases hk:e.k=1
  ·simp only [if_pos hk]
   exact fok KMv [false,false] [pF rfl,pF (nz_F hk),pP hn,pP hn] (by kernel_rfl)
  ·simp only [if_neg hk]
   exact fok KMv [false,true] [pF rfl,pT (nz_T hk),pP hn,pP hn,pP hn] (by kernel_rfl)
end
def mvP(m:Mot)(p:Int×Int):Int×Int:=applyQ m.x m.y m.t m.m p.1 p.2
def moOk(m:Mot)(p:Int×Int):Prop:=((m.x.natAbs<=c40/\m.y.natAbs<=c40) /\ -8<=m.t/\m.t<=8)/\p.1.natAbs<=c40/\p.2.natAbs<=c40
theorem moOk_rep{W:World}{m:Mot}{p:Int×Int}(h:moOk m p):∀xs,RepVs W W (fun _=>0) 0 [⟨true,moI m⟩,⟨true,ptI p⟩] xs->RepVs W W (fun _=>0) 0 [moV m.x m.y m.t m.m c40,ptV p.1 p.2 c40] xs:=by
 obtain⟨⟨⟨h1,h2⟩,h3⟩,h4,h5⟩:=h
 have c8:8<=c40:=by decide
 refine rvs_1 (fun x hr=>?_) (rvs_1 (fun x hr=>?_) rvs_0)
 ·obtain ⟨cs, ⟨_, _, rfl, ⟨rfl, _, i1⟩, _, _, rfl, ⟨rfl, _, i2⟩, _, _, rfl, ⟨rfl, _, i3⟩, _, _, rfl, hb, rfl⟩, e, _⟩ := hr
  exact⟨_,⟨_,_,rfl,⟨rfl,h1,i1⟩,_,_,rfl,⟨rfl,h2,i2⟩,_,_,rfl,⟨rfl,by omega,i3⟩,_,[],rfl,hb,rfl⟩,e,nofun⟩
 ·obtain ⟨cs, ⟨_, _, rfl, ⟨rfl, _, i1⟩, _, _, rfl, ⟨rfl, _, i2⟩, rfl⟩, e, _⟩ := hr
  exact⟨_,⟨_,_,rfl,⟨rfl,h4,i1⟩,_,[],rfl,⟨rfl,h5,i2⟩,rfl⟩,e,nofun⟩
def cVAp:Con:=con2 dMo dPt 30 (fun m p=>.one ⟨true,ptI (mvP m p)⟩) (fun m p=>[moOk m p]) fun m p h=>(vApply_ok m.x m.y m.t p.1 p.2 m.m h.1.1.2).pre fun _=>moOk_rep h.1
def dAp:Con:=con2 dMo dPt 64 (fun m p=>.one ⟨true,ptI (mvP m p)⟩) (fun m p=>[moOk m p]) fun m p h=>(dapply_ok m.x m.y m.t p.1 p.2 m.m).pre fun _=>moOk_rep h.1

set_option maxRecDepth 100000
section
def mbP(p:Pnl):List (Option Mb):=[some ⟨43,panI p⟩]
def fnV(f:FuncId):V1:=⟨false,[.v (.func (.func f) #[] #[])]⟩
def rpA(f:FuncId)(p:Pnl)(L:V1):List (Nat×Rq):=[(1,.eq L),(2,.eq (fnV f)),(3,.eq ⟨false,[.p 0 0]⟩),(12,.eq (rowV 4 moI p.nc p.c)),(13,.le (inV p.nc lim))]
def rpO(f:FuncId)(p:Pnl)(L:V1)(O:Nat->V1)(n k:Nat):Ds:=⟨(7,.le (O (k*n)))::(14,.le (inV (k:Int) 2000))::rpA f p L,mbP p⟩
def rpE(f:FuncId)(p:Pnl)(L:V1)(O:Nat->V1)(n k:Nat):Ds:=⟨(7,.le (O ((k+1)*n)))::(14,.le (inV (k:Int) 2000))::rpA f p L,mbP p⟩
def rpI(f:FuncId)(p:Pnl)(L:V1)(O:Nat->V1)(n k j:Nat):Ds:=⟨(7,.le (O (k*n+j)))::(8,.le (inV (k:Int) 2000))::(14,.le (inV (k:Int) 2000))::(17,.eq L)::(18,.le (inV (n:Int) lim))::(19,.le (inV (j:Int) 2000))::rpA f p L,mbP p⟩
def rpZ(O:Nat->V1)(m:Nat):Ds:=⟨[(7,.le (O m))],[]⟩
theorem ltT{a b:Int}(h:a<b):decide (a<b)=true:=by simpa using h
theorem ltF{a b:Int}(h:¬a<b):decide (a<b)=false:=by simpa using h
def qZ(z:Int):Pf:=⟨z=z,rfl⟩
def qIt(i:It):Pf:=⟨i=i,rfl⟩
theorem ap_ok{α:Type}{I:α->List It}{G:Nat->α}{N M:Nat}{r:List It}(hM:N+1=M)(hr:r.map nrmR=I (G N)):N+1=M/\∀i,i<N+1->apF N (fun i=>I (G i)) (fun i=>([r].getD i []).map nrmR) i=(fun i=>I (G i)) i :=
 ⟨hM,fun i hi=>by
  unfold apF
  by_cases h:i<N
  ·rw[if_pos h]
  ·obtain rfl : i = N := by omega
   rw[if_neg h,Nat.sub_self]
   exact hr⟩
def qA{α:Type}(I:α->List It)(G:Nat->α)(N M:Nat)(r:List It)(hM:N+1=M)(hr:r.map nrmR=I (G N)):Pf:=⟨_,ap_ok hM hr⟩
def qL{α:Type}(I:α->List It)(G:Nat->α)(N M:Nat)(h:N=M):Pf:=⟨N=M/\∀i,i<N->(fun i=>I (G i)) i=(fun i=>I (G i)) i,h,fun _ _=>rfl⟩
def qP(p:Pnl):List Pf:=[qIt (.ro 4 p.nc fun i=>moI (p.c i)),qIt (.ro 3 p.nt fun i=>shIs (p.t i)),qIt (.ro 2 p.nm fun i=>ptI (p.m i)),qZ p.r]
def qR(f:FuncId)(p:Pnl)(L:V1):List Pf:=[pR L,pR (fnV f),pR ⟨false,[.p 0 0]⟩,pR (rowV 4 moI p.nc p.c),qZ p.nc]++qP p
theorem dvm{k n j:Nat}(h:j<n):(k*n+j)/n=k/\(k*n+j)%n=j:=by
 have h0:0<n:=by omega
 constructor
 ·rw[Nat.mul_comm,Nat.mul_add_div h0,Nat.div_eq_of_lt h,Nat.add_zero]
 ·rw[Nat.mul_comm,Nat.mul_add_mod,Nat.mod_eq_of_lt h]
def pbMv(p:Pnl)(n:Nat)(F:Nat->Prb)(i:Nat):Prb:=⟨((i/n:Nat):Int),(F (i%n)).a,(F (i%n)).b,(mvP (p.c (i/n)) ((F (i%n)).x,(F (i%n)).y)).1,(mvP (p.c (i/n)) ((F (i%n)).x,(F (i%n)).y)).2,(F (i%n)).l⟩
def KRp:List Con:=[cVAp]
def fRp:FuncId:=62
section
variable (p:Pnl) (n:Nat) (F:Nat->Prb)
def pbO(m:Nat):V1:=prsO m (pbMv p n F)
def pbL:V1:=rowV 6 prbI n F
def pbF:FuncId:=63
def pbR(k j:Nat):List It:=[.i (k:Int) 2000,.v (.string (F j).a),.v (.string (F j).b),.i (mvP (p.c k) ((F j).x,(F j).y)).1 lim,.i (mvP (p.c k) ((F j).x,(F j).y)).2 lim,.i (F j).l lim]
theorem pb_row{k j:Nat}(h:j<n):(pbR p F k j).map nrmR=prbI (pbMv p n F (k*n+j)):=by
 obtain⟨e1,e2⟩:=dvm (k:=k) h
 unfold prbI pbMv
 rw[e1,e2]
 rfl
structure PbOk:Prop where
 nc:p.nc<=1000
 ln:n<=1000
 all:p.nc*n<=1000
 ok:∀k j,k<p.nc->j<n->moOk (p.c k) ((F j).x,(F j).y)
theorem tot{a n k j:Nat}(h:a*n<=1000)(hk:k<a)(hj:j<n):k*n+j+1<=1000:=by
 have:=Nat.mul_le_mul_right n (show k+1<=a from hk)
 rw[Nat.succ_mul] at this
 omega
theorem rp_1(h:PbOk p n F)(k:Nat)(hk:k<p.nc):OrcOk Tryz.prog (lpC fRp 12) ⟨nF fRp,rpI pbF p (pbL n F) (pbO p n F) n k 0,.ex 2,rpE pbF p (pbL n F) (pbO p n F) n k⟩ :=
 orc (X:=[xAll]) (K:=KRp) (f:=fRp) (id:=12) (n:=nF fRp) n (rpI pbF p (pbL n F) (pbO p n F) n k) (fun _=>[]) (e:=.ex 2) (d1:=rpE pbF p (pbL n F) (pbO p n F) n k) (by kernel_rfl) (fun _=>by kernel_rfl) (fun _ _=>LT.nil)
  (fun j hj=>⟨[true],[pT (ltT (show (j:Int)<(n:Int) by omega)),pP (show 0<=(j:Int)/\(j:Int)<(n:Int) by omega),pP (show 0<=(k:Int)/\(k:Int)<(p.nc:Int) by omega),pP (h.ok k j hk hj),pP (tot h.all hk hj),qA prbI (pbMv p n F) (k*n+j) (k*n+(j+1)) (pbR p F k j) (by omega) (pb_row p n F hj),qZ k,qZ k,pR (pbL n F),qZ n,pI j (by have:=h.ln;omega)]++qR pbF p (pbL n F),by kernel_rfl⟩)
  ⟨[false],[pF (ltF (show ¬(n:Int)<(n:Int) by omega)),qL prbI (pbMv p n F) (k*n+n) ((k+1)*n) (by rw[Nat.succ_mul]),qZ k]++qR pbF p (pbL n F),by kernel_rfl⟩ nofun
def q0:Pf:=⟨(0:Int)=((0:Nat):Int),rfl⟩
noncomputable def rpT(k:Nat):List (Nat×Orc):=if k<p.nc then [(12,⟨nF fRp,rpI pbF p (pbL n F) (pbO p n F) n k 0,.ex 2,rpE pbF p (pbL n F) (pbO p n F) n k⟩)] else []
theorem rp_2(h:PbOk p n F):OrcOk Tryz.prog (lpC fRp 6) ⟨nF fRp,rpO pbF p (pbL n F) (pbO p n F) n 0,.ex 0,rpZ (pbO p n F) (p.nc*n)⟩ :=
 orc (X:=[xAll]) (K:=KRp) (f:=fRp) (id:=6) (n:=nF fRp) p.nc (rpO pbF p (pbL n F) (pbO p n F) n) (fun k=>rpT p n F k) (e:=.ex 0) (d1:=rpZ (pbO p n F) (p.nc*n)) (by kernel_rfl) (fun k=>by unfold rpT;by_cases h:k<p.nc<;>simp only[h,if_true,if_false]<;>kernel_rfl) (fun k _=>by
   unfold rpT
   by_cases hk:k<p.nc
   ·rw[if_pos hk];exact LT.cons (rp_1 p n F h k hk) LT.nil
   ·rw[if_neg hk];exact LT.nil)
  (fun k hk => by
   unfold rpT
   rw[if_pos hk]
   exact⟨[true],[pT (ltT (show (k:Int)<(p.nc:Int) by omega)),qL prbI (pbMv p n F) (k*n) (k*n+0) rfl,qZ k,qZ k,pR (pbL n F),qZ n,q0]++qR pbF p (pbL n F)++[qL prbI (pbMv p n F) ((k+1)*n) ((k+1)*n) rfl,pI k (by have:=h.nc;omega)]++qR pbF p (pbL n F),by kernel_rfl⟩)
  (by
   unfold rpT
   rw[if_neg (Nat.lt_irrefl _)]
   exact⟨[false],[pF (ltF (show ¬(p.nc:Int)<(p.nc:Int) by omega)),qL prbI (pbMv p n F) (p.nc*n) (p.nc*n) rfl],by kernel_rfl⟩) nofun
theorem rp_ok(h:PbOk p n F):Fok Tryz.prog fRp [panV p,pbL n F,fnV pbF] (.one (pbO p n F (p.nc*n))) :=
 fokL [xAll] KRp [(6,⟨nF fRp,rpO pbF p (pbL n F) (pbO p n F) n 0,.ex 0,rpZ (pbO p n F) (p.nc*n)⟩)] (LT.cons (rp_2 p n F h) LT.nil) [] ([⟨0*n=0,Nat.zero_mul n⟩,q0]++qR pbF p (pbL n F)) (by kernel_rfl)
end
end

set_option maxRecDepth 100000
section
def dFn(f:FuncId):Dec where
 α:=Unit
 C:=fun _=>fnV f
 d:=fun|⟨false,[.v (.func (.func g) a c)]⟩=>if g=f/\a.size=0/\c.size=0 then some ((),[]) else none|_=>none
 ok:=by
  intro v a ps h hp W x hr
  split at h
  ·split at h <;> cases h
   rename_i e
   obtain⟨rfl,e1,e2⟩:=e
   rw[Array.eq_empty_of_size_eq_zero e1,Array.eq_empty_of_size_eq_zero e2] at hr
   exact hr
  ·cases h
def cRpP:Con:=con3 dPan dPrs (dFn pbF) fRp (fun p L _=>.one (pbO p L.1 L.2 (p.nc*L.1))) (fun p L _=>[PbOk p L.1 L.2]) fun p L _ h=>rp_ok p L.1 L.2 h.1
theorem probes_ok(p:Pnl)(n:Nat)(F:Nat->Prb)(h:PbOk p n F):Fok Tryz.prog 22 [panV p,pbL n F] (.one (pbO p n F (p.nc*n))) :=
 fokX [xAll] [cRpP] [] [pP h,⟨∀j,j<p.nc->moI (p.c j)=moI (p.c j),fun _ _=>rfl⟩,⟨∀j,j<p.nt->shIs (p.t j)=shIs (p.t j),fun _ _=>rfl⟩,⟨∀j,j<p.nm->ptI (p.m j)=ptI (p.m j),fun _ _=>rfl⟩,⟨∀j,j<n->prbI (F j)=prbI (F j),fun _ _=>rfl⟩] (by kernel_rfl)
def cProbes:Con:=con2 dPan dPrs 22 (fun p L=>.one (pbO p L.1 L.2 (p.nc*L.1))) (fun p L=>[PbOk p L.1 L.2]) fun p L h=>probes_ok p L.1 L.2 h.1
end

set_option maxRecDepth 100000
section
def eqEd(a b:Ed):Bool:=a.k==b.k&&(a.ax==b.ax&&(a.ay==b.ay&&(a.bx==b.bx&&(a.by'==b.by'&&(a.cx==b.cx&&a.cy==b.cy)))))
def eqSh(a b:Sh):Bool:=a.k==b.k&&(a.r==b.r&&(decide (a.n=b.n)&&allB (fun i=>eqEd (a.e i) (b.e i)) a.n))
def sm9(a b:Sh)(j:Nat):Ds:=⟨[(5,.le (inV (j:Int) 2000)),(2,.eq (ptrN 0)),(3,.eq (ptrN 1))],shB a++shB b⟩
def fSm:FuncId:=55
theorem neT{a b:Int}(h:a≠b):(a != b)=true:=by simpa using h
theorem neF{a b:Int}(h:a=b):(a != b)=false:=by simpa using h
theorem same9_ok(a b:Sh)(hn:a.n<=1000):Fok Tryz.prog fSm [shpV a,shpV b] (.one (blV (eqSh a b))):=by
 by_cases h1:a.k=b.k
 rotate_left
 ·exact Fok.bb (show eqSh a b=false by simp[eqSh,h1]) (fok [] [true] [pT (neT h1)] (by kernel_rfl))
 by_cases h2:a.r=b.r
 rotate_left
 ·exact Fok.bb (show eqSh a b=false by simp[eqSh,h2]) (fok [] [false,true] [pF (neF h1),pT (neT h2)] (by kernel_rfl))
 by_cases h3:a.n=b.n
 rotate_left
 ·exact Fok.bb (show eqSh a b=false by simp[eqSh,h3]) (fok [] [false,false,true] [pF (neF h1),pF (neF h2),pT (neT (a:=a.n) (b:=b.n) (by omega))] (by kernel_rfl))
 have hb:eqSh a b=allB (fun i=>eqEd (a.e i) (b.e i)) a.n:=by simp[eqSh,h1,h2,h3]
 have R:∀k,k<a.n->eqEd (a.e k) (b.e k)=true->Rnd [] [] fSm 8 [] (nF fSm) (sm9 a b k) (sm9 a b (k+1)) .nm:=fun k hk h =>
  ⟨[true,false],[pT (ltT (show (k:Int)<(a.n:Int) by omega)),pP (show 0<=(k:Int)/\(k:Int)<(a.n:Int) by omega),pP (show 0<=(k:Int)/\(k:Int)<(b.n:Int) by omega),pF (show (!eqEd (a.e k) (b.e k))=false by rw[h];rfl),pI k (by omega),pR (ptrN 0),pR (ptrN 1)]++pSh a++pSh b,by kernel_rfl⟩
 cases h4:allB (fun i=>eqEd (a.e i) (b.e i)) a.n with
 | true =>
  have o:=orc (X:=[]) (K:=[]) (f:=fSm) (id:=8) (n:=nF fSm) a.n (sm9 a b) (fun _=>[]) (e:=.ex 0) (d1:=⟨[],[]⟩) (by kernel_rfl) (fun _=>by kernel_rfl) (fun _ _=>LT.nil) (fun k hk=>R k hk (allB_t.1 h4 k hk))
   ⟨[false],[pF (ltF (show ¬(a.n:Int)<(a.n:Int) by omega))],by kernel_rfl⟩ nofun
  exact Fok.bb (by rw[hb,h4]) (fokL [] [] _ (LT.cons o LT.nil) [false,false,false] ([pF (neF h1),pF (neF h2),pF (neF (a:=a.n) (b:=b.n) (by omega)),q0,pR (ptrN 0),pR (ptrN 1)]++pSh a++pSh b) (by kernel_rfl))
 | false =>
  obtain⟨m,hm,k1,k2⟩:=allB_f h4
  have o:=orc (X:=[]) (K:=[]) (f:=fSm) (id:=8) (n:=nF fSm) m (sm9 a b) (fun _=>[]) (e:=.rt) (d1:=⟨[(4,.eq ⟨false,[.b false]⟩)],[]⟩) (by kernel_rfl) (fun _=>by kernel_rfl) (fun _ _=>LT.nil) (fun k hk=>R k (by omega) (k2 k hk))
   ⟨[true,true],[pT (ltT (show (m:Int)<(a.n:Int) by omega)),pP (show 0<=(m:Int)/\(m:Int)<(a.n:Int) by omega),pP (show 0<=(m:Int)/\(m:Int)<(b.n:Int) by omega),pT (show (!eqEd (a.e m) (b.e m))=true by rw[k1];rfl),pR ⟨false,[.b false]⟩],by kernel_rfl⟩ nofun
  exact Fok.bb (by rw[hb,h4]) (fokL [] [] _ (LT.cons o LT.nil) [false,false,false] ([pF (neF h1),pF (neF h2),pF (neF (a:=a.n) (b:=b.n) (by omega)),q0,pR (ptrN 0),pR (ptrN 1)]++pSh a++pSh b) (by kernel_rfl))
def dSame:Con:=con2 dSh dSh fSm (fun a b=>.one (blV (eqSh a b))) (fun a _=>[a.n<=1000]) fun a b h=>same9_ok a b h.1
end
end Go.Proofs.YtghemgdfmldoeaaGreat
