import Derived.Test.YtghemgdfmldoeaaGreatP01
import Derived.Test.YtghemgdfmldoeaaGreatP03
import Derived.Deep.DrawnRows
set_option linter.unusedVariables false
set_option linter.unusedSimpArgs false
namespace Go.Proofs.YtghemgdfmldoeaaGreat
open Go.RowKit
def tE:TypeId:=108
inductive Dat where
 | num (x:Nm)
 | zi (z:Int) (B:Nat)
 | ed (n:Nat) (f:Nat->List (Int×Nat))
def Dat.isE:Dat->Bool
 | .ed _ _=>true|_=>false
inductive It where
 | i (z:Int) (B:Nat)
 | k (n:Int)
 | v (x:Value)
 | b (k:Bool)
 | p (b o:Nat)
 | d (D:Dat)
 | o (D:Dat)
 | sl (b n z:Nat)
 | fp (l:List It)
 | fs (o:Nat) (l:List It) (n z:Nat)
 | fn (f:FuncId) (c:List (Nat×Nat))
 | ds (L:List Int)
 | dr (L:List Int) (k:Nat)
 | px (b:Nat) (z:Int) (n len:Nat)
 | fc (T:TypeId) (l:List (Int×Nat))
 | ln (n:Nat)
 | ro (z n:Nat) (f:Nat->List It)
 | ol (T:TypeId) (z n:Nat) (f:Nat->List It)
 | gp (T:TypeId) (l:List It)
def Dat.n:Dat->Nat
 | .num _=>2|.zi _ _=>2|.ed _ _=>1
def It.n:It->Nat
 | .d D=>D.n|.o D=>D.n|.dr _ _=>2|_=>1
structure V1 where
 g:Bool
 l:List It
inductive AV where
 | und
 | any
 | one (x:V1)
 | tup (l:List V1)
def okV:Value->Bool
 | .int k _=>match k with | .u32=>false|_=>true
 | .bool _ | .nilFunc | .nilIface | .string _=>true
 | .slice a _ _=>match a with|none=>true|some _=>false
 | .func _ f c=>f.size==0&&c.size==0
 | _=>false
def lim:Nat:=9223372036854775808
def tc(v:Value):Option It :=
 match v with
 | .bool k=>some (.b k)
 | .int k n=>match k with | .i64=>if n.natAbs<lim then some (.k n) else none|_=>if okV v then some (.v v) else none
 | _=>if okV v then some (.v v) else none
def mV:List Value->Option (List It)
 | []=>some []|v::l=>match tc v,mV l with|some i,some r=>some (i::r)|_,_=>none
def bE:List It->Nat->Option (List It×List It)
 | l,0=>some ([],l)|[],_+1=>none|i::l,n=>if i.n<=n then (match bE l (n-i.n) with|some (a,b)=>some (i::a,b)|none=>none) else none
def wV(l:List It)(o n:Nat):Option (List It):=(bE l o).bind λr=>(bE r.2 n).map (·.1)
def uC(l:List It)(o n:Nat)(x:List It):Option (List It):=(bE l o).bind λr=>(bE r.2 n).map λq=>r.1++(x++q.2)
structure Mb where
 T:TypeId
 l:List It
def It.isE:It->Bool
 | .d D=>D.isE|.ol _ _ _ _=>true|.gp _ _=>true|_=>false
def It.fr:It->Bool
 | .ol _ _ _ _=>true|.gp _ _=>true|_=>false
def AV.its:AV->List It
 | .one v=>v.l|.tup l=>l.flatMap V1.l|_=>[]
def j8(l:List It):Bool:=l.all λi=>!i.isE
def fD(l:List It):Bool:=l.all λi=>!i.fr
inductive Tr where
 | e
 | n (v:AV) (l r:Tr)
def Tr.full:Nat->Tr
 | 0=>.e|k+1=>.n .und (Tr.full k) (Tr.full k)
def Tr.get:Tr->Nat->Option AV
 | .e,_=>none|.n v l r,i=>match i with|0=>some v|j+1=>match Nat.mod j 2 with|0=>l.get (Nat.div j 2)|_+1=>r.get (Nat.div j 2)
def Tr.set:Tr->Nat->AV->Tr
 | .e,_,_=>.e|.n v l r,i,x=>match i with|0=>.n x l r|j+1=>match Nat.mod j 2 with|0=>.n v (l.set (Nat.div j 2) x) r|_+1=>.n v l (r.set (Nat.div j 2) x)
def Tr.all(p:AV->Bool):Tr->Bool
 | .e=>true|.n v l r=>p v&&(l.all p&&r.all p)
def Tr.allD(p:AV->Bool):Nat->Tr->Bool
 | k+1,.n v l r=>p v&&(Tr.allD p k l&&Tr.allD p k r)|_,_=>true
def Tr.mapD(f:AV->AV):Nat->Tr->Tr
 | k+1,.n v l r=>.n (f v) (Tr.mapD f k l) (Tr.mapD f k r)|_,t=>t
def Tr.fill:Tr->Nat->List AV->Tr
 | t,_,[]=>t|t,i,v::l=>Tr.fill (t.set i v) (i+1) l
structure Tm where
 n:Nat
 r:Tr
def Tm.get(t:Tm)(i:Nat):Option AV:=match Nat.blt i t.n with|true=>t.r.get i|false=>none
def Tm.set(t:Tm)(i:Nat)(v:AV):Tm:=⟨t.n,t.r.set i v⟩
structure St where
 t:Tm
 m:List (Option Mb)
 al:Nat
def mb(m:List (Option Mb))(b:Nat):Option Mb:=match m[b]? with|some (some x)=>some x|_=>none
def sG(s:St)(T:TypeId):Bool:=!(T==tE)||(s.t.r.all (λv=>j8 v.its)&&s.m.all λx=>match x with|some y=>j8 y.l|none=>true)
def Ab(s:St)(T:TypeId)(c:List It):Bool:=sG s T&&(!(T==tE)||j8 c)
def Tm.dp(t:Tm):Nat:=Nat.log2 t.n+1
def qI(s:St):Bool:=s.t.r.allD (λv=>fD v.its) s.t.dp&&s.m.all λx=>match x with|some y=>fD y.l|none=>true
def rF(s:St):Bool:=Nat.beq s.al 0||(!(Nat.beq s.al 2)&&qI s)
structure Ob where
 ps:List Prop
 ld:List Nat
 st:List Nat
def Ob.nil:Ob:=⟨[],[],[]⟩
def Ob.cat(a b:Ob):Ob:=⟨a.ps++b.ps,a.ld++b.ld,a.st++b.st⟩
def bV(P:Program)(t:TypeId):Option Nat:=(P.info? t).map (·.size)
def jU(P:Program)(t:TypeId):Option Bool:=(P.underlying t).map λ| .struct _=>true | .array _ _=>true|_=>false
def BV(P:Program)(t:TypeId)(f:Nat):Option (Nat×TypeId) :=
 match P.underlying t with|some (.struct fs)=>(fs[f]?).map λd=>(d.offset,d.type)|_=>none
def oh(P:Program)(t:TypeId):Option (List It):=((P.info? t).bind (·.zero)).bind λz=>mV z.cells.toList
def I1:It->List It
 | .d (.num x)=>[.v (.bool x.neg),.ln x.d.length]|.o (.num x)=>[.v (.bool x.neg),.ln x.d.length]|.d (.zi z _)=>[.v (.bool (ai z).neg),.ln (ai z).d.length]|.o (.zi z _)=>[.v (.bool (ai z).neg),.ln (ai z).d.length]|i=>[i]
def I2(l:List It):List It:=(l.map I1).flatten
def wW(l:List It)(o n:Nat):Option (List It):=match wV l o n with|some x=>some x|none=>wV (I2 l) o n
def kg(P:Program)(t:TypeId)(l:List It)(o:Nat):Option V1 :=
 match bV P t,jU P t with|some n,some g=>if g||n==1 then (wW l o n).map λx=>⟨g,x⟩ else none|_,_=>none
def cH(x:It):AV:=.one ⟨false,[x]⟩
def evA(s:St):Operand->Option AV
 | .tmp t=>s.t.get t
 | .const v=>match v with | .agg cs=>(mV cs.toList).map λl=>.one ⟨true,l⟩ | .tuple _=>none|_=>(tc v).map cH
 | .global _=>none
 | .func f=>some (cH (.v (.func (.func f) #[] #[])))
def evV(s:St)(x:Operand):Option V1:=(evA s x).bind λ| .one v=>some v|_=>none
def evI(s:St)(x:Operand):Option It:=(evV s x).bind λv=>match v.g,v.l with|false,[i]=>some i|_,_=>none
def put(s:St)(d:Option Nat)(v:AV):St:=match d with|some d=>{ s with t:=s.t.set d v } | none=>s
def wr(z:Int)(B:Nat):It:=if B<lim then .i z B else .i (IntKind.i64.wrap z) lim
def FB(op:BinOp)(x:Int)(A:Nat)(y:Int)(B:Nat):Option (It×List Prop) :=
 match op with|.add=>some (wr (x+y) (A+B),[])|.sub=>some (wr (x-y) (A+B),[])|.mul=>some (wr (x*y) (A*B),[])|.quo=>some (wr (x.tdiv y) A,[y≠0])|.rem=>some (.i (x.tmod y) (min A B),[y≠0])|.eql=>some (.v (.bool (x==y)),[])|.neq=>some (.v (.bool (x != y)),[])|.lss=>some (.v (.bool (x<y)),[])|.leq=>some (.v (.bool (x<=y)),[])|.gtr=>some (.v (.bool (x>y)),[])|.geq=>some (.v (.bool (x >= y)),[])|_=>none
def asI:It->Option (Int×Nat)
 | .i z B=>some (z,B)|.k n=>some (n,n.natAbs)|_=>none
def kn(z:Int):Option It:=if z.natAbs<lim then some (.k z) else none
def AZ(op:BinOp)(x y:Int):Option It :=
 match op with|.add=>kn (x+y)|.sub=>kn (x-y)|.mul=>kn (x*y)|.quo=>if y=0 then none else kn (x.tdiv y)|.rem=>if y=0 then none else kn (x.tmod y)|.eql=>some (.b (x==y))|.neq=>some (.b (x != y))|.lss=>some (.b (decide (x<y)))|.leq=>some (.b (decide (x<=y)))|.gtr=>some (.b (decide (x>y)))|.geq=>some (.b (decide (x >= y)))|_=>none
inductive Sc where
 | i (z:Int)
 | b (x:Bool)
 | s (x:ByteArray)
def Kt:It->Option Sc
 | .v (.bool x)=>some (.b x)|.v (.string x)=>some (.s x)|.b x=>some (.b x)|i=>(asI i).map λz=>.i z.1
def zV:List It->Option (List Sc)
 | []=>some []|i::l=>match Kt i,zV l with|some z,some r=>some (z::r)|_,_=>none
def Sc.kind:Sc->Nat
 | .i _=>0|.b _=>1|.s _=>2
def yx:Sc->Sc->Bool
 | .i x,.i y=>x==y|.b x,.b y=>x==y|.s x,.s y=>x==y|_,_=>false
def dk:List Sc->List Sc->Bool
 | [x],[y]=>yx x y|x::a::l,y::b::r=>yx x y&&dk (a::l) (b::r)|_,_=>false
def vw(n:List Nat)(l m:List It):Option Bool :=
 match zV l,zV m with|some xs,some ys=>if xs.map Sc.kind==n&&ys.map Sc.kind==n then some (dk xs ys) else none|_,_=>none
def FC(P:Program)(op:BinOp)(t:TypeId)(i j:It):Option (It×List Prop) :=
 match i,j with|.k n,.k m=>(AZ op n m).map λr=>(r,[])|.v (.bool x),.v (.bool y)=>(match op,P.underlying t with | .eql,some .bool=>some (.v (.bool (x==y)),[]) | .neq,some .bool=>some (.v (.bool (!(x==y))),[])|_,_=>none)|i,j=>match asI i,asI j with|some (x,A),some (y,B)=>FB op x A y B|_,_=>none
def AY(P:Program)(E:List (TypeId×List Nat))(op:BinOp)(t:TypeId)(x y:V1):Option (It×List Prop) :=
 match x.g,y.g with
 | false,false =>
  match x.l,y.l with
  | [i],[j]=>FC P op t i j
  | _,_=>none
 | true,true =>
  match E.lookup t with
  | some n=>(match op with
   | .eql=>(vw n x.l y.l).map λe=>(.v (.bool e),[])
   | .neq=>(vw n x.l y.l).map λe=>(.v (.bool (!e)),[])
   | _=>none)
  | none=>none
 | _,_=>none
def Jd(P:Program)(t:TypeId):Option (Nat->Option (Nat×Nat)) :=
 match P.underlying t with|some (.array _ e)=>(P.info? e).map λie i=>some (i*ie.size,ie.size)|some (.struct fields)=>(fields.toList.mapM (λf=>(P.info? f.type).map λi=>(f.offset,i.size))).map λplaces i=>places.toArray[i]?|_=>none
def fills(pl:Nat->Option (Nat×Nat)):List It->List (Nat×V1)->Option (List It)
 | c,[]=>some c
 | c,(f,v)::l=>match pl f with
  | some (o,n)=>match uC c o n v.l with
   | some c'=>if (v.l.map It.n).sum==n then fills pl c' l else none
   | none=>none
  | none=>none
def qm(s:St):List Operand->Option (List V1)
 | []=>some []|x::l=>match evV s x,qm s l with|some v,some r=>some (v::r)|_,_=>none
def evPs(s:St):List (Nat×Operand)->Option (List (Nat×V1))
 | []=>some []|(f,x)::l=>match evV s x,evPs s l with|some v,some r=>some ((f,v)::r)|_,_=>none
def sC(P:Program)(b:Builtin)(ts:List TypeId)(args:List V1):Option (It×List Prop) :=
 match args with
 | [⟨false,[i]⟩,⟨false,[j]⟩]=>(match asI i,asI j with
  | some (x,A),some (y,B)=>(match b with
   | .max=>some (.i (max x y) (max A B),[])
   | .min=>some (.i (min x y) (max A B),[])
   | _=>none)
  | _,_=>none)
 | [⟨false,[i]⟩,⟨false,[j]⟩,⟨false,[k]⟩,⟨false,[l]⟩]=>(match b,asI i,asI j,asI k,asI l with
  | .max,some (x,A),some (y,B),some (z,C),some (u,D)=>some (.i (max (max x y) (max z u)) (max (max A B) (max C D)),[])
  | _,_,_,_,_=>none)
 | [⟨false,[i]⟩]=>(match b,ts with
  | .len,[t]=>(match P.underlying t,i with
   | some (.slice _),.sl _ n _=>if n<lim then some (.k n,[]) else none
   | some (.slice _),.fs _ _ n _=>if n<lim then some (.k n,[]) else none
   | some (.slice _),.ds L=>some (.i L.length lim,[])
   | some (.slice _),.ln n=>some (.i n lim,[])
   | some (.slice _),.ro _ n _=>some (.i n lim,[])
   | some (.slice _),.ol _ _ n _=>some (.i n lim,[])
   | some (.slice _),.d (.ed n _)=>some (.i n lim,[])
   | some (.slice _),.o (.ed n _)=>some (.i n lim,[])
   | some (.slice _),.v (.slice none 0 0)=>some (.k 0,[])
   | _,_=>none)
  | _,_=>none)
 | _=>none
def It.np:It->Bool
 | .i _ _=>true|.k _=>true|.v _=>true|.b _=>true|.d _=>true|.o _=>true|.fc _ _=>true|_=>false
def xa:It->It
 | .o D=>.d D|i=>i
def toO:It->It
 | .d D=>.o D|i=>i
def pL(v:V1):V1:=⟨v.g,v.l.map toO⟩
def nv(l:List It):Option (List It):=if l.all It.np then some (l.map xa) else none
def JV:Dat->It
 | .ed n f=>.ro 7 n λi=>(f i).map λx=>.i x.1 x.2|D=>.d D
def AU(m:List (Option Mb))(i:It):Option It :=
 match i with|.p b o=>(mb m b).bind λx=>(bE x.l o).bind λr=>(nv r.2).map .fp|.sl b n z=>(mb m b).bind λx=>(bE x.l (n*z)).bind λr=>(nv r.1).map λl=>.fs 0 l n z|.fn _ _=>none|.dr _ _=>none|.px _ _ _ _=>none|.o D=>some (JV D)|.d D=>some (JV D)|.ol _ z n f=>some (.ro z n f)|.gp _ _=>none|i=>some i
def AW(m:List (Option Mb)):List It->Option (List It)
 | []=>some []|i::l=>match AU m i,AW m l with|some j,some r=>some (j::r)|_,_=>none
def u9(m:List (Option Mb)):List V1->Option (List V1)
 | []=>some []|v::l=>match AW m v.l,u9 m l with|some x,some r=>some (⟨v.g,x⟩::r)|_,_=>none
def It.rk(n:Nat):It->Bool
 | .i _ _=>true|.k _=>true|.v _=>true|.b _=>true|.d _=>true|.p x _=>decide (x<n)|.sl x _ _=>decide (x<n)|.fc _ _=>true|_=>false
def It.rf(n:Nat):It->Bool
 | .ol _ _ _ _=>true|x=>It.rk n x
def RY(n:Nat):AV->Bool
 | .one v=>v.l.all (It.rf n)|.tup l=>l.all λv=>v.l.all (It.rf n)|_=>false
def TU(k:Nat):It->It
 | .p b o=>.p (b+k) o|.sl b n z=>.sl (b+k) n z|i=>i
def Eg(k:Nat)(v:V1):V1:=⟨v.g,v.l.map (TU k)⟩
def Kw(k:Nat):AV->AV
 | .one v=>.one (Eg k v)|.tup l=>.tup (l.map (Eg k))|a=>a
def gh:List It->List Nat
 | []=>[]|i::l=>match i with|.p b _=>if (gh l).contains b then gh l else b::gh l|.sl b _ _=>if (gh l).contains b then gh l else b::gh l|_=>gh l
def QS(bs:List Nat):It->Option It
 | .p b o=>some (.p (bs.idxOf b) o)|.sl b n z=>some (.sl (bs.idxOf b) n z)|.fp _=>none|.fs _ _ _ _=>none|.fn _ _=>none|.ds _=>none|.dr _ _=>none|.px _ _ _ _=>none|.ro _ _ _=>none|.gp _ _=>none|.o D=>some (.d D)|i=>some i
def Db(bs:List Nat):List It->Option (List It)
 | []=>some []|i::l=>match QS bs i,Db bs l with|some j,some r=>some (j::r)|_,_=>none
def uw(bs:List Nat):List V1->Option (List V1)
 | []=>some []|v::l=>match Db bs v.l,uw bs l with|some x,some r=>some (⟨v.g,x⟩::r)|_,_=>none
def sL(m:List (Option Mb)):List Nat->Option (List Mb)
 | []=>some []|b::l=>match (mb m b).bind (λx=>(nv x.l).map λy=>(⟨x.T,y⟩:Mb)),sL m l with|some x,some r=>some (x::r)|_,_=>none
def vC(s:St)(x:Operand):Option (FuncId×List (Nat×Nat)) :=
 match evI s x with|some (.v (.func (.func f) a c))=>if a.size==0&&c.size==0 then some (f,[]) else none|some (.fn f c)=>some (f,c)|_=>none
def Dx(s:St):List Operand->Option (List (Nat×Nat))
 | []=>some []|x::l=>match evI s x,Dx s l with|some (.p b o),some r=>some ((b,o)::r)|_,_=>none
def vg(c:Callee):Option (Operand ⊕ Builtin) :=
 match c with|.value f=>some (.inl f)|.builtin b=>some (.inr b)|_=>none
abbrev gw:=FuncId->List V1->List Bool->Option ((AV×List Mb)×List Prop×List Bool)
def kX(n:Nat):Nat:=if n=0 then 0 else 2
def Fa(P:Program)(s:St)(t:TypeId)(x:It)(b' m z':Nat)(q:List Bool):Option (AV×St×Ob×List Bool) :=
 match P.underlying t,mb s.m b' with|some (.slice e),some y=>(match P.info? e,oh P e,bE y.l (m*z') with|some i,some zs,some (new,_)=>if (i.size=z'/\(zs.map It.n).sum=z')/\0<z'/\0<m/\i.bytes<=4096/\m<=1000/\sG s e=true then
    (match x with|.v (.slice none 0 0)=>some (cH (.sl s.m.length m z'),{ s with m:=s.m++[some ⟨e,new⟩],al:=kX s.al },.nil,q)|.sl b n z=>(match mb s.m b with|some w=>(match bE w.l (n*z) with|some (old,_)=>if z=z'/\n+m<=1000/\w.T=e/\b≠b' then some (cH (.sl s.m.length (n+m) z),{ s with m:=s.m.set b none++[some ⟨e,old++new⟩],al:=kX s.al },⟨[],[],[b]⟩,q) else none|none=>none)|none=>none)|_=>none) else none|_,_,_=>none)|_,_=>none
def xJ(P:Program)(t:TypeId)(x:It):Option AV :=
 match P.underlying t with|some (.slice e)=>(match P.info? e,x with|some i,.sl b n z=>if i.size=z then some (cH (.sl b n z)) else none|some _,.v (.slice none 0 0)=>some (cH (.v (.slice none 0 0)))|_,_=>none)|_=>none
def iw(n:Nat)(f g:Nat->List It):Nat->List It:=λi=>if i<n then f i else g (i-n)
def vK(T:TypeId):It->Bool
 | .ol U _ _ _=>U==T|.gp U _=>U==T|_=>false
def Pn(T:TypeId)(v:AV):AV:=if v.its.any (vK T) then .any else v
def sj(T:TypeId)(s:St):St:={ s with t:=⟨s.t.n,s.t.r.mapD (Pn T) s.t.dp⟩ }
def yQ(T:TypeId)(z n:Nat):List It->Option (List Prop)
 | []=>some []|i::l=>match i,yQ T z n l with|.ol U y k _,some r=>if U=T then (if y=z then some ((k<=n)::r) else none) else some r|.gp U _,some r=>if U=T then none else some r|_,some r=>some r|_,none=>none
def ue(T:TypeId)(z n:Nat):List (Option Mb)->Option (List Prop)
 | []=>some []|none::l=>ue T z n l|some y::l=>match yQ T z n y.l,ue T z n l with|some a,some b=>some (a++b)|_,_=>none
def xK(P:Program)(s:St)(t:TypeId)(x:It)(T:TypeId)(z m:Nat)(g:Nat->List It):Option (It×List Prop) :=
 match P.underlying t with|some (.slice e)=>(match P.info? e,oh P e with|some i,some zs=>if (e=T/\i.size=z/\(zs.map It.n).sum=z)/\0<z/\i.bytes<=4096/\e≠tE then
    (match x with|.v (.slice none 0 0)=>some (.ol T z m g,[m<=1000])|.ol T' z' n f=>if T'=T/\z'=z then (ue T z n s.m).map λps=>(.ol T z (n+m) (iw n f g),(n+m<=1000)::ps) else none|_=>none) else none|_,_=>none)|_=>none
def dB:It->It
 | .i z _=>.i z lim|.k n=>.i n lim|.b k=>.v (.bool k)|.o D=>.d D|i=>i
def chunk(z:Nat):Nat->List It->Option (List (List It))
 | 0,_=>some []|n+1,c=>match bE c z with|some (a,b)=>if a.all It.np then (chunk z n b).map λr=>a::r else none|none=>none
abbrev uV:=List Int->Nat->List V1->Option (V1×Nat×List Prop)
structure Env where
 eq:List (TypeId×List Nat)
 eff:List (FuncId×uV)
 mt:List ((TypeId×String)×Int×Nat)
 wr:List FuncId
 lt:List TypeId
def og(E:Env)(f:FuncId)(cap:List (Nat×Nat))(l:List V1):Bool×FuncId×List V1 :=
 match l with|[⟨false,[.fn g c]⟩]=>if E.wr.contains f&&cap.isEmpty then (true,g,c.map λp=>⟨false,[.p p.1 p.2]⟩) else (false,f,l++cap.map λp=>⟨false,[.p p.1 p.2]⟩)|l=>(false,f,l++cap.map λp=>⟨false,[.p p.1 p.2]⟩)
def K9(r:AV×List Mb):Bool:=match r.1,r.2 with | .one ⟨false,[.i _ _]⟩,[]=>true|_,_=>false
def Qs:It->It
 | .k n=>.i n n.natAbs|.b k=>.v (.bool k)|.o D=>.d D|i=>i
def za:List It->List It
 | []=>[]|i::l=>match i,l with|.b false,.v (.slice none 0 0)::m=>.d (.num zero)::za m|i,l=>Qs i::za l
def CG(v:V1):V1:=⟨v.g,za v.l⟩
def Gq(l:List It):Option (List Int×Nat) :=
 match l with|[.ds L,.k n]=>if n=0 then some (L,0) else none|[.dr L k]=>some (L,k)|_=>none
def xM(s:St)(g:uV)(l:List V1):Option (AV×St×Ob) :=
 match l with|⟨false,[.p b o]⟩::l'=>(match mb s.m b with|some m=>(match Gq m.l with|some (L,k)=>if (o=0/\s.al≠2/\sG s m.T=true)/\(l'.all λv=>v.l.all (It.rk 0))=true then (match g L k (l'.map CG) with|some (res,k',ps)=>if res.l.all (It.rk 0) then some (.one res,{ s with m:=s.m.set b (some ⟨m.T,[.dr L k']⟩) },⟨ps,[],[b]⟩) else none|none=>none) else none|none=>none)|none=>none)|_=>none
def jV:List It->Option (List (Int×Nat))
 | []=>some []|i::l=>match asI i,jV l with|some x,some r=>some (x::r)|_,_=>none
def Dm(xs:List (Int×Nat))(z:Int)(n len j:Nat):Int:=((List.range len).map λi=>((xs[i*n+j]?).getD (0,0)).1).getD z.toNat 0
def Ec(l:List It)(z:Int)(n len:Nat):Option (List It) :=
 (jV l).bind λxs=>if len*n<=xs.length then some ((List.range n).map λj=>.i (Dm xs z n len j) ((xs.map (·.2)).foldl max 0)) else none
def B9(P:Program)(t:TypeId)(l:List It)(z:Int)(n len:Nat):Option V1 :=
 match bV P t,jU P t with|some n',some g=>if n'=n/\(g||n==1)=true then (Ec l z n len).map λl=>⟨g,l⟩ else none|_,_=>none
def EF(P:Program)(t:TypeId):Option (List It):=((P.info? t).bind (·.zero)).bind λ| .agg cs=>mV cs.toList|_=>none
def uc(l:List (Int×Nat)):List It:=l.map λx=>.i x.1 x.2
def yw:List (List It)->Option (List (List (Int×Nat)))
 | []=>some []|l::r=>match jV l,yw r with|some x,some y=>some (x.map (λu=>(u.1,lim))::y)|_,_=>none
def yS(e:TypeId)(z len:Nat)(rs:List (List It)):Option It :=
 if e=tE then (if z=7 then (yw rs).map λys=>.d (.ed len λi=>ys.getD i []) else none) else some (.ol e z len λi=>(rs.getD i []).map dB)
def oC(P:Program)(E:Env)(call:gw)(o:Oper)(s:St)(q:List Bool):Option (AV×St×Ob×List Bool) :=
 match o.op with
 | .move x | .assign x=>(evA s x).map λv=>(v,s,.nil,q)
 | .pick c x y=>match evI s c with
  | some (.b true)=>(evA s x).map λv=>(v,s,.nil,q)
  | some (.b false)=>(evA s y).map λv=>(v,s,.nil,q)
  | some (.v (.bool b))=>(match q with
   | true::q=>(evA s x).map λv=>(v,s,⟨[b=true],[],[]⟩,q)
   | false::q=>(evA s y).map λv=>(v,s,⟨[b=false],[],[]⟩,q)
   | []=>none)
  | _=>none
 | .alloc t=>if rF s=false then none else (oh P t).map λz=>(cH (.p s.m.length 0),{ s with m:=s.m++[some ⟨t,z⟩] },.nil,q)
 | .box t x=>match evV s x,bV P t with
  | some v,some n=>if rF s=true/\(v.l.map It.n).sum=n then some (cH (.p s.m.length 0),{ s with m:=s.m++[some ⟨t,v.l⟩],al:=kX s.al },.nil,q) else none
  | _,_=>none
 | .build t ps=>match oh P t,evPs s ps.toList,Jd P t with
  | some z,some l,some pl=>(fills pl z l).map λc=>(.one ⟨true,c⟩,s,.nil,q)
  | _,_,_=>none
 | .load t x=>match evI s x with
  | some (.p b o)=>(match mb s.m b with
   | some m=>(kg P t m.l o).map λv=>(.one v,s,⟨[],[b],[]⟩,q)
   | none=>none)
  | some (.fp l)=>(kg P t l 0).map λv=>(.one (pL v),s,.nil,q)
  | some (.gp _ l)=>if s.al=0 then (kg P t l 0).map λv=>(.one v,s,.nil,q) else none
  | some (.px b z n len)=>(match mb s.m b with
   | some m=>(B9 P t m.l z n len).map λv=>(.one v,s,⟨[],[b],[]⟩,q)
   | none=>none)
  | _=>none
 | .store t x y=>match evI s x,evV s y,bV P t with
  | some (.p b o),some v,some n=>match mb s.m b with
   | some m=>match uC m.l o n v.l with
    | some c=>if (v.l.map It.n).sum==n&&Ab s m.T c then some (.und,{ s with m:=s.m.set b (some ⟨m.T,c⟩) },⟨[],[],[b]⟩,q) else none
    | none=>none
   | none=>none
  | _,_,_=>none
 | .fieldAddr t x f=>match evI s x,BV P t f with
  | some (.p b o),some (k,ft)=>(match bV P ft with|some (_+1)=>some (cH (.p b (o+k)),s,.nil,q)|_=>none)
  | some (.fp l),some (k,ft)=>(match bV P ft with|some (_+1)=>(bE l k).map λr=>(cH (.fp r.2),s,.nil,q)|_=>none)
  | some (.gp T l),some (k,ft)=>(match bV P ft with|some (_+1)=>(bE l k).map λr=>(cH (.gp T r.2),s,.nil,q)|_=>none)
  | _,_=>none
 | .field t x f=>match evV s x,BV P t f with
  | some v,some (k,ft)=>if v.g then (kg P ft v.l k).map λv=>(.one v,s,.nil,q) else none
  | _,_=>none
 | .indexAddr t x ix=>match P.underlying t,evI s x,evI s ix with
  | some (.array len e),some (.p b o),some (.k i)=>(match bV P e with
   | some n=>if 0<=i/\i<len then some (cH (.p b (o+i.toNat*n)),s,.nil,q) else none
   | none=>none)
  | some (.array len e),some (.fp l),some (.k i)=>(match bV P e with
   | some n=>if 0<=i/\i<len then (bE l (i.toNat*n)).map λr=>(cH (.fp r.2),s,.nil,q) else none
   | none=>none)
  | some (.slice e),some (.sl b len z),some (.k i)=>if bV P e=some z/\0<=i/\i<len then some (cH (.p b (i.toNat*z)),s,.nil,q) else none
  | some (.slice e),some (.sl b len z),some (.i i _)=>if bV P e=some z then some (cH (.px b i z len),s,⟨[0<=i/\i<len],[],[]⟩,q) else none
  | some (.slice e),some (.fs _ l len z),some (.k i)=>if bV P e=some z/\0<=i/\i<len then (bE l (i.toNat*z)).map λr=>(cH (.fp r.2),s,.nil,q) else none
  | some (.slice e),some (.ro z n f),some (.k i)=>if bV P e=some z then some (cH (.fp (f i.toNat)),s,⟨[0<=i/\i<n],[],[]⟩,q) else none
  | some (.slice e),some (.ro z n f),some (.i i _)=>if bV P e=some z then some (cH (.fp (f i.toNat)),s,⟨[0<=i/\i<n],[],[]⟩,q) else none
  | some (.slice e),some (.ol T z n f),some j=>(match asI j with
   | some (i,_)=>if bV P e=some z then some (cH (.gp T (f i.toNat)),s,⟨[0<=i/\i<n],[],[]⟩,q) else none
   | none=>none)
  | some (.slice e),some (.d (.ed n f)),some j=>(match asI j with
   | some (i,_)=>if bV P e=some 7 then some (cH (.gp tE (uc (f i.toNat))),s,⟨[0<=i/\i<n],[],[]⟩,q) else none
   | none=>none)
  | some (.slice e),some (.o (.ed n f)),some j=>(match asI j with
   | some (i,_)=>if bV P e=some 7 then some (cH (.fp (uc (f i.toNat))),s,⟨[0<=i/\i<n],[],[]⟩,q) else none
   | none=>none)
  | _,_,_=>none
 | .index t x ix=>match P.underlying t,evV s x,evI s ix with
  | some (.array len e),some v,some (.k i)=>(match bV P e with
   | some n=>if v.g&&decide (0<=i/\i<len) then (kg P e v.l (i.toNat*n)).map λv=>(.one v,s,.nil,q) else none
   | none=>none)
  | _,_,_=>none
 | .extract x k=>match evA s x with
  | some (.tup l)=>(l[k]?).map λv=>(.one v,s,.nil,q)
  | _=>none
 | .binOp op t x y _=>match evV s x,evV s y with
  | some x,some y=>(AY P E.eq op t x y).map λr=>(cH r.1,s,⟨r.2,[],[]⟩,q)
  | _,_=>none
 | .unOp op _ x=>match op,evI s x with
  | .not,some (.v (.bool b))=>some (cH (.v (.bool (!b))),s,.nil,q)
  | .not,some (.b b)=>some (cH (.b (!b)),s,.nil,q)
  | .neg,some (.k n)=>(kn (0-n)).map λi=>(cH i,s,.nil,q)
  | .neg,some (.i z B)=>some (cH (wr (0-z) B),s,.nil,q)
  | _,_=>none
 | .convert t t' x=>match P.underlying t,P.underlying t',evI s x with
  | some (.int .u8),some (.int .i64),some (.v (.int .u8 z))=>some (cH (.i z 255),s,⟨[0<=z/\z<=255],[],[]⟩,q)
  | _,_,_=>none
 | .makeFunc fn first cap=>match fn,Dx s cap.toList with
  | .func f,some l=>if first.size==0&&!l.isEmpty then some (cH (.fn f l),s,.nil,q) else none
  | _,_=>none
 | .buildSlice t len ps=>match P.underlying t,evPs s ps.toList with
  | some (.slice e),some l=>(match bV P e,oh P e with
   | some z,some zs=>if E.lt.contains e then
     (if s.al≠2/\(0<len*z/\len*z<=16777216/\len<=1000)/\(zs.map It.n).sum=z then (((fills (λi=>some (i*z,z)) (List.replicate len zs).flatten l).bind (chunk z len)).bind (yS e z len)).map λi=>(cH i,s,.nil,q) else none)
    else if rF s=true/\(0<len*z/\len*z<=16777216/\len<=1000)/\(zs.map It.n).sum=z then (fills (λi=>some (i*z,z)) (List.replicate len zs).flatten l).map λc=>(cH (.sl s.m.length len z),{ s with m:=s.m++[some ⟨e,c⟩] },.nil,q) else none
   | _,_=>none)
  | _,_=>none
 | .call c=>match vg c.callee with
  | some (.inl x)=>(match vC s x,qm s c.args.toList with
   | some (f,cap),some l=>(match E.eff.lookup f with
    | some g=>if (cap.isEmpty&&((P.funcs[f]?).bind (·.body)).isSome)=true then (xM s g l).map λr=>(r.1,r.2.1,r.2.2,q) else none
    | none=>(match (P.funcs[f]?).bind (·.body),u9 s.m (og E f cap l).2.2 with
    | some _,some l'=>(match call (og E f cap l).2.1 l' q with
     | some r=>if (!(og E f cap l).1||K9 r.1&&((P.funcs[(og E f cap l).2.1]?).bind (·.body)).isSome)&&(RY r.1.2.length r.1.1&&r.1.2.all (λx=>x.l.all (It.rk 0)))&&(r.1.2.isEmpty||(Nat.beq s.al 0||qI s)) then some (Kw s.m.length r.1.1,{ s with m:=s.m++r.1.2.map some,al:=if r.1.2.isEmpty then s.al else kX s.al },⟨r.2.1,[],[]⟩,r.2.2) else none
     | none=>none)
    | _,_=>none))
   | _,_=>none)
  | some (.inr b)=>(match qm s c.args.toList with
   | some l=>(match b with
    | .append=>(match c.argTypes.toList,l with
     | [t,t'],[⟨false,[x]⟩,⟨false,[.sl b' m z']⟩]=>if t=t' then Fa P s t x b' m z' q else none
     | [t,t'],[⟨false,[x]⟩,⟨false,[.v (.slice none 0 0)]⟩]=>if t=t' then xJ P t x |>.map λv=>(v,s,.nil,q) else none
     | [t,t'],[⟨false,[x]⟩,⟨false,[.ol T z m g]⟩]=>if t=t' then (xK P s t x T z m g).map λr=>(cH r.1,sj T { s with al:=kX s.al },⟨r.2,[],[]⟩,q) else none
     | _,_=>none)
    | b=>(sC P b c.argTypes.toList l).map λr=>(cH r.1,s,⟨r.2,[],[]⟩,q))
   | none=>none)
  | none=>(match c.callee with
   | .invoke x name=>(match evI s x,c.args.size with
    | some (.fc T l),0=>(match E.mt.lookup (T,name) with
     | some (n,wd)=>if l.length=wd then some (cH (.k n),s,.nil,q) else none
     | none=>none)
    | _,_=>none)
   | _=>none)
 | .makeInterface T x=>match P.underlying T,evV s x with
  | some (.struct _),some ⟨true,l⟩=>(jV l).map λxs=>(cH (.fc T xs),s,.nil,q)
  | _,_=>none
 | .typeAssert x _ T ok=>match P.underlying T,evI s x with
  | some (.struct _),some (.fc T' l)=>if T'=T then (if ok=true then some (.tup [⟨true,uc l⟩,⟨false,[.b true]⟩],s,.nil,q) else some (.one ⟨true,uc l⟩,s,.nil,q))
   else if ok=true then (EF P T).map λz=>(.tup [⟨true,z⟩,⟨false,[.b false]⟩],s,.nil,q) else none
  | _,_=>none
 | .slice t x lo hi mx=>match P.underlying t,evI s x,lo.bind (evI s),hi,mx with
  | some (.slice e),some (.fs o l n z),some (.k i),none,none=>if (0<=i/\i<n)/\bV P e=some z then (bE l (i.toNat*z)).map λr=>(cH (.fs (o+i.toNat*z) r.2 (n-i.toNat) z),s,.nil,q) else none
  | some (.slice e),some (.ro z n f),some (.k i),none,none=>if bV P e=some z then some (cH (.ro z (n-i.toNat) λj=>f (i.toNat+j)),s,⟨[0<=i/\i<=n],[],[]⟩,q) else none
  | some (.slice e),some (.ro z n f),some (.i i _),none,none=>if bV P e=some z then some (cH (.ro z (n-i.toNat) λj=>f (i.toNat+j)),s,⟨[0<=i/\i<=n],[],[]⟩,q) else none
  | some (.slice e),some (.ro z n f),none,some h,none=>(match lo,(evI s h).bind asI with
   | none,some (i,_)=>if bV P e=some z then some (cH (.ro z i.toNat f),s,⟨[0<=i/\i<=n],[],[]⟩,q) else none
   | _,_=>none)
  | _,_,_,_,_=>none
 | _=>none
def qt(ops:Array Oper)(o:Oper)(s:St)(q:List Bool):Option (Bool×St×List Prop×List Bool) :=
 match o.guard with
 | none=>some (true,s,[],q)
 | some (j,want)=>match (ops[j]?).bind (·.dst) with
  | none=>none
  | some d=>match s.t.get d with
   | some .und=>some (false,s,[],q)
   | some (.one ⟨false,[.b k]⟩)=>some (k==want,s,[],q)
   | some (.one ⟨false,[.v (.bool b)]⟩)=>match q with
    | k::q=>some (k==want,{ s with t:=s.t.set d (cH (.b k)) },[b=k],q)
    | []=>none
   | _=>none
def IA(ops:Array Oper):Nat->Operand->Bool
 | n+1,.tmp d=>match ops.toList.find? (λo=>o.dst==some d) with
  | some o=>(match o.op with
   | .alloc _ | .buildSlice _ _ _=>true
   | .indexAddr _ x _ | .fieldAddr _ x _ | .move x | .assign x=>IA ops n x
   | _=>false)
  | none=>false
 | _,_=>false
def zM(ops:Array Oper):Nat->Operand->Option Nat
 | n+1,.tmp d=>match ops.toList.find? (λo=>o.dst==some d) with
  | some o=>(match o.op with
   | .indexAddr _ x _ | .fieldAddr _ x _ | .move x | .assign x=>zM ops n x
   | _=>some d)
  | none=>some d
 | _,_=>none
def pn(ops:Array Oper)(o:Oper):Bool:=match o.op with
 | .load _ x=>IA ops 4 x||(match zM ops 4 x with|some d=>(ops.toList.take (ops.size-1)).any λk=>(match k.op with | .store _ y _=>zM ops 4 y==some d|_=>false)|none=>false)|_=>false
def Em(o:Oper):Bool:=match o.op with | .store _ _ _=>true | .fieldAddr _ _ _=>true|_=>false
def qg(ops:Array Oper):Nat:=((List.range ops.size).find? λn=>(ops.toList.drop n).all Em&&uJ ops n).getD ops.size
def qkB(ops:Array Oper)(o:Oper):Bool:=match o.op with
 | .load _ x=>IA ops 4 x||(match zM ops 4 x with|some d=>(ops.toList.take (qg ops)).any λk=>(match k.op with | .store _ y _=>zM ops 4 y==some d|_=>false)|none=>false)|_=>false
def ct(P:Program)(E:Env)(call:gw)(ops:Array Oper)(qk:Oper->Bool):List Oper->St->List Bool->Option (St×Ob×List Bool)
 | [],s,q=>some (s,.nil,q)|o::l,s,q=>match qt ops o s q with|none=>none|some (false,s,ps,q)=>if qk o then none else (ct P E call ops qk l (put s o.dst .und) q).map λr=>(r.1,Ob.cat ⟨ps,[],[]⟩ r.2.1,r.2.2)|some (true,s,ps,q)=>match oC P E call o s q with|none=>none|some (v,s,ob,q)=>(ct P E call ops qk l (put s o.dst v) q).map λr=>(r.1,Ob.cat ⟨ps++ob.ps,if qk o then [] else ob.ld,ob.st⟩ r.2.1,r.2.2)
def fE:Oper->Bool:=λ_=>false
def a6I(ops:Array Oper):Bool:=(match ops.toList.drop (ops.size-1) with | [o]=>(match o.op with | .store _ _ _=>true|_=>false)|_=>false)&&uJ ops (ops.size-1)
def Ig:List Oper->Bool
 | []=>true|[o]=>(match o.op with | .store _ _ _=>true|_=>false)|_=>false
def nG(ops:Array Oper):Nat:=if a6I ops then ops.size-1 else ops.size
def C7(ops:Array Oper):List Nat->List Nat->List Nat
 | [],pend=>pend|i::l,pend=>match ops[i]? with|some o=>if av o==1 then C7 ops l (pend++[i]) else (pend.filter λk=>eX ops 5 i k)++i::C7 ops l (pend.filter λk=>!eX ops 5 i k)|none=>C7 ops l pend
def QP(ops:Array Oper):List Nat:=C7 ops (List.range ops.size) []
def a2T(ops:Array Oper):List Nat :=
 let e:=(List.range ops.size).filter λi=>match ops[i]? with|some o=>av o==0&&(pn ops o||(List.range ops.size).any λj=>(match ops[j]? with|some x=>pn ops x&&eX ops 5 j i|none=>false))|none=>false
 e++(List.range ops.size).filter λi=>!e.contains i
def pi(ops:Array Oper):List Nat:=if CZ (pn ops) ops (nG ops) (QP ops) then QP ops else a2T ops
inductive Ex where
 | nm
 | rt
 | ex (id:Nat)
def jT(f:St->List Bool->Option (Ex×St×List Prop×List Bool)):Nat->St->List Bool->Option (Ex×St×List Prop×List Bool)
 | 0,_,_=>none|n+1,s,q=>match f s q with|none=>none|some (.nm,s,ps,q)=>(jT f n s q).map λr=>(r.1,r.2.1,ps++r.2.2.1,r.2.2.2)|r=>r
def dM(P:Program)(E:Env)(call:gw):Code->St->List Bool->Option (Ex×St×List Prop×List Bool)
 | .skip,s,q=>some (.nm,s,[],q)
 | .label _,s,q=>some (.nm,s,[],q)
 | .ret,s,q=>some (.rt,s,[],q)
 | .exit k,s,q=>some (.ex k,s,[],q)
 | .seq a b,s,q=>match dM P E call a s q with
  | none=>none
  | some (.nm,s,ps,q)=>(dM P E call b s q).map λr=>(r.1,r.2.1,ps++r.2.2.1,r.2.2.2)
  | r=>r
 | .cond c x y,s,q=>match evI s c,q with
  | some (.b true),q=>dM P E call x s q
  | some (.b false),q=>dM P E call y s q
  | some (.v (.bool b)),true::q=>(dM P E call x s q).map λr=>(r.1,r.2.1,(b=true)::r.2.2.1,r.2.2.2)
  | some (.v (.bool b)),false::q=>(dM P E call y s q).map λr=>(r.1,r.2.1,(b=false)::r.2.2.1,r.2.2.2)
  | _,_=>none
 | .loop c,s,q=>jT (λs q=>dM P E call c s q) 100 s q
 | .block id c,s,q=>(dM P E call c s q).map λr=>((match r.1 with | .ex k=>if k=id then .nm else .ex k|e=>e),r.2)
 | .region _ ops d,s,q=>match d with
  | false=>(ct P E call ops fE ops.toList { s with al:=0 } q).map λr=>(.nm,r.1,r.2.1.ps,r.2.2)
  | true=>if P.follows .mixedOrders then
    (if fN ops && !(ops.toList.any (qkB ops)) then (if (ops.toList.drop (qg ops)).all Em && uJ ops (qg ops) then (match ct P E call ops fE (ops.toList.take (qg ops)) { s with al := 1 } q with
     | some (s',ob,q)=>if ob.ld.all (λb=>(mb s.m b).isSome&&!(ob.st.contains b)) then (ct P E call ops fE (ops.toList.drop (qg ops)) s' q).map λr=>(.nm,r.1,ob.ps++r.2.1.ps,r.2.2) else none
     | none=>none)
    else (match ct P E call ops fE ops.toList { s with al:=1 } q with
     | some (s',ob,q)=>if ob.ld.all (λb=>(mb s.m b).isSome&&!(ob.st.contains b)) then some (.nm,s',ob.ps,q) else none
     | none=>none))
    else if CZ (pn ops) ops (nG ops) (pi ops)&&Ig (mR ops ((pi ops).drop (nG ops))) then (match ct P E call ops (pn ops) (mR ops ((pi ops).take (nG ops))) { s with al:=1 } q with
     | some (s',ob,q)=>if ob.ld.all (λb=>(mb s.m b).isSome&&!(ob.st.contains b)) then (ct P E call ops fE (mR ops ((pi ops).drop (nG ops))) s' q).map λr=>(.nm,r.1,ob.ps++r.2.1.ps,r.2.2) else none
     | none=>none) else none) else none
 | _,_,_=>none
def Fh(P:Program)(s:St):ResultVar->Option V1
 | .tmp t=>match s.t.get t with|some (.one v)=>some v|_=>none
 | .cell a T=>match s.t.get a with
  | some (.one ⟨false,[.p b o]⟩)=>(mb s.m b).bind λm=>kg P T m.l o
  | _=>none
def qa(P:Program)(s:St):List ResultVar->Option (List V1)
 | []=>some []|r::l=>match Fh P s r,qa P s l with|some v,some w=>some (v::w)|_,_=>none
def kK(P:Program)(E:Env)(K:FuncId->Option (List V1->Option (AV×List Prop))):Nat->gw
 | 0=>λ_ _ _=>none
 | n+1=>λf args q=>match K f with
  | some r=>(r (args.map CG)).map λr=>((r.1,[]),r.2,q)
  | none=>match P.funcs[f]? with
   | none=>none
   | some fn=>match fn.body with
    | none=>none
    | some c=>match dM P E (kK P E K n) c ⟨⟨args.length+(fn.ntmps-args.length),(Tr.full 12).fill 0 (args.map λv=>.one (pL v))⟩,[],0⟩ q with
     | none=>none
     | some (e,s,ps,q)=>match e with
      | .ex _=>none
      | _=>match qa P s fn.results.toList with
       | some l=>(match uw (gh (l.map V1.l).flatten) l,sL s.m (gh (l.map V1.l).flatten) with
        | some l,some ms=>(match l with
         | [v]=>some ((.one v,ms),ps,q)
         | l=>some ((.tup l,ms),ps,q))
        | _,_=>none)
       | none=>none
def Pq:It->It
 | .i z _=>.i z lim|.k n=>.i n lim|.b k=>.v (.bool k)|i=>i
def yO:List It->List It
 | []=>[]|i::l=>match i,l with|.b false,.v (.slice none 0 0)::m=>.d (.num zero)::yO m|i,l=>Pq i::yO l
def yP(v:V1):V1:=⟨v.g,yO v.l⟩
def B8:AV->AV
 | .one v=>.one (yP v)|.tup l=>.tup (l.map yP)|a=>a
section
section
variable {P:Program} {ops:Array Oper} {S:World->Prop} {Q:Act->World->Prop} {o:Oper} {l:List Oper} {a:Act} {own:List Nat} {F:World->Prop}
theorem U8{v:Value}(hw:Region.wanted o (yielded ops a.tmps)=true)(hr:∀w,S w->(execOp a.eval o).run P w=.ok (.value v) w)(h:aG P ops S Q l (a.put o.dst v) own F) :
  aG P ops S Q (o::l) a own F:=.pure v (.inl ⟨hw,hr⟩) h
theorem rj{a':Act}(h:aG P ops S Q l a' own F)(ha:a=a':=by (simp only[Act.put,List.setIfInBounds_toArray,List.set_cons_zero,List.set_cons_succ];rfl)):aG P ops S Q l a own F:=by subst ha;exact h
theorem gQ{a':Act}(h:aG P ops S Q l a' own F)(hw:Region.wanted o (yielded ops a.tmps)=false:=by rfl)(ha:a.put o.dst undef=a':=by (simp only[Act.put,List.setIfInBounds_toArray,List.set_cons_zero,List.set_cons_succ];rfl)):aG P ops S Q (o::l) a own F:=by
 subst ha;exact .pure undef (.inr ⟨hw,rfl⟩) h
theorem gP{a':Act}{v:Value}(h:aG P ops S Q l a' own F)(hk:av o=0:=by rfl)(hw:Region.wanted o (yielded ops a.tmps)=true:=by rfl)(hr:∀w,S w->(execOp a.eval o).run P w=.ok (.value v) w:=by (intro W hW;(try dsimp only at hW);go_simp;try with_reducible rfl))(ha:a.put o.dst v=a':=by (simp only[Act.put,List.setIfInBounds_toArray,List.set_cons_zero,List.set_cons_succ];rfl)) :
  aG P ops S Q (o::l) a own F:=by
 subst ha;exact .pure v (.inl ⟨hw,hr⟩) h
theorem U4(k:Nat)(obj:Obj)(T:Nat->World->Prop)(hk:av o=1)(hw:Region.wanted o (yielded ops a.tmps)=true)(hp:∀g,gq o g=.slice (some ⟨g,0,none⟩) k k)
  (hr:∀w,S w->(execOp a.eval o).run P w=.ok (.value (.slice (some ⟨w.heap.size,0,none⟩) k k)) (w.alloc obj)) (hT:∀g w,F w->w.heap[g]? = some obj->T g w)
  (h:∀g,aG P ops S Q l (a.put o.dst (.slice (some ⟨g,0,none⟩) k k)) own (λw=>F w/\T g w)):aG P ops S Q (o::l) a own F :=
 .flo hk hw obj (λw hs=>by rw[hp];exact hr w hs) λg hg _=>by rw[hp];exact (h g).weak (λw h=>⟨h.1,hT g w h.1 h.2⟩) (λx hx=>List.mem_cons_of_mem _ hx)
theorem aL.imp{w:World}{R R':Value->World->Prop}(h:aL P o a w R)(hi:∀v w',R v w'->R' v w'):aL P o a w R':=by
 unfold aL at *;generalize (execOp a.eval o).run P w=r at *;cases r with
 | ok n w' =>
  cases n<;>simp only[dz] at h ⊢
  ·exact hi _ _ h
  ·exact hi _ _ h
  ·exact h.mono λe w'' ⟨v,he,hr⟩=>⟨v,he,hi _ _ hr⟩
 | halt x w'=>simp only[dz] at h
theorem U5{v:Value}(hk:av o=2)(hw:Region.wanted o (yielded ops a.tmps)=true)
  (hg:∀w,F w->aL P o a w (λu w'=>u=v/\Below w.heap.size w w')) (h:aG P ops S Q l (a.put o.dst v) own F):aG P ops S Q (o::l) a own F:=by
 refine .eff hk hw Unit (λ_=>v) (λ_ _=>True) (λ_ _ _ h _=>h) (λw hf=>?_) (λt ht=>?_)
 ·have := hg w hf;unfold aL at *;generalize (execOp a.eval o).run P w=r at *;cases r with
  | ok n w' =>
   cases n<;>simp only[dz] at this ⊢
   ·exact⟨(),this.1,this.2,trivial⟩
   ·exact⟨(),this.1,this.2,trivial⟩
   ·exact this.mono λe w'' ⟨v,he,hr⟩=>⟨v,he,(),hr.1,hr.2,trivial⟩
  | halt x w'=>simp only[dz] at this
 ·have e : (λw => F w /\ True) = F := by funext w; simp
  rw[e];exact h
theorem Lr{I:Type}(sh:I->Value)(T:I->World->Prop)(hm:∀t,dh (T t))(hk:av o=2)(hw:Region.wanted o (yielded ops a.tmps)=true)
  (hg:∀w,F w->aL P o a w (λv w'=>∃t,v=sh t/\Below w.heap.size w w'/\T t w'))
  (h:∀t,(∃w,F w/\T t w)->aG P ops S Q l (a.put o.dst (sh t)) own (λw=>F w/\T t w)):aG P ops S Q (o::l) a own F :=
 .eff hk hw I sh T hm hg h
theorem U9(T:World->Prop)(hm:dh T)(hs:∀w,T w->S w)(hk:av o=3)(hw:Region.wanted o (yielded ops a.tmps)=true)
  (hg:∀w,F w->aL P o a w (λv w'=>v=undef/\w.heap.size<=w'.heap.size/\T w'))
  (h:aG P ops S Q l (a.put o.dst undef) own (λw=>T w/\∀g∈own,g<w.heap.size)):aG P ops S Q (o::l) a own F :=
 .sto hk hw Unit (λ_=>undef) (λ_=>T) (λ_=>hm) (λ_=>hs) (λw hf=>(hg w hf).imp λ_ _ h=>⟨(),h⟩) λ_ _=>h
theorem tU{w:World}{f:FuncId}{args:Array Value}{R:Value->World->Prop}(hx:(execOp a.eval o).run P w=.ok (.enter f args) w)
  (h:Calls P f args w (λe w'=>∃v,e=.returned v/\R v w')):aL P o a w R:=by
 unfold aL;rw[hx];exact h
end
theorem uS{P:Program}{ops:Array Oper}{S:World->Prop}{Q:Exit->Act->World->Prop}:∀ {l:List Oper} {a:Act} {own:List Nat} {F:World->Prop} {w:World},bF S own F->F w->aG P ops S (λa w=>Q .normal a w) l a own F->wpList P ops Q l a w
 | [],_,_,_,w,_,hw,h=>h w hw|o::l,a,own,F,w,hi,hw,h=>by
  unfold wpList;cases h with|pure v hy h =>
   rcases hy with⟨h1,h2⟩|⟨h1,rfl⟩
   ·rw [if_pos h1];refine .inl ?_;unfold Oper.wp;rw[h2 w (hi.held w hw)];exact uS hi hw h
   ·rw [if_neg (by rw [h1]; exact Bool.false_ne_true)];exact uS hi hw h|flo hk hwant obj hr h =>
   rw[if_pos hwant];refine .inl ?_;unfold Oper.wp;rw[hr w (hi.held w hw)];have hs:∃w':World,F w'/\w'.heap[w.heap.size]? = some obj:=⟨{ w with heap:=w.heap.push obj },hi.mono _ _ hw (kM w obj),by simp⟩;exact uS (hi.flo obj _ hs) ⟨hi.mono _ _ hw (kM w obj),by simp⟩ (h _ (λhx=>Nat.lt_irrefl _ (hi.own w hw _ hx)) hs)|eff hk hwant I sh T hm' hg h =>
   rw[if_pos hwant];refine .inl ((hg w hw).wp ?_);rintro v w' ⟨t,rfl,hb,ht⟩;have hs:∃w,F w/\T t w:=⟨w',hi.mono _ _ hw hb,ht⟩;exact uS (hi.eff (hm' t) hs) ⟨hi.mono _ _ hw hb,ht⟩ (h t hs)|sto hk hwant I sh T hm' hs hg h =>
   rw[if_pos hwant];refine .inl ((hg w hw).wp ?_);rintro v w' ⟨t,rfl,hb,ht⟩;have hx:T t w'/\∀g∈own,g<w'.heap.size:=⟨ht,λg hg=>Nat.lt_of_lt_of_le (hi.own w hw g hg) hb⟩;exact uS (bF.sto (hm' t) (hs t) ⟨w',hx⟩) hx (h t ⟨w',hx⟩)|mu hk hwant B hB I sh T hm' hs hg h =>
   rw[if_pos hwant];refine .inl ((hg w hw).wp ?_);rintro v w' ⟨t,rfl,hb,ht⟩;have hx:T t w'/\∀g∈own,g<w'.heap.size:=⟨ht,λg hg=>Nat.lt_of_lt_of_le (hi.own w hw g hg) hb.1⟩;exact uS (bF.sto (hm' t) (hs t) ⟨w',hx⟩) hx (h t ⟨w',hx⟩)
theorem EA{P:Program}{id:Nat}{l:List Oper}{Q:Exit->Act->World->Prop}{a:Act}{w:World}(C:World->Prop)(hC:C w)
  (hmono:∀W W',C W->Below w.heap.size w W->Below W.heap.size W W'->C W')
  (h:aG P l.toArray (λW=>Below w.heap.size w W/\C W) (λa w=>Q .normal a w) l a (List.range w.heap.size) (λW=>Below w.heap.size w W/\C W)):(Code.region id l.toArray false).wp P Q a w :=
 wp_region_lit (uS ⟨λW W' h hb=>⟨h.1.trans (hb.mono h.1.size),hmono W W' h.2 h.1 hb⟩,λ_ h=>h,λW h g hg=>Nat.lt_of_lt_of_le (List.mem_range.1 hg) h.1.size,⟨w,Below.refl _ _,hC⟩⟩ ⟨Below.refl _ _,hC⟩ h)
theorem U6{P:Program}{ops:Array Oper}{S:World->Prop}{Q:Act->World->Prop}{o:Oper}{l:List Oper}{a:Act}{own:List Nat}{F:World->Prop}(w0:World)(x:Nm)(hk:av o=2)(hw:Region.wanted o (yielded ops a.tmps)=true)
  (hg:∀w,F w->aL P o a w (λv w'=>∃n p l c,v=.agg #[.bool n,.slice p l c]/\NR w' n p l c x/\New w0 p/\ac w w'))
  (h:∀n p l' c,New w0 p->aG P ops S Q l (a.put o.dst (.agg #[.bool n,.slice p l' c])) own (λw=>F w/\NR w n p l' c x)):aG P ops S Q (o::l) a own F:=by
 refine .eff hk hw (Bool×Option Addr×Nat×Nat) (λt=>.agg #[.bool t.1,.slice t.2.1 t.2.2.1 t.2.2.2]) (λt w=>New w0 t.2.1/\NR w t.1 t.2.1 t.2.2.1 t.2.2.2 x) (λt w w' h hb=>⟨h.1,h.2.ext hb⟩) (λw hf=>?_) ?_
 ·refine (hg w hf).imp ?_;rintro v w' ⟨n,p,l,c,rfl,h1,h2,h3⟩;exact⟨(n,p,l,c),rfl,h3,h2,h1⟩
 ·rintro ⟨n, p, l', c⟩ ⟨w1, hf, hn, hr⟩;have e:(λw=>F w/\New w0 p/\NR w n p l' c x)=(λw=>F w/\NR w n p l' c x):=by
   funext w;exact propext ⟨λ⟨a,_,b⟩=>⟨a,b⟩,λ⟨a,b⟩=>⟨a,hn,b⟩⟩
  have:=h n p l' c hn;rw[<- e] at this;exact this
theorem a4F{a b:Bool}(h:a=b):Ending.returned (.bool a)=.returned (.bool b):=by rw[h]
theorem a4G{k:IntKind}{a b:Int}(h:a=b):Ending.returned (.int k a)=.returned (.int k b):=by rw[h]
def Cell(w:World)(b o:Nat)(v:Value):Prop:=b<w.heap.size/\w.cell? ⟨b,o,none⟩=some v
theorem Cell.mono(b o:Nat)(v:Value):dh (λw=>Cell w b o v):=λw w' h hb =>
 ⟨Nat.lt_of_lt_of_le h.1 hb.size,by rw[hb.cell (p:=⟨b,o,none⟩) h.1];exact h.2⟩
theorem dh.ext(w0:World):dh (λw=>ac w0 w):=λ_ _ h hb=>ac.step h hb
end
end Go.Proofs.YtghemgdfmldoeaaGreat
