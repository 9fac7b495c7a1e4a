import Derived.Test.YtghemgdfmldoeaaGreatS01
import Derived.Test.YtghemgdfmldoeaaGreatS03
import Derived.Deep.DrawnRows
set_option linter.unusedVariables false
set_option linter.unusedSimpArgs false

namespace Go.Proofs.YtghemgdfmldoeaaGreat
open Go.RowKit
def tE:TypeId:=108
inductive Dat where
 | num (x:Nm)
 | zi (z:Int) (B:Nat)
 | ed (n:Nat) (f:Nat->List (Int×Nat))
def Dat.isE:Dat->Bool
 | .ed _ _=>true
 | _=>false
inductive It where
 | i (z:Int) (B:Nat)
 | k (n:Int)
 | v (x:Value)
 | b (k:Bool)
 | p (b o:Nat)
 | d (D:Dat)
 | o (D:Dat)
 | sl (b n z:Nat)
 | fp (l:List It)
 | fs (o:Nat) (l:List It) (n z:Nat)
 | fn (f:FuncId) (c:List (Nat×Nat))
 | ds (L:List Int)
 | dr (L:List Int) (k:Nat)
 | px (b:Nat) (z:Int) (n len:Nat)
 | fc (T:TypeId) (l:List (Int×Nat))
 | ln (n:Nat)
 | ro (z n:Nat) (f:Nat->List It)
 | ol (T:TypeId) (z n:Nat) (f:Nat->List It)
 | gp (T:TypeId) (l:List It)
def Dat.n:Dat->Nat
 | .num _=>2
 | .zi _ _=>2
 | .ed _ _=>1
def It.n:It->Nat
 | .d D=>D.n
 | .o D=>D.n
 | .dr _ _=>2
 | _=>1
structure V1 where
 g:Bool
 l:List It
inductive AV where
 | und
 | any
 | one (x:V1)
 | tup (l:List V1)
def okV:Value->Bool
 | .int k _=>match k with | .u32=>false|_=>true
 | .bool _ | .nilFunc | .nilIface | .string _=>true
 | .slice a _ _=>match a with|none=>true|some _=>false
 | .func _ f c=>f.size==0&&c.size==0
 | _=>false
def lim:Nat:=9223372036854775808
def toIt(v:Value):Option It :=
 match v with
 | .bool k=>some (.b k)
 | .int k n=>match k with | .i64=>if n.natAbs<lim then some (.k n) else none|_=>if okV v then some (.v v) else none
 | _=>if okV v then some (.v v) else none
def toIts:List Value->Option (List It)
 | []=>some []
 | v::l=>match toIt v,toIts l with|some i,some r=>some (i::r)|_,_=>none
def cutI:List It->Nat->Option (List It×List It)
 | l,0=>some ([],l)
 | [],_+1=>none
 | i::l,n=>if i.n<=n then (match cutI l (n-i.n) with|some (a,b)=>some (i::a,b)|none=>none) else none
def subI(l:List It)(o n:Nat):Option (List It):=(cutI l o).bind fun r=>(cutI r.2 n).map (·.1)
def putI(l:List It)(o n:Nat)(x:List It):Option (List It):=(cutI l o).bind fun r=>(cutI r.2 n).map fun q=>r.1++(x++q.2)
structure Mb where
 T:TypeId
 l:List It
def It.isE:It->Bool
 | .d D=>D.isE
 | .ol _ _ _ _=>true
 | .gp _ _=>true
 | _=>false
def It.fr:It->Bool
 | .ol _ _ _ _=>true
 | .gp _ _=>true
 | _=>false
def AV.its:AV->List It
 | .one v=>v.l
 | .tup l=>l.flatMap V1.l
 | _=>[]
def noE(l:List It):Bool:=l.all fun i=>!i.isE
def noF(l:List It):Bool:=l.all fun i=>!i.fr
inductive Tr where
 | e
 | n (v:AV) (l r:Tr)
def Tr.full:Nat->Tr
 | 0=>.e
 | k+1=>.n .und (Tr.full k) (Tr.full k)
def Tr.get:Tr->Nat->Option AV
 | .e,_=>none
 | .n v l r,i=>match i with
  | 0=>some v
  | j+1=>match Nat.mod j 2 with
   | 0=>l.get (Nat.div j 2)
   | _+1=>r.get (Nat.div j 2)
def Tr.set:Tr->Nat->AV->Tr
 | .e,_,_=>.e
 | .n v l r,i,x=>match i with
  | 0=>.n x l r
  | j+1=>match Nat.mod j 2 with
   | 0=>.n v (l.set (Nat.div j 2) x) r
   | _+1=>.n v l (r.set (Nat.div j 2) x)
def Tr.all(p:AV->Bool):Tr->Bool
 | .e=>true
 | .n v l r=>p v&&(l.all p&&r.all p)
def Tr.allD(p:AV->Bool):Nat->Tr->Bool
 | k+1,.n v l r=>p v&&(Tr.allD p k l&&Tr.allD p k r)
 | _,_=>true
def Tr.mapD(f:AV->AV):Nat->Tr->Tr
 | k+1,.n v l r=>.n (f v) (Tr.mapD f k l) (Tr.mapD f k r)
 | _,t=>t
def Tr.fill:Tr->Nat->List AV->Tr
 | t,_,[]=>t
 | t,i,v::l=>Tr.fill (t.set i v) (i+1) l
structure Tm where
 n:Nat
 r:Tr
def Tm.get(t:Tm)(i:Nat):Option AV:=match Nat.blt i t.n with|true=>t.r.get i|false=>none
def Tm.set(t:Tm)(i:Nat)(v:AV):Tm:=⟨t.n,t.r.set i v⟩
structure St where
 t:Tm
 m:List (Option Mb)
 al:Nat
def mb(m:List (Option Mb))(b:Nat):Option Mb:=match m[b]? with|some (some x)=>some x|_=>none
def okE(s:St)(T:TypeId):Bool:=!(T==tE)||(s.t.r.all (fun v=>noE v.its)&&s.m.all fun x=>match x with|some y=>noE y.l|none=>true)
def stE(s:St)(T:TypeId)(c:List It):Bool:=okE s T&&(!(T==tE)||noE c)
def Tm.dp(t:Tm):Nat:=Nat.log2 t.n+1
def noFr(s:St):Bool:=s.t.r.allD (fun v=>noF v.its) s.t.dp&&s.m.all fun x=>match x with|some y=>noF y.l|none=>true
def alN(s:St):Bool:=Nat.beq s.al 0||(!(Nat.beq s.al 2)&&noFr s)
structure Ob where
 ps:List Prop
 ld:List Nat
 st:List Nat
def Ob.nil:Ob:=⟨[],[],[]⟩
def Ob.cat(a b:Ob):Ob:=⟨a.ps++b.ps,a.ld++b.ld,a.st++b.st⟩
def szT(P:Program)(t:TypeId):Option Nat:=(P.info? t).map (·.size)
def agT(P:Program)(t:TypeId):Option Bool:=(P.underlying t).map fun | .struct _=>true | .array _ _=>true|_=>false
def fld(P:Program)(t:TypeId)(f:Nat):Option (Nat×TypeId) :=
 match P.underlying t with
 | some (.struct fs)=>(fs[f]?).map fun d=>(d.offset,d.type)
 | _=>none
def zeroT(P:Program)(t:TypeId):Option (List It):=((P.info? t).bind (·.zero)).bind fun z=>toIts z.cells.toList
def opnI:It->List It
 | .d (.num x)=>[.v (.bool x.neg),.ln x.d.length]
 | .o (.num x)=>[.v (.bool x.neg),.ln x.d.length]
 | .d (.zi z _)=>[.v (.bool (ofZ z).neg),.ln (ofZ z).d.length]
 | .o (.zi z _)=>[.v (.bool (ofZ z).neg),.ln (ofZ z).d.length]
 | i=>[i]
def opnL(l:List It):List It:=(l.map opnI).flatten
def subO(l:List It)(o n:Nat):Option (List It):=match subI l o n with|some x=>some x|none=>subI (opnL l) o n
def partI(P:Program)(t:TypeId)(l:List It)(o:Nat):Option V1 :=
 match szT P t,agT P t with
 | some n,some g=>if g||n==1 then (subO l o n).map fun x=>⟨g,x⟩ else none
 | _,_=>none
def on1(x:It):AV:=.one ⟨false,[x]⟩
def evA(s:St):Operand->Option AV
 | .tmp t=>s.t.get t
 | .const v=>match v with | .agg cs=>(toIts cs.toList).map fun l=>.one ⟨true,l⟩ | .tuple _=>none|_=>(toIt v).map on1
 | .global _=>none
 | .func f=>some (on1 (.v (.func (.func f) #[] #[])))
def evV(s:St)(x:Operand):Option V1:=(evA s x).bind fun | .one v=>some v|_=>none
def evI(s:St)(x:Operand):Option It:=(evV s x).bind fun v=>match v.g,v.l with|false,[i]=>some i|_,_=>none
def put(s:St)(d:Option Nat)(v:AV):St:=match d with|some d=>{ s with t:=s.t.set d v } | none=>s
def wr(z:Int)(B:Nat):It:=if B<lim then .i z B else .i (IntKind.i64.wrap z) lim
def binI(op:BinOp)(x:Int)(A:Nat)(y:Int)(B:Nat):Option (It×List Prop) :=
 match op with
 | .add=>some (wr (x+y) (A+B),[])
 | .sub=>some (wr (x-y) (A+B),[])
 | .mul=>some (wr (x*y) (A*B),[])
 | .quo=>some (wr (x.tdiv y) A,[y≠0])
 | .rem=>some (.i (x.tmod y) (min A B),[y≠0])
 | .eql=>some (.v (.bool (x==y)),[])
 | .neq=>some (.v (.bool (x != y)),[])
 | .lss=>some (.v (.bool (x<y)),[])
 | .leq=>some (.v (.bool (x<=y)),[])
 | .gtr=>some (.v (.bool (x>y)),[])
 | .geq=>some (.v (.bool (x >= y)),[])
 | _=>none
def asI:It->Option (Int×Nat)
 | .i z B=>some (z,B)
 | .k n=>some (n,n.natAbs)
 | _=>none
def kn(z:Int):Option It:=if z.natAbs<lim then some (.k z) else none
def binK(op:BinOp)(x y:Int):Option It :=
 match op with
 | .add=>kn (x+y)
 | .sub=>kn (x-y)
 | .mul=>kn (x*y)
 | .quo=>if y=0 then none else kn (x.tdiv y)
 | .rem=>if y=0 then none else kn (x.tmod y)
 | .eql=>some (.b (x==y))
 | .neq=>some (.b (x != y))
 | .lss=>some (.b (decide (x<y)))
 | .leq=>some (.b (decide (x<=y)))
 | .gtr=>some (.b (decide (x>y)))
 | .geq=>some (.b (decide (x >= y)))
 | _=>none
inductive Sc where
 | i (z:Int)
 | b (x:Bool)
 | s (x:ByteArray)
def scI:It->Option Sc
 | .v (.bool x)=>some (.b x)
 | .v (.string x)=>some (.s x)
 | .b x=>some (.b x)
 | i=>(asI i).map fun z=>.i z.1
def scsI:List It->Option (List Sc)
 | []=>some []
 | i::l=>match scI i,scsI l with|some z,some r=>some (z::r)|_,_=>none
def Sc.kind:Sc->Nat
 | .i _=>0
 | .b _=>1
 | .s _=>2
def eqS:Sc->Sc->Bool
 | .i x,.i y=>x==y
 | .b x,.b y=>x==y
 | .s x,.s y=>x==y
 | _,_=>false
def eqZ:List Sc->List Sc->Bool
 | [x],[y]=>eqS x y
 | x::a::l,y::b::r=>eqS x y&&eqZ (a::l) (b::r)
 | _,_=>false
def eqIs(n:List Nat)(l m:List It):Option Bool :=
 match scsI l,scsI m with
 | some xs,some ys=>if xs.map Sc.kind==n&&ys.map Sc.kind==n then some (eqZ xs ys) else none
 | _,_=>none
def binS(P:Program)(op:BinOp)(t:TypeId)(i j:It):Option (It×List Prop) :=
 match i,j with
 | .k n,.k m=>(binK op n m).map fun r=>(r,[])
 | .v (.bool x),.v (.bool y)=>(match op,P.underlying t with | .eql,some .bool=>some (.v (.bool (x==y)),[]) | .neq,some .bool=>some (.v (.bool (!(x==y))),[])|_,_=>none)
 | i,j=>match asI i,asI j with
  | some (x,A),some (y,B)=>binI op x A y B
  | _,_=>none
def binA(P:Program)(E:List (TypeId×List Nat))(op:BinOp)(t:TypeId)(x y:V1):Option (It×List Prop) :=
 match x.g,y.g with
 | false,false =>
  match x.l,y.l with
  | [i],[j]=>binS P op t i j
  | _,_=>none
 | true,true =>
  match E.lookup t with
  | some n=>(match op with
   | .eql=>(eqIs n x.l y.l).map fun e=>(.v (.bool e),[])
   | .neq=>(eqIs n x.l y.l).map fun e=>(.v (.bool (!e)),[])
   | _=>none)
  | none=>none
 | _,_=>none
def plcs(P:Program)(t:TypeId):Option (Nat->Option (Nat×Nat)) :=
 match P.underlying t with
 | some (.array _ e)=>(P.info? e).map fun ie i=>some (i*ie.size,ie.size)
 | some (.struct fields)=>(fields.toList.mapM (fun f=>(P.info? f.type).map fun i=>(f.offset,i.size))).map fun places i=>places.toArray[i]?
 | _=>none
def fills(pl:Nat->Option (Nat×Nat)):List It->List (Nat×V1)->Option (List It)
 | c,[]=>some c
 | c,(f,v)::l=>match pl f with
  | some (o,n)=>match putI c o n v.l with
   | some c'=>if (v.l.map It.n).sum==n then fills pl c' l else none
   | none=>none
  | none=>none
def evVs(s:St):List Operand->Option (List V1)
 | []=>some []
 | x::l=>match evV s x,evVs s l with|some v,some r=>some (v::r)|_,_=>none
def evPs(s:St):List (Nat×Operand)->Option (List (Nat×V1))
 | []=>some []
 | (f,x)::l=>match evV s x,evPs s l with|some v,some r=>some ((f,v)::r)|_,_=>none
def mms(P:Program)(b:Builtin)(ts:List TypeId)(args:List V1):Option (It×List Prop) :=
 match args with
 | [⟨false,[i]⟩,⟨false,[j]⟩]=>(match asI i,asI j with
  | some (x,A),some (y,B)=>(match b with
   | .max=>some (.i (max x y) (max A B),[])
   | .min=>some (.i (min x y) (max A B),[])
   | _=>none)
  | _,_=>none)
 | [⟨false,[i]⟩,⟨false,[j]⟩,⟨false,[k]⟩,⟨false,[l]⟩]=>(match b,asI i,asI j,asI k,asI l with
  | .max,some (x,A),some (y,B),some (z,C),some (u,D)=>some (.i (max (max x y) (max z u)) (max (max A B) (max C D)),[])
  | _,_,_,_,_=>none)
 | [⟨false,[i]⟩]=>(match b,ts with
  | .len,[t]=>(match P.underlying t,i with
   | some (.slice _),.sl _ n _=>if n<lim then some (.k n,[]) else none
   | some (.slice _),.fs _ _ n _=>if n<lim then some (.k n,[]) else none
   | some (.slice _),.ds L=>some (.i L.length lim,[])
   | some (.slice _),.ln n=>some (.i n lim,[])
   | some (.slice _),.ro _ n _=>some (.i n lim,[])
   | some (.slice _),.ol _ _ n _=>some (.i n lim,[])
   | some (.slice _),.d (.ed n _)=>some (.i n lim,[])
   | some (.slice _),.o (.ed n _)=>some (.i n lim,[])
   | some (.slice _),.v (.slice none 0 0)=>some (.k 0,[])
   | _,_=>none)
  | _,_=>none)
 | _=>none
def It.np:It->Bool
 | .i _ _=>true
 | .k _=>true
 | .v _=>true
 | .b _=>true
 | .d _=>true
 | .o _=>true
 | .fc _ _=>true
 | _=>false
def unO:It->It
 | .o D=>.d D
 | i=>i
def toO:It->It
 | .d D=>.o D
 | i=>i
def toOV(v:V1):V1:=⟨v.g,v.l.map toO⟩
def frzL(l:List It):Option (List It):=if l.all It.np then some (l.map unO) else none
def roD:Dat->It
 | .ed n f=>.ro 7 n fun i=>(f i).map fun x=>.i x.1 x.2
 | D=>.d D
def argI(m:List (Option Mb))(i:It):Option It :=
 match i with
 | .p b o=>(mb m b).bind fun x=>(cutI x.l o).bind fun r=>(frzL r.2).map .fp
 | .sl b n z=>(mb m b).bind fun x=>(cutI x.l (n*z)).bind fun r=>(frzL r.1).map fun l=>.fs 0 l n z
 | .fn _ _=>none
 | .dr _ _=>none
 | .px _ _ _ _=>none
 | .o D=>some (roD D)
 | .d D=>some (roD D)
 | .ol _ z n f=>some (.ro z n f)
 | .gp _ _=>none
 | i=>some i
def argL(m:List (Option Mb)):List It->Option (List It)
 | []=>some []
 | i::l=>match argI m i,argL m l with|some j,some r=>some (j::r)|_,_=>none
def argVs(m:List (Option Mb)):List V1->Option (List V1)
 | []=>some []
 | v::l=>match argL m v.l,argVs m l with|some x,some r=>some (⟨v.g,x⟩::r)|_,_=>none
def It.rk(n:Nat):It->Bool
 | .i _ _=>true
 | .k _=>true
 | .v _=>true
 | .b _=>true
 | .d _=>true
 | .p x _=>decide (x<n)
 | .sl x _ _=>decide (x<n)
 | .fc _ _=>true
 | _=>false
def It.rf(n:Nat):It->Bool
 | .ol _ _ _ _=>true
 | x=>It.rk n x
def resOk(n:Nat):AV->Bool
 | .one v=>v.l.all (It.rf n)
 | .tup l=>l.all fun v=>v.l.all (It.rf n)
 | _=>false
def shI(k:Nat):It->It
 | .p b o=>.p (b+k) o
 | .sl b n z=>.sl (b+k) n z
 | i=>i
def shV(k:Nat)(v:V1):V1:=⟨v.g,v.l.map (shI k)⟩
def shA(k:Nat):AV->AV
 | .one v=>.one (shV k v)
 | .tup l=>.tup (l.map (shV k))
 | a=>a
def blI:List It->List Nat
 | []=>[]
 | i::l=>match i with
  | .p b _=>if (blI l).contains b then blI l else b::blI l
  | .sl b _ _=>if (blI l).contains b then blI l else b::blI l
  | _=>blI l
def outI(bs:List Nat):It->Option It
 | .p b o=>some (.p (bs.idxOf b) o)
 | .sl b n z=>some (.sl (bs.idxOf b) n z)
 | .fp _=>none
 | .fs _ _ _ _=>none
 | .fn _ _=>none
 | .ds _=>none
 | .dr _ _=>none
 | .px _ _ _ _=>none
 | .ro _ _ _=>none
 | .gp _ _=>none
 | .o D=>some (.d D)
 | i=>some i
def outL(bs:List Nat):List It->Option (List It)
 | []=>some []
 | i::l=>match outI bs i,outL bs l with|some j,some r=>some (j::r)|_,_=>none
def outVs(bs:List Nat):List V1->Option (List V1)
 | []=>some []
 | v::l=>match outL bs v.l,outVs bs l with|some x,some r=>some (⟨v.g,x⟩::r)|_,_=>none
def outB(m:List (Option Mb)):List Nat->Option (List Mb)
 | []=>some []
 | b::l=>match (mb m b).bind (fun x=>(frzL x.l).map fun y=>(⟨x.T,y⟩:Mb)),outB m l with|some x,some r=>some (x::r)|_,_=>none
def fnA(s:St)(x:Operand):Option (FuncId×List (Nat×Nat)) :=
 match evI s x with
 | some (.v (.func (.func f) a c))=>if a.size==0&&c.size==0 then some (f,[]) else none
 | some (.fn f c)=>some (f,c)
 | _=>none
def ptrsA(s:St):List Operand->Option (List (Nat×Nat))
 | []=>some []
 | x::l=>match evI s x,ptrsA s l with|some (.p b o),some r=>some ((b,o)::r)|_,_=>none
def calleeF(c:Callee):Option (Operand ⊕ Builtin) :=
 match c with
 | .value f=>some (.inl f)
 | .builtin b=>some (.inr b)
 | _=>none
abbrev CallF:=FuncId->List V1->List Bool->Option ((AV×List Mb)×List Prop×List Bool)
def noB(n:Nat):Nat:=if n=0 then 0 else 2
def aApp(P:Program)(s:St)(t:TypeId)(x:It)(b' m z':Nat)(q:List Bool):Option (AV×St×Ob×List Bool) :=
 match P.underlying t,mb s.m b' with
 | some (.slice e),some y=>(match P.info? e,zeroT P e,cutI y.l (m*z') with
  | some i,some zs,some (new,_)=>if (i.size=z'/\(zs.map It.n).sum=z')/\0<z'/\0<m/\i.bytes<=4096/\m<=1000/\okE s e=true then
    (match x with
    | .v (.slice none 0 0)=>some (on1 (.sl s.m.length m z'),{ s with m:=s.m++[some ⟨e,new⟩],al:=noB s.al },.nil,q)
    | .sl b n z=>(match mb s.m b with
     | some w=>(match cutI w.l (n*z) with
      | some (old,_)=>if z=z'/\n+m<=1000/\w.T=e/\b≠b' then some (on1 (.sl s.m.length (n+m) z),{ s with m:=s.m.set b none++[some ⟨e,old++new⟩],al:=noB s.al },⟨[],[],[b]⟩,q) else none
      | none=>none)
     | none=>none)
    | _=>none) else none
  | _,_,_=>none)
 | _,_=>none
def aAp0(P:Program)(t:TypeId)(x:It):Option AV :=
 match P.underlying t with
 | some (.slice e)=>(match P.info? e,x with
  | some i,.sl b n z=>if i.size=z then some (on1 (.sl b n z)) else none
  | some _,.v (.slice none 0 0)=>some (on1 (.v (.slice none 0 0)))
  | _,_=>none)
 | _=>none
def apF(n:Nat)(f g:Nat->List It):Nat->List It:=fun i=>if i<n then f i else g (i-n)
def isL(T:TypeId):It->Bool
 | .ol U _ _ _=>U==T
 | .gp U _=>U==T
 | _=>false
def killA(T:TypeId)(v:AV):AV:=if v.its.any (isL T) then .any else v
def killS(T:TypeId)(s:St):St:={ s with t:=⟨s.t.n,s.t.r.mapD (killA T) s.t.dp⟩ }
def leO(T:TypeId)(z n:Nat):List It->Option (List Prop)
 | []=>some []
 | i::l=>match i,leO T z n l with
  | .ol U y k _,some r=>if U=T then (if y=z then some ((k<=n)::r) else none) else some r
  | .gp U _,some r=>if U=T then none else some r
  | _,some r=>some r
  | _,none=>none
def leOs(T:TypeId)(z n:Nat):List (Option Mb)->Option (List Prop)
 | []=>some []
 | none::l=>leOs T z n l
 | some y::l=>match leO T z n y.l,leOs T z n l with|some a,some b=>some (a++b)|_,_=>none
def aApq(P:Program)(s:St)(t:TypeId)(x:It)(T:TypeId)(z m:Nat)(g:Nat->List It):Option (It×List Prop) :=
 match P.underlying t with
 | some (.slice e)=>(match P.info? e,zeroT P e with
  | some i,some zs=>if (e=T/\i.size=z/\(zs.map It.n).sum=z)/\0<z/\i.bytes<=4096/\e≠tE then
    (match x with
    | .v (.slice none 0 0)=>some (.ol T z m g,[m<=1000])
    | .ol T' z' n f=>if T'=T/\z'=z then (leOs T z n s.m).map fun ps=>(.ol T z (n+m) (apF n f g),(n+m<=1000)::ps) else none
    | _=>none) else none
  | _,_=>none)
 | _=>none
def nrmR:It->It
 | .i z _=>.i z lim
 | .k n=>.i n lim
 | .b k=>.v (.bool k)
 | .o D=>.d D
 | i=>i
def chunk(z:Nat):Nat->List It->Option (List (List It))
 | 0,_=>some []
 | n+1,c=>match cutI c z with
  | some (a,b)=>if a.all It.np then (chunk z n b).map fun r=>a::r else none
  | none=>none
abbrev EffF:=List Int->Nat->List V1->Option (V1×Nat×List Prop)
structure Env where
 eq:List (TypeId×List Nat)
 eff:List (FuncId×EffF)
 mt:List ((TypeId×String)×Int×Nat)
 wr:List FuncId
 lt:List TypeId
def wrA(E:Env)(f:FuncId)(cap:List (Nat×Nat))(l:List V1):Bool×FuncId×List V1 :=
 match l with
 | [⟨false,[.fn g c]⟩]=>if E.wr.contains f&&cap.isEmpty then (true,g,c.map fun p=>⟨false,[.p p.1 p.2]⟩) else (false,f,l++cap.map fun p=>⟨false,[.p p.1 p.2]⟩)
 | l=>(false,f,l++cap.map fun p=>⟨false,[.p p.1 p.2]⟩)
def wrB(r:AV×List Mb):Bool:=match r.1,r.2 with | .one ⟨false,[.i _ _]⟩,[]=>true|_,_=>false
def nrmI:It->It
 | .k n=>.i n n.natAbs
 | .b k=>.v (.bool k)
 | .o D=>.d D
 | i=>i
def nrmL:List It->List It
 | []=>[]
 | i::l=>match i,l with
  | .b false,.v (.slice none 0 0)::m=>.d (.num zero)::nrmL m
  | i,l=>nrmI i::nrmL l
def nrmV(v:V1):V1:=⟨v.g,nrmL v.l⟩
def drA(l:List It):Option (List Int×Nat) :=
 match l with
 | [.ds L,.k n]=>if n=0 then some (L,0) else none
 | [.dr L k]=>some (L,k)
 | _=>none
def aEff(s:St)(g:EffF)(l:List V1):Option (AV×St×Ob) :=
 match l with
 | ⟨false,[.p b o]⟩::l'=>(match mb s.m b with
  | some m=>(match drA m.l with
   | some (L,k)=>if (o=0/\s.al≠2/\okE s m.T=true)/\(l'.all fun v=>v.l.all (It.rk 0))=true then (match g L k (l'.map nrmV) with
    | some (res,k',ps)=>if res.l.all (It.rk 0) then some (.one res,{ s with m:=s.m.set b (some ⟨m.T,[.dr L k']⟩) },⟨ps,[],[b]⟩) else none
    | none=>none) else none
   | none=>none)
  | none=>none)
 | _=>none
def asIs:List It->Option (List (Int×Nat))
 | []=>some []
 | i::l=>match asI i,asIs l with|some x,some r=>some (x::r)|_,_=>none
def pkZ(xs:List (Int×Nat))(z:Int)(n len j:Nat):Int:=((List.range len).map fun i=>((xs[i*n+j]?).getD (0,0)).1).getD z.toNat 0
def selI(l:List It)(z:Int)(n len:Nat):Option (List It) :=
 (asIs l).bind fun xs=>if len*n<=xs.length then some ((List.range n).map fun j=>.i (pkZ xs z n len j) ((xs.map (·.2)).foldl max 0)) else none
def ldX(P:Program)(t:TypeId)(l:List It)(z:Int)(n len:Nat):Option V1 :=
 match szT P t,agT P t with
 | some n',some g=>if n'=n/\(g||n==1)=true then (selI l z n len).map fun l=>⟨g,l⟩ else none
 | _,_=>none
def zeroA(P:Program)(t:TypeId):Option (List It):=((P.info? t).bind (·.zero)).bind fun | .agg cs=>toIts cs.toList|_=>none
def intsI(l:List (Int×Nat)):List It:=l.map fun x=>.i x.1 x.2
def edRs:List (List It)->Option (List (List (Int×Nat)))
 | []=>some []
 | l::r=>match asIs l,edRs r with|some x,some y=>some (x.map (fun u=>(u.1,lim))::y)|_,_=>none
def litA(e:TypeId)(z len:Nat)(rs:List (List It)):Option It :=
 if e=tE then (if z=7 then (edRs rs).map fun ys=>.d (.ed len fun i=>ys.getD i []) else none) else some (.ol e z len fun i=>(rs.getD i []).map nrmR)
def aDo(P:Program)(E:Env)(call:CallF)(o:Oper)(s:St)(q:List Bool):Option (AV×St×Ob×List Bool) :=
 match o.op with
 | .move x | .assign x=>(evA s x).map fun v=>(v,s,.nil,q)
 | .pick c x y=>match evI s c with
  | some (.b true)=>(evA s x).map fun v=>(v,s,.nil,q)
  | some (.b false)=>(evA s y).map fun v=>(v,s,.nil,q)
  | some (.v (.bool b))=>(match q with
   | true::q=>(evA s x).map fun v=>(v,s,⟨[b=true],[],[]⟩,q)
   | false::q=>(evA s y).map fun v=>(v,s,⟨[b=false],[],[]⟩,q)
   | []=>none)
  | _=>none
 | .alloc t=>if alN s=false then none else (zeroT P t).map fun z=>(on1 (.p s.m.length 0),{ s with m:=s.m++[some ⟨t,z⟩] },.nil,q)
 | .box t x=>match evV s x,szT P t with
  | some v,some n=>if alN s=true/\(v.l.map It.n).sum=n then some (on1 (.p s.m.length 0),{ s with m:=s.m++[some ⟨t,v.l⟩],al:=noB s.al },.nil,q) else none
  | _,_=>none
 | .build t ps=>match zeroT P t,evPs s ps.toList,plcs P t with
  | some z,some l,some pl=>(fills pl z l).map fun c=>(.one ⟨true,c⟩,s,.nil,q)
  | _,_,_=>none
 | .load t x=>match evI s x with
  | some (.p b o)=>(match mb s.m b with
   | some m=>(partI P t m.l o).map fun v=>(.one v,s,⟨[],[b],[]⟩,q)
   | none=>none)
  | some (.fp l)=>(partI P t l 0).map fun v=>(.one (toOV v),s,.nil,q)
  | some (.gp _ l)=>if s.al=0 then (partI P t l 0).map fun v=>(.one v,s,.nil,q) else none
  | some (.px b z n len)=>(match mb s.m b with
   | some m=>(ldX P t m.l z n len).map fun v=>(.one v,s,⟨[],[b],[]⟩,q)
   | none=>none)
  | _=>none
 | .store t x y=>match evI s x,evV s y,szT P t with
  | some (.p b o),some v,some n=>match mb s.m b with
   | some m=>match putI m.l o n v.l with
    | some c=>if (v.l.map It.n).sum==n&&stE s m.T c then some (.und,{ s with m:=s.m.set b (some ⟨m.T,c⟩) },⟨[],[],[b]⟩,q) else none
    | none=>none
   | none=>none
  | _,_,_=>none
 | .fieldAddr t x f=>match evI s x,fld P t f with
  | some (.p b o),some (k,ft)=>(match szT P ft with|some (_+1)=>some (on1 (.p b (o+k)),s,.nil,q)|_=>none)
  | some (.fp l),some (k,ft)=>(match szT P ft with|some (_+1)=>(cutI l k).map fun r=>(on1 (.fp r.2),s,.nil,q)|_=>none)
  | some (.gp T l),some (k,ft)=>(match szT P ft with|some (_+1)=>(cutI l k).map fun r=>(on1 (.gp T r.2),s,.nil,q)|_=>none)
  | _,_=>none
 | .field t x f=>match evV s x,fld P t f with
  | some v,some (k,ft)=>if v.g then (partI P ft v.l k).map fun v=>(.one v,s,.nil,q) else none
  | _,_=>none
 | .indexAddr t x ix=>match P.underlying t,evI s x,evI s ix with
  | some (.array len e),some (.p b o),some (.k i)=>(match szT P e with
   | some n=>if 0<=i/\i<len then some (on1 (.p b (o+i.toNat*n)),s,.nil,q) else none
   | none=>none)
  | some (.array len e),some (.fp l),some (.k i)=>(match szT P e with
   | some n=>if 0<=i/\i<len then (cutI l (i.toNat*n)).map fun r=>(on1 (.fp r.2),s,.nil,q) else none
   | none=>none)
  | some (.slice e),some (.sl b len z),some (.k i)=>if szT P e=some z/\0<=i/\i<len then some (on1 (.p b (i.toNat*z)),s,.nil,q) else none
  | some (.slice e),some (.sl b len z),some (.i i _)=>if szT P e=some z then some (on1 (.px b i z len),s,⟨[0<=i/\i<len],[],[]⟩,q) else none
  | some (.slice e),some (.fs _ l len z),some (.k i)=>if szT P e=some z/\0<=i/\i<len then (cutI l (i.toNat*z)).map fun r=>(on1 (.fp r.2),s,.nil,q) else none
  | some (.slice e),some (.ro z n f),some (.k i)=>if szT P e=some z then some (on1 (.fp (f i.toNat)),s,⟨[0<=i/\i<n],[],[]⟩,q) else none
  | some (.slice e),some (.ro z n f),some (.i i _)=>if szT P e=some z then some (on1 (.fp (f i.toNat)),s,⟨[0<=i/\i<n],[],[]⟩,q) else none
  | some (.slice e),some (.ol T z n f),some j=>(match asI j with
   | some (i,_)=>if szT P e=some z then some (on1 (.gp T (f i.toNat)),s,⟨[0<=i/\i<n],[],[]⟩,q) else none
   | none=>none)
  | some (.slice e),some (.d (.ed n f)),some j=>(match asI j with
   | some (i,_)=>if szT P e=some 7 then some (on1 (.gp tE (intsI (f i.toNat))),s,⟨[0<=i/\i<n],[],[]⟩,q) else none
   | none=>none)
  | some (.slice e),some (.o (.ed n f)),some j=>(match asI j with
   | some (i,_)=>if szT P e=some 7 then some (on1 (.fp (intsI (f i.toNat))),s,⟨[0<=i/\i<n],[],[]⟩,q) else none
   | none=>none)
  | _,_,_=>none
 | .index t x ix=>match P.underlying t,evV s x,evI s ix with
  | some (.array len e),some v,some (.k i)=>(match szT P e with
   | some n=>if v.g&&decide (0<=i/\i<len) then (partI P e v.l (i.toNat*n)).map fun v=>(.one v,s,.nil,q) else none
   | none=>none)
  | _,_,_=>none
 | .extract x k=>match evA s x with
  | some (.tup l)=>(l[k]?).map fun v=>(.one v,s,.nil,q)
  | _=>none
 | .binOp op t x y _=>match evV s x,evV s y with
  | some x,some y=>(binA P E.eq op t x y).map fun r=>(on1 r.1,s,⟨r.2,[],[]⟩,q)
  | _,_=>none
 | .unOp op _ x=>match op,evI s x with
  | .not,some (.v (.bool b))=>some (on1 (.v (.bool (!b))),s,.nil,q)
  | .not,some (.b b)=>some (on1 (.b (!b)),s,.nil,q)
  | .neg,some (.k n)=>(kn (0-n)).map fun i=>(on1 i,s,.nil,q)
  | .neg,some (.i z B)=>some (on1 (wr (0-z) B),s,.nil,q)
  | _,_=>none
 | .convert t t' x=>match P.underlying t,P.underlying t',evI s x with
  | some (.int .u8),some (.int .i64),some (.v (.int .u8 z))=>some (on1 (.i z 255),s,⟨[0<=z/\z<=255],[],[]⟩,q)
  | _,_,_=>none
 | .makeFunc fn first cap=>match fn,ptrsA s cap.toList with
  | .func f,some l=>if first.size==0&&!l.isEmpty then some (on1 (.fn f l),s,.nil,q) else none
  | _,_=>none
 | .buildSlice t len ps=>match P.underlying t,evPs s ps.toList with
  | some (.slice e),some l=>(match szT P e,zeroT P e with
   | some z,some zs=>if E.lt.contains e then
     (if s.al≠2/\(0<len*z/\len*z<=16777216/\len<=1000)/\(zs.map It.n).sum=z then (((fills (fun i=>some (i*z,z)) (List.replicate len zs).flatten l).bind (chunk z len)).bind (litA e z len)).map fun i=>(on1 i,s,.nil,q) else none)
    else if alN s=true/\(0<len*z/\len*z<=16777216/\len<=1000)/\(zs.map It.n).sum=z then (fills (fun i=>some (i*z,z)) (List.replicate len zs).flatten l).map fun c=>(on1 (.sl s.m.length len z),{ s with m:=s.m++[some ⟨e,c⟩] },.nil,q) else none
   | _,_=>none)
  | _,_=>none
 | .call c=>match calleeF c.callee with
  | some (.inl x)=>(match fnA s x,evVs s c.args.toList with
   | some (f,cap),some l=>(match E.eff.lookup f with
    | some g=>if (cap.isEmpty&&((P.funcs[f]?).bind (·.body)).isSome)=true then (aEff s g l).map fun r=>(r.1,r.2.1,r.2.2,q) else none
    | none=>(match (P.funcs[f]?).bind (·.body),argVs s.m (wrA E f cap l).2.2 with
    | some _,some l'=>(match call (wrA E f cap l).2.1 l' q with
     | some r=>if (!(wrA E f cap l).1||wrB r.1&&((P.funcs[(wrA E f cap l).2.1]?).bind (·.body)).isSome)&&(resOk r.1.2.length r.1.1&&r.1.2.all (fun x=>x.l.all (It.rk 0)))&&(r.1.2.isEmpty||(Nat.beq s.al 0||noFr s)) then some (shA s.m.length r.1.1,{ s with m:=s.m++r.1.2.map some,al:=if r.1.2.isEmpty then s.al else noB s.al },⟨r.2.1,[],[]⟩,r.2.2) else none
     | none=>none)
    | _,_=>none))
   | _,_=>none)
  | some (.inr b)=>(match evVs s c.args.toList with
   | some l=>(match b with
    | .append=>(match c.argTypes.toList,l with
     | [t,t'],[⟨false,[x]⟩,⟨false,[.sl b' m z']⟩]=>if t=t' then aApp P s t x b' m z' q else none
     | [t,t'],[⟨false,[x]⟩,⟨false,[.v (.slice none 0 0)]⟩]=>if t=t' then aAp0 P t x |>.map fun v=>(v,s,.nil,q) else none
     | [t,t'],[⟨false,[x]⟩,⟨false,[.ol T z m g]⟩]=>if t=t' then (aApq P s t x T z m g).map fun r=>(on1 r.1,killS T { s with al:=noB s.al },⟨r.2,[],[]⟩,q) else none
     | _,_=>none)
    | b=>(mms P b c.argTypes.toList l).map fun r=>(on1 r.1,s,⟨r.2,[],[]⟩,q))
   | none=>none)
  | none=>(match c.callee with
   | .invoke x name=>(match evI s x,c.args.size with
    | some (.fc T l),0=>(match E.mt.lookup (T,name) with
     | some (n,wd)=>if l.length=wd then some (on1 (.k n),s,.nil,q) else none
     | none=>none)
    | _,_=>none)
   | _=>none)
 | .makeInterface T x=>match P.underlying T,evV s x with
  | some (.struct _),some ⟨true,l⟩=>(asIs l).map fun xs=>(on1 (.fc T xs),s,.nil,q)
  | _,_=>none
 | .typeAssert x _ T ok=>match P.underlying T,evI s x with
  | some (.struct _),some (.fc T' l)=>if T'=T then (if ok=true then some (.tup [⟨true,intsI l⟩,⟨false,[.b true]⟩],s,.nil,q) else some (.one ⟨true,intsI l⟩,s,.nil,q))
   else if ok=true then (zeroA P T).map fun z=>(.tup [⟨true,z⟩,⟨false,[.b false]⟩],s,.nil,q) else none
  | _,_=>none
 | .slice t x lo hi mx=>match P.underlying t,evI s x,lo.bind (evI s),hi,mx with
  | some (.slice e),some (.fs o l n z),some (.k i),none,none=>if (0<=i/\i<n)/\szT P e=some z then (cutI l (i.toNat*z)).map fun r=>(on1 (.fs (o+i.toNat*z) r.2 (n-i.toNat) z),s,.nil,q) else none
  | some (.slice e),some (.ro z n f),some (.k i),none,none=>if szT P e=some z then some (on1 (.ro z (n-i.toNat) fun j=>f (i.toNat+j)),s,⟨[0<=i/\i<=n],[],[]⟩,q) else none
  | some (.slice e),some (.ro z n f),some (.i i _),none,none=>if szT P e=some z then some (on1 (.ro z (n-i.toNat) fun j=>f (i.toNat+j)),s,⟨[0<=i/\i<=n],[],[]⟩,q) else none
  | some (.slice e),some (.ro z n f),none,some h,none=>(match lo,(evI s h).bind asI with
   | none,some (i,_)=>if szT P e=some z then some (on1 (.ro z i.toNat f),s,⟨[0<=i/\i<=n],[],[]⟩,q) else none
   | _,_=>none)
  | _,_,_,_,_=>none
 | _=>none
def gdA(ops:Array Oper)(o:Oper)(s:St)(q:List Bool):Option (Bool×St×List Prop×List Bool) :=
 match o.guard with
 | none=>some (true,s,[],q)
 | some (j,want)=>match (ops[j]?).bind (·.dst) with
  | none=>none
  | some d=>match s.t.get d with
   | some .und=>some (false,s,[],q)
   | some (.one ⟨false,[.b k]⟩)=>some (k==want,s,[],q)
   | some (.one ⟨false,[.v (.bool b)]⟩)=>match q with
    | k::q=>some (k==want,{ s with t:=s.t.set d (on1 (.b k)) },[b=k],q)
    | []=>none
   | _=>none
def newT(ops:Array Oper):Nat->Operand->Bool
 | n+1,.tmp d=>match ops.toList.find? (fun o=>o.dst==some d) with
  | some o=>(match o.op with
   | .alloc _ | .buildSlice _ _ _=>true
   | .indexAddr _ x _ | .fieldAddr _ x _ | .move x | .assign x=>newT ops n x
   | _=>false)
  | none=>false
 | _,_=>false
def rootT(ops:Array Oper):Nat->Operand->Option Nat
 | n+1,.tmp d=>match ops.toList.find? (fun o=>o.dst==some d) with
  | some o=>(match o.op with
   | .indexAddr _ x _ | .fieldAddr _ x _ | .move x | .assign x=>rootT ops n x
   | _=>some d)
  | none=>some d
 | _,_=>none
def qkA(ops:Array Oper)(o:Oper):Bool:=match o.op with
 | .load _ x=>newT ops 4 x||(match rootT ops 4 x with
  | some d=>(ops.toList.take (ops.size-1)).any fun k=>(match k.op with | .store _ y _=>rootT ops 4 y==some d|_=>false)
  | none=>false)
 | _=>false
def tlOp(o:Oper):Bool:=match o.op with | .store _ _ _=>true | .fieldAddr _ _ _=>true|_=>false
def cutN(ops:Array Oper):Nat:=((List.range ops.size).find? fun n=>(ops.toList.drop n).all tlOp&&tailB ops n).getD ops.size
def qkB(ops:Array Oper)(o:Oper):Bool:=match o.op with
 | .load _ x=>newT ops 4 x||(match rootT ops 4 x with
  | some d=>(ops.toList.take (cutN ops)).any fun k=>(match k.op with | .store _ y _=>rootT ops 4 y==some d|_=>false)
  | none=>false)
 | _=>false
def aOps(P:Program)(E:Env)(call:CallF)(ops:Array Oper)(qk:Oper->Bool):List Oper->St->List Bool->Option (St×Ob×List Bool)
 | [],s,q=>some (s,.nil,q)
 | o::l,s,q=>match gdA ops o s q with
  | none=>none
  | some (false,s,ps,q)=>if qk o then none else (aOps P E call ops qk l (put s o.dst .und) q).map fun r=>(r.1,Ob.cat ⟨ps,[],[]⟩ r.2.1,r.2.2)
  | some (true,s,ps,q)=>match aDo P E call o s q with
   | none=>none
   | some (v,s,ob,q)=>(aOps P E call ops qk l (put s o.dst v) q).map fun r=>(r.1,Ob.cat ⟨ps++ob.ps,if qk o then [] else ob.ld,ob.st⟩ r.2.1,r.2.2)
def noQ:Oper->Bool:=fun _=>false
def tailS(ops:Array Oper):Bool:=(match ops.toList.drop (ops.size-1) with | [o]=>(match o.op with | .store _ _ _=>true|_=>false)|_=>false)&&tailB ops (ops.size-1)
def isTl:List Oper->Bool
 | []=>true
 | [o]=>(match o.op with | .store _ _ _=>true|_=>false)
 | _=>false
def lastN(ops:Array Oper):Nat:=if tailS ops then ops.size-1 else ops.size
def ordGo(ops:Array Oper):List Nat->List Nat->List Nat
 | [],pend=>pend
 | i::l,pend=>match ops[i]? with
  | some o=>if fkind o==1 then ordGo ops l (pend++[i]) else (pend.filter fun k=>reach ops 5 i k)++i::ordGo ops l (pend.filter fun k=>!reach ops 5 i k)
  | none=>ordGo ops l pend
def ordA(ops:Array Oper):List Nat:=ordGo ops (List.range ops.size) []
def ordH(ops:Array Oper):List Nat :=
 let e:=(List.range ops.size).filter fun i=>match ops[i]? with
  | some o=>fkind o==0&&(qkA ops o||(List.range ops.size).any fun j=>(match ops[j]? with|some x=>qkA ops x&&reach ops 5 j i|none=>false))
  | none=>false
 e++(List.range ops.size).filter fun i=>!e.contains i
def ordX(ops:Array Oper):List Nat:=if ordB (qkA ops) ops (lastN ops) (ordA ops) then ordA ops else ordH ops
inductive Ex where
 | nm
 | rt
 | ex (id:Nat)
def aLoop(f:St->List Bool->Option (Ex×St×List Prop×List Bool)):Nat->St->List Bool->Option (Ex×St×List Prop×List Bool)
 | 0,_,_=>none
 | n+1,s,q=>match f s q with
  | none=>none
  | some (.nm,s,ps,q)=>(aLoop f n s q).map fun r=>(r.1,r.2.1,ps++r.2.2.1,r.2.2.2)
  | r=>r
def aCode(P:Program)(E:Env)(call:CallF):Code->St->List Bool->Option (Ex×St×List Prop×List Bool)
 | .skip,s,q=>some (.nm,s,[],q)
 | .label _,s,q=>some (.nm,s,[],q)
 | .ret,s,q=>some (.rt,s,[],q)
 | .exit k,s,q=>some (.ex k,s,[],q)
 | .seq a b,s,q=>match aCode P E call a s q with
  | none=>none
  | some (.nm,s,ps,q)=>(aCode P E call b s q).map fun r=>(r.1,r.2.1,ps++r.2.2.1,r.2.2.2)
  | r=>r
 | .cond c x y,s,q=>match evI s c,q with
  | some (.b true),q=>aCode P E call x s q
  | some (.b false),q=>aCode P E call y s q
  | some (.v (.bool b)),true::q=>(aCode P E call x s q).map fun r=>(r.1,r.2.1,(b=true)::r.2.2.1,r.2.2.2)
  | some (.v (.bool b)),false::q=>(aCode P E call y s q).map fun r=>(r.1,r.2.1,(b=false)::r.2.2.1,r.2.2.2)
  | _,_=>none
 | .loop c,s,q=>aLoop (fun s q=>aCode P E call c s q) 100 s q
 | .block id c,s,q=>(aCode P E call c s q).map fun r=>((match r.1 with | .ex k=>if k=id then .nm else .ex k|e=>e),r.2)
 | .region _ ops d,s,q=>match d with
  | false=>(aOps P E call ops noQ ops.toList { s with al:=0 } q).map fun r=>(.nm,r.1,r.2.1.ps,r.2.2)
  | true=>if P.follows .mixedOrders then
    (if floatB ops && !(ops.toList.any (qkB ops)) then (if (ops.toList.drop (cutN ops)).all tlOp && tailB ops (cutN ops) then (match aOps P E call ops noQ (ops.toList.take (cutN ops)) { s with al := 1 } q with
     | some (s',ob,q)=>if ob.ld.all (fun b=>(mb s.m b).isSome&&!(ob.st.contains b)) then (aOps P E call ops noQ (ops.toList.drop (cutN ops)) s' q).map fun r=>(.nm,r.1,ob.ps++r.2.1.ps,r.2.2) else none
     | none=>none)
    else (match aOps P E call ops noQ ops.toList { s with al:=1 } q with
     | some (s',ob,q)=>if ob.ld.all (fun b=>(mb s.m b).isSome&&!(ob.st.contains b)) then some (.nm,s',ob.ps,q) else none
     | none=>none))
    else if ordB (qkA ops) ops (lastN ops) (ordX ops)&&isTl (pickA ops ((ordX ops).drop (lastN ops))) then (match aOps P E call ops (qkA ops) (pickA ops ((ordX ops).take (lastN ops))) { s with al:=1 } q with
     | some (s',ob,q)=>if ob.ld.all (fun b=>(mb s.m b).isSome&&!(ob.st.contains b)) then (aOps P E call ops noQ (pickA ops ((ordX ops).drop (lastN ops))) s' q).map fun r=>(.nm,r.1,ob.ps++r.2.1.ps,r.2.2) else none
     | none=>none) else none) else none
 | _,_,_=>none
def aRes(P:Program)(s:St):ResultVar->Option V1
 | .tmp t=>match s.t.get t with|some (.one v)=>some v|_=>none
 | .cell a T=>match s.t.get a with
  | some (.one ⟨false,[.p b o]⟩)=>(mb s.m b).bind fun m=>partI P T m.l o
  | _=>none
def aRess(P:Program)(s:St):List ResultVar->Option (List V1)
 | []=>some []
 | r::l=>match aRes P s r,aRess P s l with|some v,some w=>some (v::w)|_,_=>none
def aFun(P:Program)(E:Env)(K:FuncId->Option (List V1->Option (AV×List Prop))):Nat->CallF
 | 0=>fun _ _ _=>none
 | n+1=>fun f args q=>match K f with
  | some r=>(r (args.map nrmV)).map fun r=>((r.1,[]),r.2,q)
  | none=>match P.funcs[f]? with
   | none=>none
   | some fn=>match fn.body with
    | none=>none
    | some c=>match aCode P E (aFun P E K n) c ⟨⟨args.length+(fn.ntmps-args.length),(Tr.full 12).fill 0 (args.map fun v=>.one (toOV v))⟩,[],0⟩ q with
     | none=>none
     | some (e,s,ps,q)=>match e with
      | .ex _=>none
      | _=>match aRess P s fn.results.toList with
       | some l=>(match outVs (blI (l.map V1.l).flatten) l,outB s.m (blI (l.map V1.l).flatten) with
        | some l,some ms=>(match l with
         | [v]=>some ((.one v,ms),ps,q)
         | l=>some ((.tup l,ms),ps,q))
        | _,_=>none)
       | none=>none
def laxI:It->It
 | .i z _=>.i z lim
 | .k n=>.i n lim
 | .b k=>.v (.bool k)
 | i=>i
def laxL:List It->List It
 | []=>[]
 | i::l=>match i,l with
  | .b false,.v (.slice none 0 0)::m=>.d (.num zero)::laxL m
  | i,l=>laxI i::laxL l
def laxV(v:V1):V1:=⟨v.g,laxL v.l⟩
def laxA:AV->AV
 | .one v=>.one (laxV v)
 | .tup l=>.tup (l.map laxV)
 | a=>a

section
section
variable {P:Program} {ops:Array Oper} {S:World->Prop} {Q:Act->World->Prop} {o:Oper} {l:List Oper} {a:Act} {own:List Nat} {F:World->Prop}
theorem F_run{v:Value}(hw:Region.wanted o (yielded ops a.tmps)=true)(hr:∀w,S w->(execOp a.eval o).run P w=.ok (.value v) w)(h:WpF P ops S Q l (a.put o.dst v) own F) :
  WpF P ops S Q (o::l) a own F:=.pure v (.inl ⟨hw,hr⟩) h
theorem F_put{a':Act}(h:WpF P ops S Q l a' own F)(ha:a=a':=by (simp only[Act.put,List.setIfInBounds_toArray,List.set_cons_zero,List.set_cons_succ];rfl)):WpF P ops S Q l a own F:=by subst ha;exact h
theorem F_s{a':Act}(h:WpF P ops S Q l a' own F)(hw:Region.wanted o (yielded ops a.tmps)=false:=by rfl)(ha:a.put o.dst undef=a':=by (simp only[Act.put,List.setIfInBounds_toArray,List.set_cons_zero,List.set_cons_succ];rfl)):WpF P ops S Q (o::l) a own F:=by
 subst ha
 exact .pure undef (.inr ⟨hw,rfl⟩) h
theorem F_r{a':Act}{v:Value}(h:WpF P ops S Q l a' own F)(hk:fkind o=0:=by rfl)(hw:Region.wanted o (yielded ops a.tmps)=true:=by rfl)(hr:∀w,S w->(execOp a.eval o).run P w=.ok (.value v) w:=by (intro W hW;(try dsimp only at hW);go_simp;try with_reducible rfl))(ha:a.put o.dst v=a':=by (simp only[Act.put,List.setIfInBounds_toArray,List.set_cons_zero,List.set_cons_succ];rfl)) :
  WpF P ops S Q (o::l) a own F:=by
 subst ha
 exact .pure v (.inl ⟨hw,hr⟩) h
theorem F_block(k:Nat)(obj:Obj)(T:Nat->World->Prop)(hk:fkind o=1)(hw:Region.wanted o (yielded ops a.tmps)=true)(hp:∀g,shp o g=.slice (some ⟨g,0,none⟩) k k)
  (hr:∀w,S w->(execOp a.eval o).run P w=.ok (.value (.slice (some ⟨w.heap.size,0,none⟩) k k)) (w.alloc obj)) (hT:∀g w,F w->w.heap[g]? = some obj->T g w)
  (h:∀g,WpF P ops S Q l (a.put o.dst (.slice (some ⟨g,0,none⟩) k k)) own (fun w=>F w/\T g w)):WpF P ops S Q (o::l) a own F :=
 .flo hk hw obj (fun w hs=>by rw[hp];exact hr w hs) fun g hg _=>by rw[hp];exact (h g).weak (fun w h=>⟨h.1,hT g w h.1 h.2⟩) (fun x hx=>List.mem_cons_of_mem _ hx)
theorem Gives.imp{w:World}{R R':Value->World->Prop}(h:Gives P o a w R)(hi:∀v w',R v w'->R' v w'):Gives P o a w R':=by
 unfold Gives at *
 generalize (execOp a.eval o).run P w=r at *
 cases r with
 | ok n w' =>
  cases n<;>simp only[givesU] at h ⊢
  ·exact hi _ _ h
  ·exact hi _ _ h
  ·exact h.mono fun e w'' ⟨v,he,hr⟩=>⟨v,he,hi _ _ hr⟩
 | halt x w'=>simp only[givesU] at h
theorem F_call{v:Value}(hk:fkind o=2)(hw:Region.wanted o (yielded ops a.tmps)=true)
  (hg:∀w,F w->Gives P o a w (fun u w'=>u=v/\Below w.heap.size w w')) (h:WpF P ops S Q l (a.put o.dst v) own F):WpF P ops S Q (o::l) a own F:=by
 refine .eff hk hw Unit (fun _=>v) (fun _ _=>True) (fun _ _ _ h _=>h) (fun w hf=>?_) (fun t ht=>?_)
 ·have := hg w hf
  unfold Gives at *
  generalize (execOp a.eval o).run P w=r at *
  cases r with
  | ok n w' =>
   cases n<;>simp only[givesU] at this ⊢
   ·exact⟨(),this.1,this.2,trivial⟩
   ·exact⟨(),this.1,this.2,trivial⟩
   ·exact this.mono fun e w'' ⟨v,he,hr⟩=>⟨v,he,(),hr.1,hr.2,trivial⟩
  | halt x w'=>simp only[givesU] at this
 ·have e : (fun w => F w /\ True) = F := by funext w; simp
  rw[e]
  exact h
theorem F_callE{I:Type}(sh:I->Value)(T:I->World->Prop)(hm:∀t,FMono (T t))(hk:fkind o=2)(hw:Region.wanted o (yielded ops a.tmps)=true)
  (hg:∀w,F w->Gives P o a w (fun v w'=>∃t,v=sh t/\Below w.heap.size w w'/\T t w'))
  (h:∀t,(∃w,F w/\T t w)->WpF P ops S Q l (a.put o.dst (sh t)) own (fun w=>F w/\T t w)):WpF P ops S Q (o::l) a own F :=
 .eff hk hw I sh T hm hg h
theorem F_store(T:World->Prop)(hm:FMono T)(hs:∀w,T w->S w)(hk:fkind o=3)(hw:Region.wanted o (yielded ops a.tmps)=true)
  (hg:∀w,F w->Gives P o a w (fun v w'=>v=undef/\w.heap.size<=w'.heap.size/\T w'))
  (h:WpF P ops S Q l (a.put o.dst undef) own (fun w=>T w/\∀g∈own,g<w.heap.size)):WpF P ops S Q (o::l) a own F :=
 .sto hk hw Unit (fun _=>undef) (fun _=>T) (fun _=>hm) (fun _=>hs) (fun w hf=>(hg w hf).imp fun _ _ h=>⟨(),h⟩) fun _ _=>h
theorem gives_enter{w:World}{f:FuncId}{args:Array Value}{R:Value->World->Prop}(hx:(execOp a.eval o).run P w=.ok (.enter f args) w)
  (h:Calls P f args w (fun e w'=>∃v,e=.returned v/\R v w')):Gives P o a w R:=by
 unfold Gives;rw[hx];exact h
end
theorem wpList_of_F{P:Program}{ops:Array Oper}{S:World->Prop}{Q:Exit->Act->World->Prop}:∀ {l:List Oper} {a:Act} {own:List Nat} {F:World->Prop} {w:World},InvF S own F->F w->WpF P ops S (fun a w=>Q .normal a w) l a own F->wpList P ops Q l a w
 | [],_,_,_,w,_,hw,h=>h w hw
 | o::l,a,own,F,w,hi,hw,h=>by
  unfold wpList
  cases h with
  | pure v hy h =>
   rcases hy with⟨h1,h2⟩|⟨h1,rfl⟩
   ·rw [if_pos h1]
    refine .inl ?_
    unfold Oper.wp
    rw[h2 w (hi.held w hw)]
    exact wpList_of_F hi hw h
   ·rw [if_neg (by rw [h1]; exact Bool.false_ne_true)]
    exact wpList_of_F hi hw h
  | flo hk hwant obj hr h =>
   rw[if_pos hwant]
   refine .inl ?_
   unfold Oper.wp
   rw[hr w (hi.held w hw)]
   have hs:∃w':World,F w'/\w'.heap[w.heap.size]? = some obj:=⟨{ w with heap:=w.heap.push obj },hi.mono _ _ hw (below_push w obj),by simp⟩
   exact wpList_of_F (hi.flo obj _ hs) ⟨hi.mono _ _ hw (below_push w obj),by simp⟩ (h _ (fun hx=>Nat.lt_irrefl _ (hi.own w hw _ hx)) hs)
  | eff hk hwant I sh T hm' hg h =>
   rw[if_pos hwant]
   refine .inl ((hg w hw).wp ?_)
   rintro v w' ⟨t,rfl,hb,ht⟩
   have hs:∃w,F w/\T t w:=⟨w',hi.mono _ _ hw hb,ht⟩
   exact wpList_of_F (hi.eff (hm' t) hs) ⟨hi.mono _ _ hw hb,ht⟩ (h t hs)
  | sto hk hwant I sh T hm' hs hg h =>
   rw[if_pos hwant]
   refine .inl ((hg w hw).wp ?_)
   rintro v w' ⟨t,rfl,hb,ht⟩
   have hx:T t w'/\∀g∈own,g<w'.heap.size:=⟨ht,fun g hg=>Nat.lt_of_lt_of_le (hi.own w hw g hg) hb⟩
   exact wpList_of_F (InvF.sto (hm' t) (hs t) ⟨w',hx⟩) hx (h t ⟨w',hx⟩)
  | mu hk hwant B hB I sh T hm' hs hg h =>
   rw[if_pos hwant]
   refine .inl ((hg w hw).wp ?_)
   rintro v w' ⟨t,rfl,hb,ht⟩
   have hx:T t w'/\∀g∈own,g<w'.heap.size:=⟨ht,fun g hg=>Nat.lt_of_lt_of_le (hi.own w hw g hg) hb.1⟩
   exact wpList_of_F (InvF.sto (hm' t) (hs t) ⟨w',hx⟩) hx (h t ⟨w',hx⟩)
theorem wp_region_FCs{P:Program}{id:Nat}{l:List Oper}{Q:Exit->Act->World->Prop}{a:Act}{w:World}(C:World->Prop)(hC:C w)
  (hmono:∀W W',C W->Below w.heap.size w W->Below W.heap.size W W'->C W')
  (h:WpF P l.toArray (fun W=>Below w.heap.size w W/\C W) (fun a w=>Q .normal a w) l a (List.range w.heap.size) (fun W=>Below w.heap.size w W/\C W)):(Code.region id l.toArray false).wp P Q a w :=
 wp_region_lit (wpList_of_F ⟨fun W W' h hb=>⟨h.1.trans (hb.mono h.1.size),hmono W W' h.2 h.1 hb⟩,fun _ h=>h,fun W h g hg=>Nat.lt_of_lt_of_le (List.mem_range.1 hg) h.1.size,⟨w,Below.refl _ _,hC⟩⟩ ⟨Below.refl _ _,hC⟩ h)
theorem F_callN{P:Program}{ops:Array Oper}{S:World->Prop}{Q:Act->World->Prop}{o:Oper}{l:List Oper}{a:Act}{own:List Nat}{F:World->Prop}(w0:World)(x:Nm)(hk:fkind o=2)(hw:Region.wanted o (yielded ops a.tmps)=true)
  (hg:∀w,F w->Gives P o a w (fun v w'=>∃n p l c,v=.agg #[.bool n,.slice p l c]/\NR w' n p l c x/\New w0 p/\Ext w w'))
  (h:∀n p l' c,New w0 p->WpF P ops S Q l (a.put o.dst (.agg #[.bool n,.slice p l' c])) own (fun w=>F w/\NR w n p l' c x)):WpF P ops S Q (o::l) a own F:=by
 refine .eff hk hw (Bool×Option Addr×Nat×Nat) (fun t=>.agg #[.bool t.1,.slice t.2.1 t.2.2.1 t.2.2.2]) (fun t w=>New w0 t.2.1/\NR w t.1 t.2.1 t.2.2.1 t.2.2.2 x) (fun t w w' h hb=>⟨h.1,h.2.ext hb⟩) (fun w hf=>?_) ?_
 ·refine (hg w hf).imp ?_
  rintro v w' ⟨n,p,l,c,rfl,h1,h2,h3⟩
  exact⟨(n,p,l,c),rfl,h3,h2,h1⟩
 ·rintro ⟨n, p, l', c⟩ ⟨w1, hf, hn, hr⟩
  have e:(fun w=>F w/\New w0 p/\NR w n p l' c x)=(fun w=>F w/\NR w n p l' c x):=by
   funext w;exact propext ⟨fun ⟨a,_,b⟩=>⟨a,b⟩,fun ⟨a,b⟩=>⟨a,hn,b⟩⟩
  have:=h n p l' c hn
  rw[<- e] at this
  exact this
theorem ret_bool{a b:Bool}(h:a=b):Ending.returned (.bool a)=.returned (.bool b):=by rw[h]
theorem ret_int{k:IntKind}{a b:Int}(h:a=b):Ending.returned (.int k a)=.returned (.int k b):=by rw[h]
def Cell(w:World)(b o:Nat)(v:Value):Prop:=b<w.heap.size/\w.cell? ⟨b,o,none⟩=some v
theorem Cell.mono(b o:Nat)(v:Value):FMono (fun w=>Cell w b o v):=fun w w' h hb =>
 ⟨Nat.lt_of_lt_of_le h.1 hb.size,by rw[hb.cell (p:=⟨b,o,none⟩) h.1];exact h.2⟩
theorem FMono.ext(w0:World):FMono (fun w=>Ext w0 w):=fun _ _ h hb=>Ext.step h hb
end
end Go.Proofs.YtghemgdfmldoeaaGreat
