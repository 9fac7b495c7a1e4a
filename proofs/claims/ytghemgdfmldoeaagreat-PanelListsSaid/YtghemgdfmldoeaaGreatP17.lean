import Derived.Test.YtghemgdfmldoeaaGreatP16
import Derived.OrdersIn
import Derived.RangeFuncNested
import Derived.RangeFuncBound
import Derived.RangeFuncCalls
import Derived.RangeFuncLeaves
import Derived.OwnWalkIn
import Derived.TacticsInMore
import Derived.LoopNIn
import Derived.LoopIn
import Derived.Shelf.Abstract
import Derived.Shelf.RegionOpen
set_option linter.unusedVariables false
set_option linter.unusedSimpArgs false
namespace Go.Proofs.YtghemgdfmldoeaaGreat
open Go.RowKit
set_option maxHeartbeats 2000000
set_option maxRecDepth 100000
section
attribute [local go_sem] aL dz
theorem a6t{x y:Int}(hx:small x=true)(hy:small y=true)(hs:small (x-y)=true):s7 (ai x) (ai y)=(ai (x-y),true):=by
 unfold s7 fit;rw[ic hx,ic hy,fj,fj,hs];rfl
theorem Ix{x y:Int}(hx:small x=true)(hy:small y=true)(hs:small (x*y)=true):jE (ai x) (ai y)=(ai (x*y),true) :=
 Qg (ic hx) (ic hy) (by rw[fj,fj]) hs
theorem a1k(n:Int)(w:World)(h : -9223372036854775808<=n/\n<=9223372036854775807) :
  Calls Tryz.prog 251 #[.int .i64 n] w (kJ w (ai n)):=by
 go_enter Tryz.func251,Tryz.ntmps251;go_wp2_with fail;refine (CN n _ h.1 h.2).mono ?_;rintro e w1 ⟨n1,p1,l1,c1,rfl,hnr,hnew,hx⟩;have hx0:ac w w1:=ac.step ag hx;obtain⟨_,_,_,_⟩:=vM hx w.heap.size;go_wp2_with fail;refine bodyPost_ret (v:=.agg #[.bool n1,.slice p1 l1 c1]) (by simp[results,Tryz.results251,go_sem, *]) rfl ?_;exact⟨n1,p1,l1,c1,rfl,(by repeat (first|assumption|refine NR.set ?_ (by assumption) _ (by first|(simp;done)|(simp;omega)|omega) _|refine NR.alloc ?_ _)),hnew.mono (by simp),ag⟩
theorem a1j(x y:Int)(na nb:Bool)(pa pb:Option Addr)(la ca lb cb:Nat)(w:World)(ha:NR w na pa la ca (ai x))(hb:NR w nb pb lb cb (ai y))(hx:small x=true)(hy:small y=true)(z:Int)(hz:x*y=z)(hs:small z=true) :
  Calls Tryz.prog 253 #[.agg #[.bool na,.slice pa la ca],.agg #[.bool nb,.slice pb lb cb]] w (kJ w (ai z)):=by
 subst hz;have MP:=Lib.hid (Ix hx hy hs);clear hx hy hs;go_enter Tryz.func253,Tryz.ntmps253;go_wp2_with fail;refine (CJ (ai x) (ai y) _ _ _ _ _ _ _ _ _ (ha.ext ag) (hb.ext ag)).mono ?_;rintro e w1 ⟨n1,p1,l1,c1,rfl,hnr,hnew,hx⟩;rw[MP.out] at hnr ⊢;have hx0:ac w w1:=ac.step ag hx;obtain⟨_,⟨_,_,_⟩,⟨_,_,_⟩,_,_,_⟩:=cM hx w.heap.size;go_wp2_with fail;refine bodyPost_ret (v:=.agg #[.bool n1,.slice p1 l1 c1]) (by simp[results,Tryz.results253,go_sem, *]) rfl ?_
 exact⟨n1,p1,l1,c1,rfl,(by repeat (first|assumption|refine NR.set ?_ (by assumption) _ (by first|(simp;done)|(simp;omega)|omega) _|refine NR.alloc ?_ _)),hnew.mono (by simp;omega),ag⟩
end
section
def IC(ops:Array Oper):Bool:=ops.toList.all λo=>match o.op with | .defer _=>false|_=>true
section
variable {P:Program} {ops:Array Oper} {S:World->Prop}
theorem a1S(h:IC ops=true){i:Nat}{o:Oper}(ho:ops[i]? = some o):∀c,o.op ≠ .defer c:=by
 intro c e;have hm:o∈ops.toList:=by
  obtain⟨hlt,rfl⟩:=Array.getElem?_eq_some_iff.1 ho;simp
 have:=List.all_eq_true.1 h o hm;simp[e] at this
theorem aL.wpIn{o:Oper}{a:Act}{w:World}{R:Value->World->Prop}{K:Act->World->Prop}{Q:Exit->Act->World->Prop}{r m:Nat}
  (h:aL P o a w R) (hnd:∀c,o.op ≠ .defer c) (hk:∀v w',R v w'->K (a.put o.dst v) w'):o.wpIn (Fence.wide.inRound r) m P a w K Q:=by
 refine⟨λ_ _=>trivial,?_⟩;rw[Oper.semAt_eq _ _ _ hnd];unfold aL at h;generalize (execOp a.eval o).run P w=x at *;cases x with|ok n w' =>
  cases n<;>simp only[dz] at h<;>simp only[Oper.uponIn]
  case value u=>exact hk _ _ h
  case skip=>exact hk _ _ h
  case enter f args =>
   refine⟨λhd=>by simp[Fence.wide] at hd,?_⟩;exact (CallsIn.inRound r (callsIn_wide.2 h)).mono λe w'' ⟨v,he,hr⟩=>by subst he;exact hk _ _ hr|halt x w'=>simp only[dz] at h
theorem a7a{Q:Exit->Act->World->Prop}{r m:Nat}(hB:fN ops=true)(hD:IC ops=true):∀(n:Nat) (zs:List (Nat×Oper)) (listed:Array Bool) (a:Act) (own:List Nat) (F:World->Prop) (w:World),zs.length=n->ru ops listed zs->Closed ops listed ->
  bF S own F->F w->aG P ops S (λa w=>Q .normal a w) (zs.map (·.2)) a own F->wpAnyIn (Fence.wide.inRound r) m P .any ops Q n listed a w:=by
 have hB':=hB;simp only[fN,Bool.and_eq_true,List.all_eq_true,List.mem_range,decide_eq_true_eq] at hB';obtain⟨hsel,hall⟩:=hB';intro n;induction n with|zero =>
  intro zs listed a own F w hn hl hc hi hw h;have:zs=[]:=List.eq_nil_of_length_eq_zero hn;subst this;refine⟨?_,h w hw⟩;rw[List.eq_nil_iff_forall_not_mem];intro i hr;have h1:=mem_ready.1 hr;obtain⟨hu,o,ho,_⟩:=h1;have:=(hl.mem i (Array.getElem?_eq_some_iff.1 ho).1).1 hu;simp at this|succ n ih =>
  intro zs listed a own F w hn hl hc hi hw h;have hget (i:Nat) (hlt:i<ops.size) (hu:¬listed.getD i true=false):listed.getD i false=true:=by
   have hlt':i<listed.size:=by rw[hl.size];exact hlt
   simp[hlt'] at hu ⊢;exact hu
  refine⟨λh0=>?_,λi hr=>?_⟩
  ·exfalso;obtain⟨⟨i,o⟩,rest,rfl⟩:∃z rest,zs=z::rest:=by
    cases zs with|nil=>simp at hn|cons z rest=>exact⟨z,rest,rfl⟩
   have ho:=hl.here (i,o) (by simp);have hlt:i<ops.size:=(Array.getElem?_eq_some_iff.1 ho).1;have hr:i∈Region.ready .any ops listed:=by
    refine mem_ready.2 ⟨(hl.mem i hlt).2 (by simp),o,ho,λe he hb=>?_⟩;have hd:e.on∈iU ops i:=(vT ho).2 ⟨e,he,hb,rfl⟩;have hei:=(hall i hlt).1 _ hd;refine hget _ (by omega) λhu=>?_
    have hm:=(hl.mem e.on (by omega)).1 hu;simp only[List.map_cons,List.mem_cons] at hm;rcases hm with hm|hm
    ·omega
    ·obtain ⟨p, hp, he'⟩ := List.mem_map.1 hm;have:=(List.pairwise_cons.1 hl.sorted).1 p hp;simp at this;omega
   rw[h0] at hr;cases hr
  ·obtain ⟨hu, o, ho, _⟩ := mem_ready.1 hr;have hlt:i<ops.size:=(Array.getElem?_eq_some_iff.1 ho).1;have hm:=(hl.mem i hlt).1 hu;obtain⟨⟨i',o'⟩,hp,hei⟩:=List.mem_map.1 hm;simp only at hei;subst hei;have ho':=hl.here _ hp;simp only at ho';rw[ho] at ho';simp only[Option.some.injEq] at ho';subst ho';obtain⟨pre,post,rfl⟩:=List.append_of_mem hp;have hpre:∀k∈pre.map (·.2),Apart ops k o/\Before k o:=by
    intro k hk;obtain⟨⟨j,k'⟩,hj,rfl⟩:=List.mem_map.1 hk;have hji:j<i':=((List.pairwise_append.1 hl.sorted).2.2) _ hj (i',o) (List.mem_cons_self ..);have hjk:=hl.here (j,k') (by simp[hj]);simp only at hjk;have hju:listed.getD j true=false:=(hl.mem j (by omega)).2 (by simp only[List.map_append,List.mem_append,List.mem_map];exact .inl ⟨_,hj,rfl⟩);have hno (f:Nat):eX ops f i' j=false:=by
     cases hx:eX ops f i' j with|false=>rfl|true =>
      have h1:=wJ hc f i' j (wK hr) hx;have hlt':j<listed.size:=by rw[hl.size];omega
      simp[hlt'] at h1 hju;rw[h1] at hju;cases hju
    have hpair:=(hall i' hlt).2 j hji;simp only[uB,ho,hjk,hno,Bool.or_false,Bool.false_or,Bool.and_eq_true] at hpair;obtain⟨hbe,hap⟩:=hpair;obtain⟨a1,a2,a3⟩:=Oper.apart_spec hap;refine⟨⟨a1,a3,a2,λcs b=>Region.noSelect_spec hsel j k' cs b hjk,λcs b=>Region.noSelect_spec hsel i' o cs b ho⟩,?_⟩;simp only[qb,Bool.or_eq_true,beq_iff_eq,Bool.and_eq_true,bne_iff_ne] at hbe;rcases hbe with (hbe|hbe)|hbe
    ·exact .inl hbe
    ·exact .inr (.inl hbe)
    ·exact .inr (.inr hbe)
   have hst:=Dy (post:=post.map (·.2)) hpre hi (by simpa using h);have hlen:(pre++post).length=n:=by simp at hn ⊢;omega
   have next {a':Act} {own':List Nat} {F':World->Prop} {w':World} (hi':bF S own' F') (hw':F' w') (h':aG P ops S (λa w=>Q .normal a w) (pre.map (·.2)++post.map (·.2)) a' own' F'):wpAnyIn (Fence.wide.inRound r) m P .any ops Q n (listed.setIfInBounds i' true) a' w' :=
    ih (pre++post) _ a' own' F' w' hlen hl.take (hc.set hr) hi' hw' (by simpa using h')
   have hnd:∀c,o.op ≠ .defer c:=a1S hD ho;cases hst with|pure v hy h =>
    unfold wpOpIn;simp only[ho];rcases hy with⟨hwant,hv⟩|⟨hwant,rfl⟩
    ·rw [if_pos hwant];refine⟨λ_ _=>trivial,?_⟩;rw[Oper.semAt_eq _ _ _ hnd,hv w (hi.held w hw)];exact next hi hw h
    ·rw [if_neg (by rw [hwant]; exact Bool.false_ne_true)];exact⟨λ_ _=>trivial,next hi hw h⟩|flo hk hwant obj hrun h =>
    unfold wpOpIn;simp only[ho,hwant,if_true];refine⟨λ_ _=>trivial,?_⟩;rw[Oper.semAt_eq _ _ _ hnd,hrun w (hi.held w hw)];have hs:∃w':World,F w'/\w'.heap[w.heap.size]? = some obj:=⟨{ w with heap:=w.heap.push obj },hi.mono _ _ hw (kM w obj),by simp⟩;exact next (hi.flo obj _ hs) ⟨hi.mono _ _ hw (kM w obj),by simp⟩ (h _ (λhx=>Nat.lt_irrefl _ (hi.own w hw _ hx)) hs)|eff hk hwant I sh T hm' hg h =>
    unfold wpOpIn;simp only[ho,hwant,if_true];refine (hg w hw).wpIn hnd ?_;rintro v w' ⟨t,rfl,hb,ht⟩;have hs:∃w,F w/\T t w:=⟨w',hi.mono _ _ hw hb,ht⟩;exact next (hi.eff (hm' t) hs) ⟨hi.mono _ _ hw hb,ht⟩ (h t hs)|sto hk hwant I sh T hm' hs hg h =>
    unfold wpOpIn;simp only[ho,hwant,if_true];refine (hg w hw).wpIn hnd ?_;rintro v w' ⟨t,rfl,hb,ht⟩;have hx:T t w'/\∀g∈own,g<w'.heap.size:=⟨ht,λg hg=>Nat.lt_of_lt_of_le (hi.own w hw g hg) hb⟩;exact next (bF.sto (hm' t) (hs t) ⟨w',hx⟩) hx (h t ⟨w',hx⟩)|mu hk hwant B hB I sh T hm' hs hg h =>
    unfold wpOpIn;simp only[ho,hwant,if_true];refine (hg w hw).wpIn hnd ?_;rintro v w' ⟨t,rfl,hb,ht⟩;have hx:T t w'/\∀g∈own,g<w'.heap.size:=⟨ht,λg hg=>Nat.lt_of_lt_of_le (hi.own w hw g hg) hb.1⟩;exact next (bF.sto (hm' t) (hs t) ⟨w',hx⟩) hx (h t ⟨w',hx⟩)
end
theorem UK{P:Program}{id r m:Nat}{l:List Oper}{Q:Exit->Act->World->Prop}{a:Act}{w:World}(C:World->Prop)(hm:P.follows .mixedOrders=true)(hB:fN l.toArray=true)(hD:IC l.toArray=true)(hC:C w)
  (hmono:∀W W',C W->Below w.heap.size w W->Below W.heap.size W W'->C W')
  (h:aG P l.toArray (λW=>Below w.heap.size w W/\C W) (λa w=>Q .normal a w) l a (List.range w.heap.size) (λW=>Below w.heap.size w W/\C W)):(Code.region id l.toArray true).wpIn (Fence.wide.inRound r) m P Q a w:=by
 refine wpIn_region_any hm ?_;have hd:Below w.heap.size w { w with drawn:=w.drawn+1 }:=⟨rfl,rfl,rfl,Nat.le_refl _,λ_ _=>rfl⟩;have hmono':dh (λW=>Below w.heap.size w W/\C W):=λW W' h hb=>⟨h.1.trans (hb.mono h.1.size),hmono W W' h.2 h.1 hb⟩
 have hlen:(l.zipIdx.map λp=>(p.2,p.1)).length=l.toArray.size:=by simp
 have hw0:=hmono' w _ ⟨Below.refl _ _,hC⟩ hd;refine a7a (S:=λW=>Below w.heap.size w W/\C W) hB hD _ (l.zipIdx.map λp=>(p.2,p.1)) _ a (List.range w.heap.size) _ _ hlen ⟨by simp,?_,?_,?_⟩ ?_ ⟨hmono',λ_ h=>h,λW h g hg=>Nat.lt_of_lt_of_le (List.mem_range.1 hg) h.1.size,⟨_,hw0⟩⟩ hw0 ?_
 ·intro p hp;obtain⟨⟨o,i⟩,hx,rfl⟩:=List.mem_map.1 hp;have:=List.mem_zipIdx' hx;simp[this.1,this.2]
 ·intro i hi;have hi':i<l.length:=by simpa using hi
  simp only[List.map_map];constructor
  ·intro _;refine List.mem_map.2 ⟨(l[i],i),?_,rfl⟩;rw[List.mem_zipIdx_iff_getElem?];simp[hi']
  ·intro _;simp[hi']
 ·rw [List.pairwise_map, List.pairwise_iff_getElem];intro i j hi hj hij;simpa using hij
 ·intro j hj;rcases Nat.lt_or_ge j l.length with h'|h'<;>simp[h'] at hj
 ·have : (l.zipIdx.map λp => (p.2, p.1)).map (·.2) = l := by simp [List.map_map, Function.comp_def, List.zipIdx_map_fst]
  rw[this];exact h
end
set_option maxHeartbeats 8000000
set_option maxRecDepth 100000
section
open Go.RowKit Go.Shelf
attribute [local go_sem] Oper.semAt_some
attribute [local go_sem] aL dz
abbrev oz:={ x:Int // -1<=x/\x<=1 }
def sP:oz:=⟨1,by omega⟩
def sM:oz:=⟨-1,by omega⟩
def pH(neg:Bool)(l:Nat):List oz:=if neg then [] else if l=0 then [sP] else [sP,sM]
def KB(B:Nat)(W W':World):Prop:=∀o,W'.cell? ⟨B,o,none⟩=W.cell? ⟨B,o,none⟩
theorem a6g(n:Nat)(hn:1<=n)(Bc l cp:Nat)(neg:Bool)(p:Option Addr)(w:World)(hB:Bc<w.heap.size)(c0:w.cell? ⟨Bc,0,none⟩=some (.bool neg))(c1:w.cell? ⟨Bc,1,none⟩=some (.slice p l cp))(hl:l<=9223372036854775807) :
  SeqStopsK Fence.wide n Tryz.prog 301 #[.pointer (some ⟨Bc,0,none⟩)] (λx:oz=>#[.int .i64 x.1]) (KB Bc) (λxs=>xs=pH neg l) (λpre=>pre=[sP]\/pre=[sP,sM]) (if neg then 0 else 2) w:=λL J Jx W hW _ _ hY h0=>by
 have k0:W.cell? ⟨Bc,0,none⟩=some (.bool neg):=(hW.cell (p:=⟨Bc,0,none⟩) hB).trans c0;have k1:W.cell? ⟨Bc,1,none⟩=some (.slice p l cp):=(hW.cell (p:=⟨Bc,1,none⟩) hB).trans c1;clear c0 c1;refine callsIn_of_wp Tryz.func301 rfl trivial ?_ rfl;simp only[Tryz.ntmps301,List.size_toArray,List.length_cons,List.length_nil,Nat.reduceAdd,Nat.reduceSub,Array.replicate_succ,Array.replicate_zero,List.push_toArray,List.append_toArray,List.nil_append,List.cons_append];cases neg with
 | true =>
  gi_wp2;refine⟨λ_ h=>(by cases h),?_⟩;gi_wp2;refine bodyPost_ret (results_none rfl _ _ _) rfl ?_;exact⟨⟨_,rfl⟩,.inl ⟨[],rfl,h0⟩⟩
 | false =>
  obtain⟨f1,t1,a1,b1,hy1,hR1⟩:=hY [] sP W h0 (by simp);dsimp only[sP] at hy1;gi_wp2;refine hR1.mono ?_;rintro e W1 (⟨rfl,hJ1,hk⟩|⟨rfl,hx1⟩)
  ·have m1 : W1.cell? ⟨Bc, 1, none⟩ = some (.slice p l cp) := (hk 1).trans k1;have hJ1':=Lib.hid hJ1;by_cases hl0:l=0
   ·have lb : ((l : Int) == 0) = true := by simp [hl0]
    have S1:Hid ([sP]=pH false l):=by show [sP]=_;simp[pH,hl0]
    clear hl0;gi_wp2;refine bodyPost_ret (results_none rfl _ _ _) rfl ?_;exact⟨⟨_,rfl⟩,.inl ⟨[sP],S1.out,hJ1'.out⟩⟩
   ·have lb : ((l : Int) == 0) = false := by simp [hl0]
    have S1:Hid ([sP,sM]=pH false l):=by show [sP,sM]=_;simp[pH,hl0]
    clear hl0;obtain⟨f2,t2,a2,b2,hy2,hR2⟩:=hY [sP] sM W1 hJ1 (by simp);dsimp only[sM] at hy2;gi_wp2;refine hR2.mono ?_;rintro e W2 (⟨rfl,hJ2,hk2⟩|⟨rfl,hx2⟩)
    ·gi_wp2;go_end0;exact⟨⟨_,rfl⟩,.inl ⟨[sP,sM],S1.out,hJ2⟩⟩
    ·gi_wp2;go_end0;exact⟨⟨_,rfl⟩,.inr ⟨[sP,sM],.inr rfl,hx2⟩⟩
  ·gi_wp2;refine bodyPost_ret (results_none rfl _ _ _) rfl ?_;exact⟨⟨_,rfl⟩,.inr ⟨[sP],.inl rfl,hx1⟩⟩
theorem a1l(n:Bool)(p:Option Addr)(l c:Nat)(w:World) :
  Calls Tryz.prog 294 #[.agg #[.bool n,.slice p l c]] w λe w'=>e=.returned (.func (.func 301) #[] #[.pointer (some ⟨w.heap.size,0,none⟩)])/\ac w w'/\w'.cell? ⟨w.heap.size,0,none⟩=some (.bool n)/\w'.cell? ⟨w.heap.size,1,none⟩=some (.slice p l c)/\w.heap.size<w'.heap.size:=by
 go_enter Tryz.func294,Tryz.ntmps294;go_wp2;go_ret;exact⟨rfl,ag,by go_simp,by go_simp,by simp⟩
def SR(w:World)(g c:Nat)(l:List (Int×Int)):Prop :=
 l.length<=c/\c<=9223372036854775807/\g<w.heap.size/\∀i x y,l[i]? = some (x,y)->∃n1 p1 l1 c1 n2 p2 l2 c2,w.cell? ⟨g,i*4,none⟩=some (.bool n1)/\w.cell? ⟨g,i*4+1,none⟩=some (.slice p1 l1 c1)/\w.cell? ⟨g,i*4+2,none⟩=some (.bool n2)/\w.cell? ⟨g,i*4+3,none⟩=some (.slice p2 l2 c2)/\NR w n1 p1 l1 c1 (ai x)/\NR w n2 p2 l2 c2 (ai y)
theorem SR.ext{w w':World}{g c:Nat}{l:List (Int×Int)}(h:SR w g c l)(hx:ac w w'):SR w' g c l:=by
 obtain⟨h1,h2,h3,h4⟩:=h;refine⟨h1,h2,Nat.lt_of_lt_of_le h3 hx.size,λi x y hi=>?_⟩;obtain⟨n1,p1,l1,c1,n2,p2,l2,c2,e0,e1,e2,e3,e4,e5⟩:=h4 i x y hi;have k:=λo=>hx.cell (p:=⟨g,o,none⟩) h3
 exact⟨n1,p1,l1,c1,n2,p2,l2,c2,(k _).trans e0,(k _).trans e1,(k _).trans e2,(k _).trans e3,e4.ext hx,e5.ext hx⟩
def oU(d s:Int)(l:List (Int×Int)):Bool:=l.all λp=>decide (0<=cO p.1 (s*p.2) d)
def nj(d:Int)(l:List (Int×Int))(ss:List oz):Int:=(ss.filter λs=>oU d s.1 l).length
def kx(d:Int)(l:List (Int×Int)):Int:=nj d l (pH (decide (d<0)) (cJ d.natAbs).length)
def Gd(x:Int):Prop:=x.natAbs<4294967296 ^ 20
theorem Z4{d s:Int}{l:List (Int×Int)}{k:Nat}{x y:Int}(h:l[k]? = some (x,y)):oU d s (l.take (k+1))=(oU d s (l.take k)&&decide (0<=cO x (s*y) d)):=by
 have hk:=(List.getElem?_eq_some_iff.1 h).1;rw[List.take_succ_eq_append_getElem hk];rw[List.getElem?_eq_getElem hk] at h;simp only[Option.some.injEq] at h;simp[oU,h]
theorem XR(d:Int)(l:List (Int×Int))(ss:List oz)(s:oz):nj d l (ss++[s])=nj d l ss+if oU d s.1 l then 1 else 0:=by
 unfold nj;rw[List.filter_append];cases h:oU d s.1 l<;>simp[h]
theorem NH(d:Int)(l:List (Int×Int))(ss:List oz):0<=nj d l ss/\nj d l ss<=ss.length:=by
 unfold nj;have:=List.length_filter_le (λs:oz=>oU d s.1 l) ss;omega
theorem Gd.small{x:Int}(h:Gd x):small x=true:=pJ h (by omega)
theorem Gd.good{x:Int}(h:Gd x):iG (ai x)=true:=by
 unfold iG;rw[ic h.small];have:=(tG x.natAbs 20).2 h;exact decide_eq_true this
theorem Gd.sgn{x:Int}(h:Gd x)(s:oz):Gd (s.1*x):=by
 obtain⟨s,h1,h2⟩:=s;unfold Gd at *;obtain rfl|rfl|rfl:s = -1\/s=0\/s=1:=by omega
 ·simpa using h
 ·simp
 ·simpa using h
theorem a6f{x y d:Int}(hx:Gd x)(hy:Gd y)(hd:Gd d)(h0:0<=d):lW (ai x) (ai y) (ai d)=cO x y d:=by
 unfold lW;rw[hx.good,hy.good,hd.good,fj,fj,fj];have:(ai d).neg=false:=by simp[ai];omega
 simp[this]
theorem KeepsOthers.of_ext{W W':World}(h:ac W W'):KeepsOthers W W':=⟨h.size,λk o hk _=>(h.block k (Array.getElem?_eq_some_iff.1 hk).1).trans hk⟩
theorem a1i(d:Int)(l:List (Int×Int))(n:Bool)(p:Option Addr)(ln c g cp:Nat)(w:World)(hd:NR w n p ln c (ai d))(hl:SR w g cp l)(hG:Gd d)(hGl:∀(i:Nat) (x y:Int),l[i]? = some (x,y)->Gd x/\Gd y)(hlen:l.length<=1000) :
  Calls Tryz.prog 255 #[.agg #[.bool n,.slice p ln c],.slice (some ⟨g,0,none⟩) l.length cp] w λe w'=>e=.returned (.int .i64 (kx d l))/\ac w w':=by
 have hln:ln<=9223372036854775807:=by
  have:=hd.2.1;have:=hd.2.2.le;have:=hd.2.2.max;omega
 have hnn:n=decide (d<0):=hd.1
 have hlz:ln=(cJ d.natAbs).length:=hd.2.1
 have RES:Hid (kx d l=nj d l (pH n ln)):=by show kx d l=_;rw[kx,hnn,hlz]
 have ND:Hid (n=decide (d<0)):=hnn
 clear hnn hlz
 have HGL:=Lib.hid hGl
 clear hGl
 refine (callsIn_wide (n:=6)).1 ?_
 refine callsIn_of_wp_marks Tryz.func255 rfl trivial ?_ rfl
 simp only[Tryz.ntmps255,List.size_toArray,List.length_cons,List.length_nil,Nat.reduceAdd,Nat.reduceSub,Array.replicate_succ,Array.replicate_zero,List.push_toArray,List.append_toArray,List.nil_append,List.cons_append]
 gi_wp2
 refine⟨trivial,(callsIn_wide.2 (a1l n p ln c _)).mono ?_⟩
 rintro e w1 ⟨rfl,hx,b0,b1,hb⟩
 have hx0:ac w w1:=ac.step ag hx
 have hs0:=hx.size
 simp at hs0 b0 b1 hb
 have e0:w1.cell? ⟨w.heap.size,0,none⟩=some (.bool n):=(hx.cell (p:=⟨w.heap.size,0,none⟩) (by simp;omega)).trans (by go_simp)
 have e1:w1.cell? ⟨w.heap.size,1,none⟩=some (.slice p ln c):=(hx.cell (p:=⟨w.heap.size,1,none⟩) (by simp;omega)).trans (by go_simp)
 have e2:w1.cell? ⟨w.heap.size+1,0,none⟩=some (.slice (some ⟨g,0,none⟩) l.length cp):=(hx.cell (p:=⟨w.heap.size+1,0,none⟩) (by simp)).trans (by go_simp)
 have e3:w1.cell? ⟨w.heap.size+1+1,0,none⟩=some (.int .i64 0):=(hx.cell (p:=⟨w.heap.size+1+1,0,none⟩) (by simp)).trans (by go_simp)
 have e4:w1.frozen? ⟨w.heap.size+1+1,0,none⟩=false:=(hx.frozen (p:=⟨w.heap.size+1+1,0,none⟩) (by simp)).trans (by go_simp)
 clear hx
 gi_wp2
 refine wpIn_rangeFunc_ownF rfl (by omega) (gf:=301) (lb:=#[.pointer (some ⟨w.heap.size+1+1+1,0,none⟩)]) rfl trivial (enters_of Tryz.func301 (by kernel_rfl) rfl)
  (a6g 5 (by omega) (w.heap.size+1+1+1) ln c n p w1 hb b0 b1 hln) (λh k o=>(k o).trans (h o)) (λW L o o' hL hW ho _ q=>World.cell?_of_block (World.putObj_heap_other (by show w.heap.size+1+1+1≠L;omega))) (Below.refl _ _) (λ_=>rfl)
  (λpre W=>((W.cell? ⟨w.heap.size,0,none⟩=some (.bool n)/\W.cell? ⟨w.heap.size,1,none⟩=some (.slice p ln c)/\W.cell? ⟨w.heap.size+1,0,none⟩=some (.slice (some ⟨g,0,none⟩) l.length cp)/\W.cell? ⟨w.heap.size+1+1,0,none⟩=some (.int .i64 (nj d l pre))/\W.frozen? ⟨w.heap.size+1+1,0,none⟩=false)/\Below w.heap.size w W)/\w1.heap.size<=W.heap.size)
  (λ_ _ _=>False)
  (OwnFrom.and (OwnFrom.and (Own.from (λs A B row hs hg hr=>⟨cell_kept hs.1 hg hr,cell_kept hs.2.1 hg hr,cell_kept hs.2.2.1 hg hr,cell_kept hs.2.2.2.1 hg hr,(frozen_kept hs.2.2.2.1 hg hr).trans hs.2.2.2.2⟩) _) (ownFrom_below (Nat.le_refl _) (by omega))) (λs A B row hs hg hr=>Nat.le_trans hs hg.size))
  (λ_ _ _ _ _ hs _ _=>hs)
  ⟨⟨⟨e0,e1,e2,e3,e4⟩,hx0⟩,Nat.le_refl _⟩
  (λx=>{ tmps:=#[.agg #[.bool n,.slice p ln c],.slice (some ⟨g,0,none⟩) l.length cp,.pointer (some ⟨w.heap.size,0,none⟩),.pointer (some ⟨w.heap.size+1,0,none⟩),.int .i64 0,.pointer (some ⟨w.heap.size+1+1,0,none⟩),.int .i64 x.1,undef,undef,undef,.agg #[.bool n,.slice p ln c],.func (.func 301) #[] #[.pointer (some ⟨w.heap.size+1+1+1,0,none⟩)],.int .i64 x.1,undef,undef,undef,undef,undef,undef,undef,undef,undef,undef,undef,undef,undef,undef,undef,undef,undef,undef,undef,undef,undef,undef,undef,undef],defers:=[] }) ?assign ?body ?done ?stop
 case assign =>
  intro L x W K hK
  gi_wp2
  exact hK
 case body =>
  rintro L pre x W ⟨⟨⟨c0,c1,c2,c3,c4⟩,hB⟩,hz⟩ hpl
  have hxs:=x.2
  have hd0:Hid (0<=d):=by
   show 0<=d
   have:=ND.out
   cases n with
   | true=>simp at hpl
   | false=>simpa using this.symm
  have hn2:pre.length<2:=by
   cases n with
   | true=>simp at hpl
   | false=>simpa using hpl
  clear hpl
  have hzW:w.heap.size+1+1+1<=W.heap.size:=by omega
  have HM:=Lib.hid hlen
  clear hlen
  have hm:(l.length:Int)<=1000:=by have:=HM.out;omega
  gi_wp2
  gi_loopw [7,15] (λgd i wr=>∃k:Nat,k<=l.length/\i=.int .i64 (k:Int)/\gd=.bool (oU d x.1 (l.take k))/\ac W wr) (λ_ i _=>l.length-(intOf i).toNat)
  case atStart=>exact⟨0,Nat.zero_le _,rfl,rfl,Below.refl _ _⟩
  case round =>
   obtain⟨k,hk,rfl,rfl,hx⟩:=hrel
   have hbx:ac w wr:=ac.step hB hx
   have hzr:=hx.size
   have f0:wr.cell? ⟨w.heap.size,0,none⟩=some (.bool n):=(hx.cell (p:=⟨w.heap.size,0,none⟩) (show w.heap.size<W.heap.size by omega)).trans c0
   have f1:wr.cell? ⟨w.heap.size,1,none⟩=some (.slice p ln c):=(hx.cell (p:=⟨w.heap.size,1,none⟩) (show w.heap.size<W.heap.size by omega)).trans c1
   have hlr:w.heap.size<wr.heap.size:=by omega
   by_cases hlt:k<l.length
   ·obtain ⟨⟨xx, yy⟩, XY⟩ : ∃ xy, Hid (l[k]? = some xy) := ⟨l[k], List.getElem?_eq_getElem hlt⟩
    obtain⟨n1,p1,l1,c1',n2,p2,l2,c2',e0',e1',e2',e3',e4',e5'⟩:=(hl.ext hbx).2.2.2 k xx yy XY.out
    have hgr:g<wr.heap.size:=(hl.ext hbx).2.2.1
    obtain⟨gx,gy⟩:=HGL.out k xx yy XY.out
    have GT:=Lib.hid (Z4 (d:=d) (s:=x.1) XY.out)
    cases hgd:oU d x.1 (l.take k) with
    | false =>
     rw[hgd] at GT
     have GT:=Lib.hid GT.out
     clear hgd
     gi_wp2
     first|refine Ez (λW=>W.cell? ⟨w.heap.size,0,none⟩=some (.bool n)/\W.cell? ⟨w.heap.size,1,none⟩=some (.slice p ln c)/\W.cell? ⟨wr.heap.size,0,none⟩=some (.bool n1)/\W.cell? ⟨wr.heap.size,1,none⟩=some (.slice p1 l1 c1')/\W.cell? ⟨wr.heap.size,2,none⟩=some (.bool n2)/\W.cell? ⟨wr.heap.size,3,none⟩=some (.slice p2 l2 c2')) (by kernel_rfl) (by kernel_rfl) ?_ ?_ ?_|refine EA (λW=>W.cell? ⟨w.heap.size,0,none⟩=some (.bool n)/\W.cell? ⟨w.heap.size,1,none⟩=some (.slice p ln c)/\W.cell? ⟨wr.heap.size,0,none⟩=some (.bool n1)/\W.cell? ⟨wr.heap.size,1,none⟩=some (.slice p1 l1 c1')/\W.cell? ⟨wr.heap.size,2,none⟩=some (.bool n2)/\W.cell? ⟨wr.heap.size,3,none⟩=some (.slice p2 l2 c2')) ?_ ?_ ?_|refine UK (λW=>W.cell? ⟨w.heap.size,0,none⟩=some (.bool n)/\W.cell? ⟨w.heap.size,1,none⟩=some (.slice p ln c)/\W.cell? ⟨wr.heap.size,0,none⟩=some (.bool n1)/\W.cell? ⟨wr.heap.size,1,none⟩=some (.slice p1 l1 c1')/\W.cell? ⟨wr.heap.size,2,none⟩=some (.bool n2)/\W.cell? ⟨wr.heap.size,3,none⟩=some (.slice p2 l2 c2')) (by kernel_rfl) (by kernel_rfl) (by kernel_rfl) ?_ ?_ ?_
     ·go_simp
     ·(intro W W' h hx hb;have hs:=hx.size;(try simp at hs);have hbc:∀b o,b<W.heap.size->W'.cell? ⟨b,o,none⟩=W.cell? ⟨b,o,none⟩:=λb o h=>hb.cell (p:=⟨b,o,none⟩) h;(try dsimp only at h ⊢);simp (disch:=omega) only[hbc];exact h)
     repeat (first|refine gQ ?_|refine gP ?_)
     rintro W2 ⟨hx2,hc⟩
     have hx3:ac W W2:=ac.step ag hx2
     clear hc hx2
     gi_wp2
     exact⟨⟨k+1,by omega,rfl,by rw[GT.out];rfl,hx3⟩,by simp[intOf];omega⟩
    | true =>
     rw[hgd] at GT
     have GT:=Lib.hid GT.out
     clear hgd
     obtain⟨z,Z⟩:∃z,Hid (x.1*yy=z):=⟨_,rfl⟩
     have gz:Gd z:=by rw[<- Z.out];exact gy.sgn x
     obtain⟨sd,SDD⟩:∃q,Hid (cO xx z d=q):=⟨_,rfl⟩
     have RS:=λ(na nb nc:Bool) (pa pb pc:Option Addr) (la ca lb cb lc cc:Nat) (w:World) ha hb hc=>a4U (ai xx) (ai z) (ai d) na nb nc pa pb pc la ca lb cb lc cc w ha hb hc
     rw[a6f gx gz hG hd0.out,SDD.out] at RS
     have RS:=Lib.hid RS
     have SX:=Lib.hid (show small x.1=true from pJ (k:=1) (by omega) (by omega))
     have SY:=Lib.hid gy.small
     have SZ:=Lib.hid gz.small
     rw[Z.out,SDD.out] at GT
     have hdr:=hd.ext hbx
     clear gx gy gz
     gi_wp2
     first|refine Ez (λW=>W.cell? ⟨w.heap.size,0,none⟩=some (.bool n)/\W.cell? ⟨w.heap.size,1,none⟩=some (.slice p ln c)/\W.cell? ⟨wr.heap.size,0,none⟩=some (.bool n1)/\W.cell? ⟨wr.heap.size,1,none⟩=some (.slice p1 l1 c1')/\W.cell? ⟨wr.heap.size,2,none⟩=some (.bool n2)/\W.cell? ⟨wr.heap.size,3,none⟩=some (.slice p2 l2 c2')) (by kernel_rfl) (by kernel_rfl) ?_ ?_ ?_|refine EA (λW=>W.cell? ⟨w.heap.size,0,none⟩=some (.bool n)/\W.cell? ⟨w.heap.size,1,none⟩=some (.slice p ln c)/\W.cell? ⟨wr.heap.size,0,none⟩=some (.bool n1)/\W.cell? ⟨wr.heap.size,1,none⟩=some (.slice p1 l1 c1')/\W.cell? ⟨wr.heap.size,2,none⟩=some (.bool n2)/\W.cell? ⟨wr.heap.size,3,none⟩=some (.slice p2 l2 c2')) ?_ ?_ ?_|refine UK (λW=>W.cell? ⟨w.heap.size,0,none⟩=some (.bool n)/\W.cell? ⟨w.heap.size,1,none⟩=some (.slice p ln c)/\W.cell? ⟨wr.heap.size,0,none⟩=some (.bool n1)/\W.cell? ⟨wr.heap.size,1,none⟩=some (.slice p1 l1 c1')/\W.cell? ⟨wr.heap.size,2,none⟩=some (.bool n2)/\W.cell? ⟨wr.heap.size,3,none⟩=some (.slice p2 l2 c2')) (by kernel_rfl) (by kernel_rfl) (by kernel_rfl) ?_ ?_ ?_
     ·go_simp
     ·(intro W W' h hx hb;have hs:=hx.size;(try simp at hs);have hbc:∀b o,b<W.heap.size->W'.cell? ⟨b,o,none⟩=W.cell? ⟨b,o,none⟩:=λb o h=>hb.cell (p:=⟨b,o,none⟩) h;(try dsimp only at h ⊢);simp (disch:=omega) only[hbc];exact h)
     repeat (first|refine gQ ?_|refine gP ?_)
     refine Lt { w with heap:=#[] } (ai x.1) (by rfl) (by rfl) (by intro W hW;(try dsimp only at hW);go_simp;exact (a1k x.1 _ (by omega)).mono λ_ _ h=>kJ.isN (Nat.zero_le _) h) ?_;intro n5 p5 l5 c5 _;refine rj ?_
     repeat (first|refine gQ ?_|refine gP ?_)
     refine Lt { w with heap:=#[] } (ai z) (by rfl) (by rfl) (by intro W hW;(try dsimp only at hW);go_simp;exact (a1j x.1 yy _ _ _ _ _ _ _ _ _ hW.2 ((e5'.alloc _).ext hW.1.1) SX.out SY.out z Z.out SZ.out).mono λ_ _ h=>kJ.isN (Nat.zero_le _) h) ?_;intro n6 p6 l6 c6 _;refine rj ?_
     repeat (first|refine gQ ?_|refine gP ?_)
     refine xo (.int .i64 sd) (λW hW=>RS.out _ _ _ _ _ _ _ _ _ _ _ _ _ ((e4'.alloc _).ext hW.1.1.1) hW.2 ((hdr.alloc _).ext hW.1.1.1)) ?_
     repeat (first|refine gQ ?_|refine gP ?_)
     rintro W2 ⟨⟨⟨hx2,hc⟩,_⟩,_⟩
     have hx3:ac W W2:=ac.step ag hx2
     clear hc hx2
     gi_wp2
     exact⟨⟨k+1,by omega,rfl,by rw[GT.out];rfl,hx3⟩,by simp[intOf];omega⟩
   ·obtain rfl : k = l.length := by omega
    have f2:wr.cell? ⟨w.heap.size+1+1,0,none⟩=some (.int .i64 (nj d l pre)):=(hx.cell (p:=⟨w.heap.size+1+1,0,none⟩) (show w.heap.size+1+1<W.heap.size by omega)).trans c3
    have f3:wr.frozen? ⟨w.heap.size+1+1,0,none⟩=false:=(hx.frozen (p:=⟨w.heap.size+1+1,0,none⟩) (show w.heap.size+1+1<W.heap.size by omega)).trans c4
    have f4:wr.cell? ⟨w.heap.size+1,0,none⟩=some (.slice (some ⟨g,0,none⟩) l.length cp):=(hx.cell (p:=⟨w.heap.size+1,0,none⟩) (show w.heap.size+1<W.heap.size by omega)).trans c2
    have kb:∀W',(∀o,W'.cell? ⟨w.heap.size+1+1+1,o,none⟩=wr.cell? ⟨w.heap.size+1+1+1,o,none⟩)->KB (w.heap.size+1+1+1) W W':=λW' h o=>(h o).trans (hx.cell (p:=⟨w.heap.size+1+1+1,o,none⟩) (show w.heap.size+1+1+1<W.heap.size by omega))
    have KBH:=Lib.hid kb
    have CS:=Lib.hid (XR d l pre x)
    have cbd:=NH d l pre
    rw[List.take_of_length_le (Nat.le_refl _)]
    clear kb c0 c1 c2 c3 c4
    obtain⟨q,Q⟩:∃q,Hid (nj d l pre=q):=⟨_,rfl⟩
    rw[Q.out] at f2 cbd CS
    cases hgd:oU d x.1 l with
    | false =>
     rw[hgd] at CS
     clear hgd
     gi_wp2
     refine⟨KeepsOthers.of_ext hx,KBH.out _ (λ_=>rfl),⟨⟨f0,f1,f4,?_,f3⟩,hbx⟩,by omega⟩
     rw[CS.out,f2]
     simp
    | true =>
     rw[hgd] at CS
     clear hgd
     gi_wp2
     refine⟨(KeepsOthers.of_ext hx).trans (KeepsOthers.setCell _ _ _),KBH.out _ (λo=>?_),⟨⟨?_,?_,?_,?_,?_⟩,?_⟩,?_⟩
     ·go_simp
     ·go_simp
     ·go_simp
     ·go_simp
     ·rw[CS.out];go_simp
     ·go_simp
     ·exact ag
     ·simp;omega
 case done =>
  rintro D xs W hD rfl ⟨⟨⟨c0,c1,c2,c3,c4⟩,hB⟩,hz⟩ hK
  gi_wp2
  refine⟨by simp,.inl ⟨_,_,rfl,run_takeDeferred hK,?_⟩⟩
  exact⟨_,results_tmp rfl _ _ _,by rw[RES.out];rfl,hB.trans (belowK_b (w:=w) (Nat.le_refl _) W D _ _ (by omega) hK rfl rfl)⟩
 case stop =>
  rintro D c' pre W _ _ h _
  exact h.elim
end
def yh(px py qx qy rx ry:Int):Int:=(qx-px)*(ry-py)-(qy-py)*(rx-px)
def qE(px py qx qy rx ry sx sy:Int):Int :=
 if (qx-px)*(sy-ry)-(qy-py)*(sx-rx)≠0 then
  if 0<lV (yh px py qx qy rx ry)*lV (yh px py qx qy sx sy) then 0
  else if 0<lV (yh rx ry sx sy px py)*lV (yh rx ry sx sy qx qy) then 0 else 1
 else if lV (yh px py qx qy rx ry)≠0 then 0
 else if max 0 (min ((rx-px)*(qx-px)+(ry-py)*(qy-py)) ((sx-px)*(qx-px)+(sy-py)*(qy-py)))<min ((qx-px)*(qx-px)+(qy-py)*(qy-py)) (max ((rx-px)*(qx-px)+(ry-py)*(qy-py)) ((sx-px)*(qx-px)+(sy-py)*(qy-py))) then -1
 else if max 0 (min ((rx-px)*(qx-px)+(ry-py)*(qy-py)) ((sx-px)*(qx-px)+(sy-py)*(qy-py)))=min ((qx-px)*(qx-px)+(qy-py)*(qy-py)) (max ((rx-px)*(qx-px)+(ry-py)*(qy-py)) ((sx-px)*(qx-px)+(sy-py)*(qy-py))) then 1 else 0
theorem a6c(n:Int) : -1<=lV n/\lV n<=1:=by unfold lV;(repeat' split)<;>omega
def Wd(k:Nat)(x:Int):Prop:=x.natAbs<4294967296 ^ k
theorem Wd.mul{a b:Nat}{x y:Int}(hx:Wd a x)(hy:Wd b y):Wd (a+b) (x*y):=by
 unfold Wd at *;rw[Int.natAbs_mul,Nat.pow_add];rcases Nat.eq_zero_or_pos y.natAbs with h|h
 ·rw[h,Nat.mul_zero];exact Nat.mul_pos (Nat.pow_pos (by omega)) (Nat.pow_pos (by omega))
 ·exact Nat.lt_of_lt_of_le (Nat.mul_lt_mul_of_pos_right hx h) (Nat.mul_le_mul_left _ (Nat.le_of_lt hy))
theorem Wd.sub{a:Nat}{x y:Int}(hx:Wd a x)(hy:Wd a y):Wd (a+1) (x-y):=by
 unfold Wd at *;rw[Nat.pow_succ];omega
theorem Wd.mono{a b:Nat}{x:Int}(hx:Wd a x)(h:a<=b):Wd b x:=Nat.lt_of_lt_of_le hx (Nat.pow_le_pow_right (by omega) h)
theorem Wd.small{a:Nat}{x:Int}(hx:Wd a x)(h:a<=64):small x=true:=pJ hx h
theorem Wd.gd{a:Nat}{x:Int}(hx:Wd a x)(h:a<=20):Gd x:=hx.mono h
theorem Wd.of64{x:Int}(h:I64 x):Wd 2 x:=by unfold Wd I64 at *;omega
structure LA where
 (S h F r:Int)
 (u1 u2 v1 v2:Int)
def LA.delta(a:LA):Int:=a.h*a.h-a.S*(a.F-a.r*a.r)
def LA.list(a:LA):List (Int×Int):=[(0-a.h,1),(a.S-(0-a.h),-1),(a.S*a.u1-a.h*a.u2,a.u2),(a.S*a.v1-a.h*a.v2,a.v2)]
structure AA where
 (S r q:Int)
 (du dv ds dt pu pv ps pt:Int)
def AA.k(a:AA):Int:=a.S-(a.q*a.q-a.r*a.r)
def AA.delta(a:AA):Int:=4*a.S*(a.r*a.r)-a.k*a.k
def AA.list(a:AA):List (Int×Int):=[(a.k*a.du,a.pu),(a.k*a.dv,a.pv),((a.k-2*a.S)*a.ds,a.ps),((a.k-2*a.S)*a.dt,a.pt)]
def one(a b:Bool):Int:=if a&&b then 1 else 0
def zU(rq a b c d:Bool):Int:=if one a rq+one b rq+one c rq+one d rq=2 then -1 else one a rq+one b rq+one c rq+one d rq
def Ed.ux(e:Ed):Int:=(e.ax-e.cx).tdiv (az e)
def Ed.uy(e:Ed):Int:=(e.ay-e.cy).tdiv (az e)
def Ed.vx(e:Ed):Int:=(e.bx-e.cx).tdiv (az e)
def Ed.vy(e:Ed):Int:=(e.by'-e.cy).tdiv (az e)
def Ed.pt(e:Ed):Bool:=e.ax==e.bx&&e.ay==e.by'
def vP(l e:Ed):LA where
 S:=(l.bx-l.ax)*(l.bx-l.ax)+(l.by'-l.ay)*(l.by'-l.ay);h:=(l.ax-e.cx)*(l.bx-l.ax)+(l.ay-e.cy)*(l.by'-l.ay)
 F:=(l.ax-e.cx)*(l.ax-e.cx)+(l.ay-e.cy)*(l.ay-e.cy);r:=az e;u1:=(l.ax-e.cx)*e.ux+(l.ay-e.cy)*e.uy;u2:=(l.bx-l.ax)*e.ux+(l.by'-l.ay)*e.uy;v1:=(l.ax-e.cx)*e.vx+(l.ay-e.cy)*e.vy;v2:=(l.bx-l.ax)*e.vx+(l.by'-l.ay)*e.vy
def xP(e f:Ed):AA where
 S:=(f.cx-e.cx)*(f.cx-e.cx)+(f.cy-e.cy)*(f.cy-e.cy);r:=az e;q:=az f;du:=(f.cx-e.cx)*e.ux+(f.cy-e.cy)*e.uy;dv:=(f.cx-e.cx)*e.vx+(f.cy-e.cy)*e.vy;ds:=(f.cx-e.cx)*f.ux+(f.cy-e.cy)*f.uy;dt:=(f.cx-e.cx)*f.vx+(f.cy-e.cy)*f.vy;pu := -(f.cy-e.cy)*e.ux+(f.cx-e.cx)*e.uy;pv := -(f.cy-e.cy)*e.vx+(f.cx-e.cx)*e.vy;ps := -(f.cy-e.cy)*f.ux+(f.cx-e.cx)*f.uy;pt := -(f.cy-e.cy)*f.vx+(f.cx-e.cx)*f.vy
def iW(e:Ed)(x y:Int):Int:=if onE e x y then 1 else 0
def tz(l e:Ed):Int:=kx (vP l e).delta (vP l e).list
def rG(e f:Ed):Int :=
 if e.cx=f.cx/\e.cy=f.cy then zU (az e==az f) (e.ux==f.ux&&e.uy==f.uy) (e.ux==f.vx&&e.uy==f.vy) (e.vx==f.ux&&e.vy==f.uy) (e.vx==f.vx&&e.vy==f.vy)
 else kx (xP e f).delta (xP e f).list
def bK(e f:Ed):Int :=
 if !(e.ok&&f.ok) then 0
 else if e.k=1 then
  if e.pt then iW f e.ax e.ay
  else if f.k=1 then (if f.pt then iW e f.ax f.ay else qE e.ax e.ay e.bx e.by' f.ax f.ay f.bx f.by')
  else tz e f
 else if f.k=1 then (if f.pt then iW e f.ax f.ay else tz f e)
 else rG e f
theorem vl(d:Int)(l:List (Int×Int)):0<=kx d l/\kx d l<=2:=by
 have h:=NH d l (pH (decide (d<0)) (cJ d.natAbs).length);have hl:(pH (decide (d<0)) (cJ d.natAbs).length).length<=2:=by
  unfold pH;split
  ·simp
  ·split<;>simp
 unfold kx;omega
theorem QL(e:Ed)(x y:Int):0<=iW e x y/\iW e x y<=1:=by unfold iW;split<;>omega
theorem PI(px py qx qy rx ry sx sy:Int) : -1<=qE px py qx qy rx ry sx sy/\qE px py qx qy rx ry sx sy<=1:=by
 unfold qE;(repeat' split)<;>omega
section
def FG:Nat:=4294967296 ^ 20
def kN:Nat:=4294967296 ^ 64
def oi(z:Int)(B:Nat):V1:=⟨true,[.d (.zi z B)]⟩
section
variable {V W:World} {r:Nat->Nat} {k:Nat}
theorem nW{z:Int}{B:Nat}{l:List It}{cs:List Value}:aA V W r k (.d (.zi z B)::l) cs <-> z.natAbs<=B/\∃n p m c,NR W n p m c (ai z)/\∃d,cs=.bool n::.slice p m c::d/\aA V W r k l d :=
 ⟨λ⟨c,d,e,⟨⟨n,p,m,c',h1,h2⟩,hb⟩,h3⟩=>⟨hb,n,p,m,c',h2,d,by rw[e,h1];rfl,h3⟩,λ⟨hb,n,p,m,c',h,d,e,h3⟩=>⟨[_,_],d,e,⟨⟨n,p,m,c',rfl,h⟩,hb⟩,h3⟩⟩
end
theorem a0i{z:Int}{B:Nat}{w:World}{e:Ending}{w':World}(hb:z.natAbs<=B)(h:kJ w (ai z) e w'):Gv (.one (oi z B)) w e w':=by
 obtain⟨n,p,l,c,rfl,h1,_,h2⟩:=h;exact⟨_,rfl,bL.2 ⟨_,nW.2 ⟨hb,n,p,l,c,h1,[],rfl,rfl⟩,rfl⟩,h2⟩
theorem a0h{z:Int}{B:Nat}{w:World}{e:Ending}{w':World}(hb:z.natAbs<=B)(h:jR w (ai z,true) e w'):Gv (.tup [oi z B,⟨false,[.b true]⟩]) w e w':=by
 obtain⟨n,p,l,c,rfl,h1,_,h2⟩:=h;exact⟨_,rfl,⟨[_,_],rfl,aK.2 ⟨_,bL.2 ⟨_,nW.2 ⟨hb,n,p,l,c,h1,[],rfl,rfl⟩,rfl⟩,_,rfl,aK.2 ⟨_,af.val (i:=.b true) rfl,_,rfl,rfl⟩⟩⟩,h2⟩
theorem mU{z:Int}{B:Nat}(h:z.natAbs<=B)(hB:B<kN):small z=true:=by
 unfold small;rw[decide_eq_true_eq];exact Nat.lt_of_le_of_lt h hB
def a7l(f:FuncId)(H:∀(z:Int) (w:World),-9223372036854775808<=z->z<=9223372036854775807->Calls Tryz.prog f #[.int .i64 z] w (kJ w (ai z))):ah where
 f:=f;g:=λ| [⟨false,[.i z B]⟩]=>some (.one (oi z B),[])|_=>none
 ok:=by
  intro args res ps h _;split at h<;>cases h;intro W vals hv;simp only[aK,iL,dL] at hv;obtain⟨_,⟨⟨hb,h1,h2⟩,rfl⟩,_,rfl,rfl⟩:=hv;exact (H _ W h1 h2).mono λ_ _ h=>a0i hb h
def uO:List It->Option (Int×Nat)
 | [.d (.zi z B)]=>some (z,B)|[.d (.num ⟨false,[]⟩)]=>some (0,0)|_=>none
theorem Ad{W:World}{l:List It}{z:Int}{B:Nat}{v:Value}(h:uO l=some (z,B))(hv:au W W (λ_=>0) 0 ⟨true,l⟩ v):z.natAbs<=B/\∃n p m c,v=.agg #[.bool n,.slice p m c]/\NR W n p m c (ai z):=by
 unfold uO at h;split at h<;>cases h
 ·simp only [bL, nW, fh] at hv;obtain⟨_,⟨b1,n,p,l,c,h1,_,rfl,rfl⟩,rfl⟩:=hv;exact⟨b1,n,p,l,c,rfl,h1⟩
 ·simp only [bL, js, fh] at hv;obtain⟨_,⟨n,p,l,c,h1,_,rfl,rfl⟩,rfl⟩:=hv;exact⟨Nat.le_refl 0,n,p,l,c,rfl,(show ai 0=⟨false,[]⟩ by unfold ai;simp[ji]) ▸ h1⟩
def La(f:FuncId)(G:Nm->Nm->Nm×Bool)(O:Int->Int->Int)(Q:Nat->Nat->Nat)(q:Nat->Nat->Bool)
  (H:∀(a b:Nm) (na nb:Bool) (pa pb:Option Addr) (la ca lb cb:Nat) (w:World),NR w na pa la ca a->NR w nb pb lb cb b->Calls Tryz.prog f #[.agg #[.bool na,.slice pa la ca],.agg #[.bool nb,.slice pb lb cb]] w (jR w (G a b)))
  (hO:∀x y A B,q A B=true->x.natAbs<=A->y.natAbs<=B->(O x y).natAbs<=Q A B/\G (ai x) (ai y)=(ai (O x y),true)):ah where
 f:=f
 g:=λ| [⟨true,l⟩,⟨true,m⟩]=>(match uO l,uO m with|some (x,A),some (y,B)=>if q A B=true then some (.tup [oi (O x y) (Q A B),⟨false,[.b true]⟩],[]) else none|_,_=>none)|_=>none
 ok:=by
  intro args res ps h hp
  split at h<;>try cases h
  split at h<;>try cases h
  split at h<;>cases h
  rename_i x A y B hx hy hb
  intro W vals hv
  obtain⟨v1,g1,l1,rfl,hv1⟩:=aK.1 hv
  obtain⟨v2,g2,l2,rfl,hv2⟩:=aK.1 hv1
  cases hv2
  obtain⟨b1,_,_,_,_,rfl,h1⟩:=Ad hx g1
  obtain⟨b2,_,_,_,_,rfl,h2⟩:=Ad hy g2
  obtain⟨b3,e⟩:=hO x y A B hb b1 b2
  exact (H _ _ _ _ _ _ _ _ _ _ W h1 h2).mono λ_ _ h=>a0h b3 (e ▸ h)
theorem a7r(x y:Int)(A B:Nat)(h:decide (A<kN/\B<kN/\A*B<kN)=true)(b1:x.natAbs<=A)(b2:y.natAbs<=B):(x*y).natAbs<=A*B/\jE (ai x) (ai y)=(ai (x*y),true):=by
 obtain⟨h1,h2,h3⟩:=of_decide_eq_true h;have b3:(x*y).natAbs<=A*B:=by rw[Int.natAbs_mul];exact Nat.mul_le_mul b1 b2
 exact⟨b3,Ix (mU b1 h1) (mU b2 h2) (mU b3 h3)⟩
theorem a7s(x y:Int)(A B:Nat)(h:decide (A+B<kN)=true)(b1:x.natAbs<=A)(b2:y.natAbs<=B):(x-y).natAbs<=A+B/\s7 (ai x) (ai y)=(ai (x-y),true):=by
 have h:=of_decide_eq_true h;have b3:(x-y).natAbs<=A+B:=by omega
 exact⟨b3,a6t (mU b1 (by omega)) (mU b2 (by omega)) (mU b3 h)⟩
def FS:ah:=a7l 96 CN
def Na:ah:=La 212 jE (·*·) (·*·) (λA B=>decide (A<kN/\B<kN/\A*B<kN)) CJ a7r
def WY:ah:=La 293 s7 (· - ·) (·+·) (λA B=>decide (A+B<kN)) a10 a7s
def w9:Nat->List It->Option (List (Int×Int))
 | 0,[]=>some []|n+1,.d (.zi x A)::.d (.zi y B)::l=>if A<FG/\B<FG then (w9 n l).map ((x,y)::·) else none|_,_=>none
theorem Ut{V:World}:∀ {n:Nat} {l:List It} {L:List (Int×Int)} {cs:List Value},w9 n l=some L->aE V l cs->L.length=n/\cs.length=n*4/\(∀(i:Nat) (x y:Int),L[i]? = some (x,y)->Gd x/\Gd y /\
  ∃n1 p1 l1 c1 n2 p2 l2 c2,cs[i*4]? = some (.bool n1)/\cs[i*4+1]? = some (.slice p1 l1 c1)/\cs[i*4+2]? = some (.bool n2)/\cs[i*4+3]? = some (.slice p2 l2 c2)/\NR V n1 p1 l1 c1 (ai x)/\NR V n2 p2 l2 c2 (ai y))
 | n,l,L,cs,h,hr=>by
  unfold w9 at h;split at h
  ·cases h;cases hr;exact⟨rfl,rfl,λi x y hi=>by simp at hi⟩
  ·rename_i n x A y B l;split at h
   ·rename_i hb;cases hq:w9 n l with
    | none=>simp[hq] at h
    | some M =>
     simp only[hq,Option.map_some,Option.some.injEq] at h;subst h;obtain⟨c,d,e,⟨⟨n1,p1,l1,c1,rfl,h1⟩,b1⟩,c',d',e',⟨⟨n2,p2,l2,c2,rfl,h2⟩,b2⟩,h3⟩:=hr;subst e' e;obtain⟨k1,k2,k3⟩:=Ut hq h3;refine⟨by simp[k1],by simp[k2];omega,λi u v hi=>?_⟩;cases i with
     | zero =>
      simp only[List.getElem?_cons_zero,Option.some.injEq,Prod.mk.injEq] at hi;obtain⟨rfl,rfl⟩:=hi;exact⟨Nat.lt_of_le_of_lt b1 hb.1,Nat.lt_of_le_of_lt b2 hb.2,n1,p1,l1,c1,n2,p2,l2,c2,rfl,rfl,rfl,rfl,h1,h2⟩
     | succ i =>
      simp only[List.getElem?_cons_succ] at hi;obtain⟨g1,g2,m1,q1,j1,e1,m2,q2,j2,e2,f0,f1,f2,f3,f4⟩:=k3 i u v hi;refine⟨g1,g2,m1,q1,j1,e1,m2,q2,j2,e2,?_,?_,?_,?_,f4⟩;all_goals rw[show (i+1)*4=i*4+4 by omega]
      ·exact f0
      ·exact f1
      ·exact f2
      ·exact f3
   ·cases h
  ·cases h
def Ws:ah where
 f:=255
 g:=λ| [⟨true,[.d (.zi d D)]⟩,⟨false,[.fs o l n z]⟩]=>if (o=0/\z=4)/\(0<n/\n<=1000)/\D<FG then (w9 n l).map λL=>(.one (aj (kx d L) 2),[]) else none|_=>none
 ok:=by
  intro args res ps h hp
  split at h<;>try cases h
  rename_i d D o l n z
  split at h<;>try cases h
  rename_i hb
  obtain⟨⟨rfl,rfl⟩,hn,hD⟩:=hb
  cases hL:w9 n l with
  | none=>simp[hL] at h
  | some L =>
   simp only[hL,Option.map_some,Option.some.injEq,Prod.mk.injEq] at h
   obtain⟨rfl,rfl⟩:=h
   intro W vals hv
   simp only[aK,iL,bL,nW,fh] at hv
   obtain⟨_,⟨_,⟨b1,n1,p1,l1,c1,h1,_,rfl,rfl⟩,rfl⟩,_,rfl,y,hy,_,rfl,rfl⟩:=hv
   obtain⟨g,q,xs,T,e1,e2,e3,e4,e5,c,dd,e6,e7,e8⟩:=hy.scal
   obtain rfl:y=_:=by simpa using e1
   obtain⟨k1,k2,k3⟩:=Ut hL e7
   rw[List.drop_zero] at e6
   have hg:g<W.heap.size:=(Array.getElem?_eq_some_iff.1 e2).1
   have hc:∀j v,c[j]? = some v->W.cell? ⟨g,j,none⟩=some v:=λj v hj=>by
    rw[cell_of_row _ _ _ _ _ _ e2]
    have:xs.toList[j]? = some v:=by
     rw[e6,List.getElem?_append_left (List.getElem?_eq_some_iff.1 hj).1]
     exact hj
    simpa using this
   have hSR:SR W g q L:=⟨by omega,by unfold maxLen at e4;omega,hg,λi x y hi=>by
    obtain⟨_,_,n1,p1,l1,c1,n2,p2,l2,c2,f0,f1,f2,f3,f4⟩:=k3 i x y hi
    exact⟨n1,p1,l1,c1,n2,p2,l2,c2,hc _ _ f0,hc _ _ f1,hc _ _ f2,hc _ _ f3,f4⟩⟩
   have hb:=vl d L
   have:=(a1i d L n1 p1 l1 c1 g q W h1 hSR (Nat.lt_of_le_of_lt b1 hD) (λi x y hi=>⟨(k3 i x y hi).1,(k3 i x y hi).2.1⟩) (by omega)).mono λ_ _ h=>tW (z:=kx d L) (B:=2) ⟨by omega,by unfold I64;omega⟩ h
   rw[k1] at this
   exact this
theorem vk{x:Int}{A:Nat}(h:x.natAbs<=A)(hA:A<=aC):Co x:=by unfold aC at hA;unfold Co;omega
def jW:ah where
 f:=250
 g:=λ| [⟨true,[.i ax A,.i ay B]⟩,⟨true,[.i bx C,.i b D]⟩,⟨true,[.i px E,.i py F]⟩]=>if (A<=aC/\B<=aC)/\(C<=aC/\D<=aC)/\(E<=aC/\F<=aC) then some (.one (aj (lV ((bx-ax)*(py-ay)-(b-ay)*(px-ax))) 1),[]) else none|_=>none
 ok:=by
  intro args res ps h hp
  split at h<;>try cases h
  split at h<;>cases h
  rename_i ax A ay B bx C b D px E py F hb
  intro W vals hv
  simp only[aK,iL,bL,bi,fh] at hv
  obtain⟨_,⟨_,⟨⟨a1,_⟩,_,rfl,⟨a2,_⟩,_,rfl,rfl⟩,rfl⟩,_,rfl,_,⟨_,⟨⟨a3,_⟩,_,rfl,⟨a4,_⟩,_,rfl,rfl⟩,rfl⟩,_,rfl,_,⟨_,⟨⟨a5,_⟩,_,rfl,⟨a6,_⟩,_,rfl,rfl⟩,rfl⟩,_,rfl,rfl⟩:=hv
  have c1:=vk a1 hb.1.1
  have c2:=vk a2 hb.1.2
  have d1:=(vk a3 hb.2.1.1).sub c1
  have d2:=(vk a4 hb.2.1.2).sub c2
  have d3:=(vk a5 hb.2.2.1).sub c1
  have d4:=(vk a6 hb.2.2.2).sub c2
  have hs:=a6c ((bx-ax)*(py-ay)-(b-ay)*(px-ax))
  exact (a60 ax ay bx b px py W d1.i64 d2.i64 d3.i64 d4.i64 (d1.mul64 d4) (d2.mul64 d3) (d1.cross d4 d2 d3)).mono λ_ _ h=>tW ⟨by omega,by unfold I64;omega⟩ h
end
end Go.Proofs.YtghemgdfmldoeaaGreat
