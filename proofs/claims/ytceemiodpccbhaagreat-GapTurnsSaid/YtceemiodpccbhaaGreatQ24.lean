import Derived.Test.YtceemiodpccbhaaGreatQ23
set_option linter.unusedVariables false
set_option linter.unusedSimpArgs false

namespace Go.Proofs.YtceemiodpccbhaaGreat
open Go.RowKit

set_option maxRecDepth 100000
section
theorem within9(a b c d px py:Int):Fok Tryz.prog 142 [rcV a b c d,ptV px py lim] (.one (blV (inB a b c d px py))):=by
 unfold inB
 cases h0:decide (a<=px) with
 | false=>exact fok [] [false] [pF h0] (by kernel_rfl)
 | true =>
  cases h1:decide (px<=c) with
  | false=>exact fok [] [true,false] [pT h0,pF h1] (by kernel_rfl)
  | true =>
   cases h2:decide (b<=py) with
   | false=>exact fok [] [true,true,false] [pT h0,pT h1,pF h2] (by kernel_rfl)
   | true=>exact fok [] [true,true,true] [pT h0,pT h1,pT h2] (by kernel_rfl)
def to4(l:List It):Option (Int×Int×Int×Int):=match l with | [.i a _,.i b _,.i c _,.i d _]=>some (a,b,c,d)|_=>none
theorem ptB_lim{V W:World}{r:Nat->Nat}{k:Nat}{l:List It}{p:Int×Int}(h:ptB l=some p):∀v,RepV V W r k ⟨true,l⟩ v->RepV V W r k (ptV p.1 p.2 lim) v:=by
 unfold ptB at h
 split at h<;>cases h
 intro v ⟨cs,⟨c,d,e,h1,c2,d2,e2,h2,h3⟩,h4,h5⟩
 cases h3
 exact⟨cs,⟨c,d,e,⟨h1.1,i64_lim h1.2.2,h1.2.2⟩,c2,[],e2,⟨h2.1,i64_lim h2.2.2,h2.2.2⟩,rfl⟩,h4,h5⟩
theorem to4_lim{V W:World}{r:Nat->Nat}{k:Nat}{l:List It}{p:Int×Int×Int×Int}(h:to4 l=some p):∀v,RepV V W r k ⟨true,l⟩ v->RepV V W r k (rcV p.1 p.2.1 p.2.2.1 p.2.2.2) v:=by
 unfold to4 at h
 split at h<;>cases h
 intro v ⟨cs,⟨c,d,e,h1,c2,d2,e2,h2,c3,d3,e3,h3,c4,d4,e4,h4,h5⟩,h6,h7⟩
 cases h5
 exact⟨cs,⟨c,d,e,⟨h1.1,i64_lim h1.2.2,h1.2.2⟩,c2,d2,e2,⟨h2.1,i64_lim h2.2.2,h2.2.2⟩,c3,d3,e3,⟨h3.1,i64_lim h3.2.2,h3.2.2⟩,c4,[],e4,⟨h4.1,i64_lim h4.2.2,h4.2.2⟩,rfl⟩,h6,h7⟩
def d09Win:Con where
 f:=142
 g:=fun | [⟨true,l⟩,⟨true,m⟩]=>(match to4 l,ptB m with|some q,some p=>some (.one (blV (inB q.1 q.2.1 q.2.2.1 q.2.2.2 p.1 p.2)),[])|_,_=>none)|_=>none
 ok:=by
  intro args res ps h' hp
  split at h'<;>try cases h'
  split at h'<;>cases h'
  rename_i he hq
  exact (within9 _ _ _ _ _ _).pre fun W=>rvs_1 (to4_lim he) (rvs_1 (ptB_lim hq) rvs_0)
def ptM(px py:Int):Option Mb:=some ⟨32,[.i px lim,.i py lim]⟩
def pPt(px py:Int):List Pf:=[⟨px=px,rfl⟩,⟨py=py,rfl⟩]
def pW(e:Nat->Ed)(px py:Int)(k:Nat)(h:k<1000):Pf:=⟨wnd e px py k+rayZ (e k) px py=wnd e px py (k+1)/\(wnd e px py k+rayZ (e k) px py).natAbs<=2000,rfl,by have:=wnd_bd e px py (k+1);unfold wnd at this;omega⟩
def shpC(f:FuncId)(g:Sh->Int->Int->AV)(c:Sh->List Prop)(h:∀s px py,All (c s)->Fok Tryz.prog f [shpV s,ptV px py lim] (g s px py)):Con where
 f:=f
 g:=fun | [⟨true,l⟩,⟨true,m⟩]=>(match toSh l,ptB m with|some z,some p=>some (g z.1 p.1 p.2,z.2++c z.1)|_,_=>none)|_=>none
 ok:=by
  intro args res ps h' hp
  split at h'<;>try cases h'
  split at h'<;>cases h'
  rename_i he hq
  obtain⟨p1,p2⟩:=All.app hp
  exact (h _ _ _ p2).pre fun W=>rvs_1 (fun v hv=>toSh_rep he p1 hv) (rvs_1 (ptB_lim hq) rvs_0)
end

set_option maxRecDepth 100000
section
theorem schk_ok(s:Sh):Fok Tryz.prog 66 [shpV s] (.one (inV (chkS s) lim)):=by
 by_cases h:early s
 ·exact ck_early s h
 ·exact ck_chain s h
def cShChk:Con:=shC 66 (fun s=>.one (inV (chkS s) lim)) (fun _=>[]) fun s _=>schk_ok s
def ptL'(px py:Int):List It:=[.i px lim,.i py lim]
theorem ins1_ok(e:Ed)(s:Sh)(px py:Int)(ho:e.ok=true)(hb:Bd b27 px py)(hr:0<=s.r/\s.r<=4194304):Fok Tryz.prog 68 [edV e lim lim,⟨false,[.fp (ptL' px py)]⟩,⟨false,[.fp (shpV s).l]⟩] (.one (blV (nearC e px py s.r))) :=
 fok [cNear] [] [pP ho,pP hb,pP hr] (by kernel_rfl)
end

set_option maxHeartbeats 2000000
set_option maxRecDepth 100000
section
def Asks(w:World)(f:FuncId)(cs:Array Value)(n:Nat)(e:Nat->Ed)(P:Nat->Bool):Prop:=(∀args w,(callFunc f args).run Tryz.prog w=.ok (.enter f args) w)/\∀i,i<n->∀W,Ext w W->Calls Tryz.prog f (#[edA (e i)]++cs) W fun x W'=>x=.returned (.bool (P i))/\Ext W W'
theorem idx_ok(f:FuncId)(c1 c2:Value)(p:Option Addr)(n c:Nat)(e:Nat->Ed)(P:Nat->Bool)(w:World)(hn:n<=1000)(hR:EdRow w.heap.size w p n e)(hf:Asks w f #[c1,c2] n e P) :
  Calls Tryz.prog 111 #[.slice p n c,.func (.func f) #[] #[c1,c2]] w fun x w'=>∃z:Int,x=.returned (.int .i64 z)/\Hid (decide (0<=z)=!allB (fun i=>!P i) n)/\Ext w w':=by
 go_enter Tryz.func111,Tryz.ntmps111
 go_wp2
 go_loopw [8] (fun i wr=>∃k:Nat,i=.int .i64 (k:Int)/\k<=n/\(∀j,j<k->P j=false)/\Ext w wr) (fun i _=>n-(intOf i).toNat)
 case atStart=>exact⟨0,rfl,Nat.zero_le _,nofun,Below.refl _ _⟩
 case round =>
  obtain⟨k,rfl,hk,hP,hx⟩:=hrel
  by_cases hlt:k<n
  ·obtain ⟨g, o, rfl, hg, E0⟩ := hR k hlt
   obtain⟨a0,a1,a2,a3,a4,a5,a6⟩:=E0.below hx hg
   have hc:=hf.2 k hlt wr hx
   have eg:=hf.1
   have ix0:0<=(k:Int):=by omega
   have ix2:(k:Int)<(n:Int):=by omega
   have HP:=Lib.hid hP
   have HX:=Lib.hid hx
   have HF:=Lib.hid hf
   have HR:=Lib.hid hR
   unfold edA at hc
   clear hf hR hP hx E0
   have HC:=Lib.hid hc
   clear hc
   go_wp2_with fail
   refine HC.out.mono ?_
   rintro e' W1 ⟨rfl,hx1⟩
   have hx2:=Lib.hid (Ext.step HX.out hx1)
   clear hx1 HC a0 a1 a2 a3 a4 a5 a6
   cases hb:P k with
   | true =>
    have hz:Hid (decide ((0:Int)<=(k:Int))=!allB (fun i=>!P i) n):=Lib.hid (by
     have:allB (fun i=>!P i) n=false:=by
      cases h:allB (fun i=>!P i) n with
      | false=>rfl
      | true=>have:=allB_t.1 h k hlt;rw[hb] at this;cases this
     rw[this];simp)
    go_wp2
    go_ret
    exact⟨_,rfl,hz,hx2.out⟩
   | false =>
    have HP':Hid (∀j,j<k+1->P j=false):=Lib.hid fun j hj=>by
     rcases Nat.lt_or_eq_of_le (Nat.le_of_lt_succ hj) with h|h
     ·exact HP.out j h
     ·rw[h];exact hb
    have wk:IntKind.i64.wrap ((k:Int)+1)=((k+1:Nat):Int):=by rw[wrap_in (by unfold I64;omega)];omega
    go_wp2
    exact⟨⟨k+1,by simp,by omega,HP'.out,hx2.out⟩,by simp[intOf];omega⟩
  ·obtain rfl : k = n := by omega
   have ix:¬((k:Int)<(k:Int)):=by omega
   have hz:Hid (decide ((0:Int) <= -1)=!allB (fun i=>!P i) k):=Lib.hid (by
    rw[allB_t.2 fun j hj=>by rw[hP j hj];rfl];rfl)
   have HX:=Lib.hid hx
   clear hf hR hP hx
   go_wp2
   go_ret
   exact⟨_,rfl,hz,HX.out⟩
theorem con_ok(f:FuncId)(c1 c2:Value)(p:Option Addr)(n c:Nat)(e:Nat->Ed)(P:Nat->Bool)(w:World)(hn:n<=1000)(hR:EdRow w.heap.size w p n e)(hf:Asks w f #[c1,c2] n e P) :
  Calls Tryz.prog 67 #[.slice p n c,.func (.func f) #[] #[c1,c2]] w fun x w'=>x=.returned (.bool (!allB (fun i=>!P i) n))/\Ext w w':=by
 go_enter Tryz.func67,Tryz.ntmps67
 have hc:=idx_ok f c1 c2 p n c e P w hn hR hf
 have HI:=Lib.hid hc
 clear hc hf hR
 go_wp2_with fail
 refine HI.out.mono ?_
 rintro e' W1 ⟨z,rfl,hz,hx⟩
 go_wp2
 go_ret
 exact⟨by rw[<- hz.out];rfl,hx⟩
end

set_option maxHeartbeats 2000000
set_option maxRecDepth 100000
section
theorem arrIn{a:Array Value}(h:a.size=66):∃x0 x1 x2 x3 x4 x5 x6 x7 x8 x9 x10 x11 x12 x13 x14 x15 x16 x17 x18 x19 x20 x21 x22 x23 x24 x25 x26 x27 x28 x29 x30 x31 x32 x33 x34 x35 x36 x37 x38 x39 x40 x41 x42 x43 x44 x45 x46 x47 x48 x49 x50 x51 x52 x53 x54 x55 x56 x57 x58 x59 x60 x61 x62 x63 x64 x65,a=List.toArray (x0::x1::x2::x3::x4::x5::x6::x7::x8::x9::x10::x11::x12::x13::x14::x15::x16::x17::x18::x19::x20::x21::x22::x23::x24::x25::x26::x27::x28::x29::x30::x31::x32::x33::x34::x35::x36::x37::x38::x39::x40::x41::x42::x43::x44::x45::x46::x47::x48::x49::x50::x51::x52::x53::x54::x55::x56::x57::x58::x59::x60::x61::x62::x63::x64::x65::[]):=by
 obtain⟨l⟩:=a
 match l,h with
 | x0::x1::x2::x3::x4::x5::x6::x7::x8::x9::x10::x11::x12::x13::x14::x15::x16::x17::x18::x19::x20::x21::x22::x23::x24::x25::x26::x27::x28::x29::x30::x31::x32::x33::x34::x35::x36::x37::x38::x39::x40::x41::x42::x43::x44::x45::x46::x47::x48::x49::x50::x51::x52::x53::x54::x55::x56::x57::x58::x59::x60::x61::x62::x63::x64::x65::[],_=>exact⟨_,_,_,_,_,_,_,_,_,_,_,_,_,_,_,_,_,_,_,_,_,_,_,_,_,_,_,_,_,_,_,_,_,_,_,_,_,_,_,_,_,_,_,_,_,_,_,_,_,_,_,_,_,_,_,_,_,_,_,_,_,_,_,_,_,_,rfl⟩
def inQD(s:Sh)(px py:Int):Ds:=⟨[(2,.eq (ptrN 0)),(3,.eq (ptrN 1))],shB s++[ptM px py]⟩
def inQE(s:Sh)(px py:Int)(b:Bool):Ds:=⟨[(45,.eq ⟨false,[.b b]⟩),(2,.eq (ptrN 0)),(3,.eq (ptrN 1))],shB s++[ptM px py]⟩
theorem in_reg(B2 B3 n c:Nat)(p:Option Addr)(e:Nat->Ed)(b:Bool)(k rr px py:Int)(w:World)(x0 x1 x4 x5 x6 x7 x8 x9 x10 x11 x12 x13 x14 x15 x16 x17 x18 x19 x20 x21 x22 x23 x24 x25 x26 x27 x28 x29 x30 x31 x32 x33 x34 x35 x36 x37 x38 x39 x40 x41 x42 x43 x44 x45 x46 x47 x48 x49 x50 x51 x52 x53 x54 x55 x56 x57 x58 x59 x60 x61 x62 x63 x64 x65:Value)
  (m0:w.cell? ⟨B2,0,none⟩=some (.int .i64 k)) (m1:w.cell? ⟨B2,1,none⟩=some (.slice p n c)) (m2:w.cell? ⟨B2,2,none⟩=some (.int .i64 rr))
  (hC:Calls Tryz.prog 67 #[.slice p n c,.func (.func 68) #[] #[.pointer (some ⟨B3,0,none⟩),.pointer (some ⟨B2,0,none⟩)]] w fun x w'=>x=.returned (.bool b)/\Ext w w') :
  ((regOf 4 (bodyF Tryz.prog 28)).getD .skip).wp Tryz.prog (fun e a W=>e=.normal/\(∃y0 y1 y2:Value,a={ tmps:=List.toArray (x0::x1::.pointer (some ⟨B2,0,none⟩)::.pointer (some ⟨B3,0,none⟩)::x4::x5::x6::x7::x8::x9::x10::x11::x12::x13::x14::x15::x16::x17::x18::x19::x20::x21::x22::x23::x24::x25::x26::x27::x28::x29::x30::x31::x32::x33::x34::x35::x36::x37::x38::x39::x40::x41::y0::y1::y2::.bool b::x46::x47::x48::x49::x50::x51::x52::x53::x54::x55::x56::x57::x58::x59::x60::x61::x62::x63::x64::x65::[]),defers:=[] })/\Ext w W) { tmps:=List.toArray (x0::x1::.pointer (some ⟨B2,0,none⟩)::.pointer (some ⟨B3,0,none⟩)::x4::x5::x6::x7::x8::x9::x10::x11::x12::x13::x14::x15::x16::x17::x18::x19::x20::x21::x22::x23::x24::x25::x26::x27::x28::x29::x30::x31::x32::x33::x34::x35::x36::x37::x38::x39::x40::x41::x42::x43::x44::x45::x46::x47::x48::x49::x50::x51::x52::x53::x54::x55::x56::x57::x58::x59::x60::x61::x62::x63::x64::x65::[]),defers:=[] } w:=by
 have hb:bodyF Tryz.prog 28=(Tryz.f28.body).getD .skip:=by unfold bodyF;rw[Tryz.func28];rfl
 rw[hb]
 simp only[Tryz.f28,Option.getD,regOf,Nat.reduceEqDiff,reduceIte]
 have HC:=Lib.hid hC
 clear hC
 go_wp2_with fail
 refine HC.out.mono ?_
 rintro x W ⟨rfl,hx⟩
 go_wp2
 try exact⟨rfl,⟨_,_,_,rfl⟩,hx⟩
theorem shJ{V W W':World}{r:Nat->Nat}{cm:Nat->List Value}{n:Nat}{d d':Ds}{a a':Act}(hJ:J V r cm (mkS n d) a W)(hx:Ext W W')(hm:d'.m=d.m)(hn:a'.tmps.size=n)(hd:a'.defers=[])(hl:∀x∈d'.l,RepV V W' r d.m.length x.2.v (a'.tmps.getD x.1 undef)):JJ V (mkS n d') a' W':=by
 obtain⟨⟨hM,_⟩,_⟩:=hJ
 refine⟨r,cm,⟨?_,hd⟩,hn,fun i v hv=>?_⟩
 ·show RM V r cm d'.m W'
  rw[hm]
  exact hM.step hx
 ·rcases Tr.sets_get (Tm.get_lt hv).2 with rfl | ⟨x, hx', rfl⟩
  ·trivial
  ·show RepV V W' r d'.m.length x.v _
   rw[hm]
   exact hl _ hx'
theorem rv_bk{V W:World}{r:Nat->Nat}{k:Nat}{b:Bool}:RepV V W r k ⟨false,[.b b]⟩ (.bool b):=⟨[_],⟨[_],[],rfl,rfl,rfl⟩,rfl,fun _=>rfl⟩
theorem in_orc(s:Sh)(px py:Int)(g:Good s)(hb:Bd b27 px py):OrcOk Tryz.prog (lpC 28 9) ⟨nF 28,inQD s px py,.nm,inQE s px py (!allB (farB s px py) s.n)⟩:=by
 have el:lpC 28 9=(regOf 4 (bodyF Tryz.prog 28)).getD .skip:=by kernel_rfl
 have hnf:nF 28=66:=by kernel_rfl
 rw[el,hnf]
 rintro V ⟨tm,df⟩ w Q ⟨r,cm,hJ⟩ hQ
 obtain⟨⟨hM,hd⟩,hT⟩:=id hJ
 obtain rfl:df=[]:=hd
 obtain⟨x0,x1,x2,x3,x4,x5,x6,x7,x8,x9,x10,x11,x12,x13,x14,x15,x16,x17,x18,x19,x20,x21,x22,x23,x24,x25,x26,x27,x28,x29,x30,x31,x32,x33,x34,x35,x36,x37,x38,x39,x40,x41,x42,x43,x44,x45,x46,x47,x48,x49,x50,x51,x52,x53,x54,x55,x56,x57,x58,x59,x60,x61,x62,x63,x64,x65,rfl⟩:=arrIn (show tm.size=66 from hT.1)
 have t2:RepV V w r (mkS 66 (inQD s px py)).m.length (ptrN 0) x2:=hT.2 2 (.one (ptrN 0)) (by kernel_rfl)
 have t3:RepV V w r (mkS 66 (inQD s px py)).m.length (ptrN 1) x3:=hT.2 3 (.one (ptrN 1)) (by kernel_rfl)
 obtain rfl:x2=.pointer (some ⟨r 0,0,none⟩):=by simpa using t2.scal.2
 obtain rfl:x3=.pointer (some ⟨r 1,0,none⟩):=by simpa using t3.scal.2
 obtain⟨g0,cs0,d0,ec0,rep0,-⟩:=hM.blk 0 ⟨24,(shpV s).l⟩ rfl
 obtain⟨g1,cs1,d1,ec1,rep1,-⟩:=hM.blk 1 ⟨32,[.i px lim,.i py lim]⟩ rfl
 have hx:=hM.ext
 obtain⟨_,_,rfl,⟨rfl,ik⟩,_,_,rfl,hro,_,_,rfl,⟨rfl,ir⟩,rfl⟩:=rep0
 obtain⟨v,rfl,hrow⟩:=hro
 have hrow':=hrow
 obtain⟨p,c,e2,h1,h2,h3⟩:=hrow'
 subst e2
 obtain⟨p',c',e3,hnc,hcm,hR⟩:=ro_row (V:=V) (W:=w) (r:=r) (k:=0) ⟨_,rfl,hrow⟩
 cases e3
 obtain⟨_,_,rfl,⟨rfl,ix⟩,_,_,rfl,⟨rfl,iy⟩,rfl⟩:=rep1
 rw[ec0] at g0
 rw[ec1] at g1
 have n40:=g.n40
 have rv:∀ {W:World} {l:List It} {cs ds:List Value} {b:Nat} {T:TypeId},W.heap[b]? = some (.cells (cs++ds).toArray T)->RepF W l cs->RepV W W (fun _=>0) 0 ⟨false,[.fp l]⟩ (.pointer (some ⟨b,0,none⟩)):=fun {W l cs ds b T} hg hf=>⟨[_],⟨[_],[],rfl,⟨b,0,_,(T,(0,0)),rfl,hg,Nat.zero_le _,cs,ds,by simp,hf⟩,rfl⟩,rfl,fun _=>rfl⟩
 have hrG:RowC (RepG V) V 7 s.n (fun i=>edI (s.e i)) (.slice p s.n c):=⟨p,c,rfl,h1,h2,fun i hi=>by
  obtain⟨g',o,xs,T,k1,k2,k3,cs,d,k4,k5⟩:=h3 i hi
  obtain⟨_,_,rfl,q0,_,_,rfl,q1,_,_,rfl,q2,_,_,rfl,q3,_,_,rfl,q4,_,_,rfl,q5,_,_,rfl,q6,rfl⟩:=k5
  exact⟨g',o,xs,T,k1,k2,k3,_,d,k4,_,_,rfl,q0,_,_,rfl,q1,_,_,rfl,q2,_,_,rfl,q3,_,_,rfl,q4,_,_,rfl,q5,_,_,rfl,q6,rfl⟩⟩
 have hA:Asks w 68 #[.pointer (some ⟨r 1,0,none⟩),.pointer (some ⟨r 0,0,none⟩)] s.n s.e (fun i=>nearC (s.e i) px py s.r):=by
  refine⟨enters_of Tryz.func68 (by kernel_rfl) rfl,fun i hi W hW=>?_⟩
  have hfok:=ins1_ok (s.e i) s px py (g.ok i hi) hb g.r
  obtain⟨g',o,xs,T,k1,k2,k3,cs,d,k4,k5⟩:=h3 i hi
  obtain⟨_,_,rfl,⟨rfl,a0⟩,_,_,rfl,⟨rfl,a1⟩,_,_,rfl,⟨rfl,a2⟩,_,_,rfl,⟨rfl,a3⟩,_,_,rfl,⟨rfl,a4⟩,_,_,rfl,⟨rfl,a5⟩,_,_,rfl,⟨rfl,a6⟩,rfl⟩:=k5
  have F0:RepF V (shpV s).l [.int .i64 s.k,.slice p s.n c,.int .i64 s.r]:=⟨[_],_,rfl,⟨rfl,ik⟩,[_],_,rfl,⟨_,rfl,hrG⟩,[_],[],rfl,⟨rfl,ir⟩,rfl⟩
  have F1:RepF V (ptL' px py) [.int .i64 px,.int .i64 py]:=⟨[_],_,rfl,⟨rfl,ix⟩,[_],[],rfl,⟨rfl,iy⟩,rfl⟩
  have q0:=rv (heap_ext g0 hW) (F0.ext (Ext.step hx hW))
  have q1:=rv (heap_ext g1 hW) (F1.ext (Ext.step hx hW))
  have q2:RepV W W (fun _=>0) 0 (edV (s.e i) lim lim) (edA (s.e i)):=⟨_,⟨[_],_,rfl,⟨rfl,a0⟩,[_],_,rfl,⟨rfl,a1⟩,[_],_,rfl,⟨rfl,a2⟩,[_],_,rfl,⟨rfl,a3⟩,[_],_,rfl,⟨rfl,a4⟩,[_],_,rfl,⟨rfl,a5⟩,[_],[],rfl,⟨rfl,a6⟩,rfl⟩,rfl,nofun⟩
  refine (hfok W [edA (s.e i),.pointer (some ⟨r 1,0,none⟩),.pointer (some ⟨r 0,0,none⟩)] ⟨_,_,rfl,q2,_,_,rfl,q1,_,_,rfl,q0,rfl⟩).mono ?_
  rintro x W' ⟨v,rfl,hv,hxx⟩
  obtain rfl:v=.bool (nearC (s.e i) px py s.r):=by simpa using (RepV.scal hv).1
  exact⟨rfl,hxx⟩
 have hC:=con_ok _ _ _ p s.n c s.e _ w (by omega) (fun i hi=>by obtain⟨g,o,k1,k2,k3⟩:=hR i hi;exact⟨g,o,k1,Nat.lt_of_lt_of_le k2 hx.size,k3.below hx k2⟩) hA
 refine Code.wp_mono ?_ (in_reg (r 0) (r 1) s.n c p s.e (!allB (farB s px py) s.n) s.k s.r px py w x0 x1 x4 x5 x6 x7 x8 x9 x10 x11 x12 x13 x14 x15 x16 x17 x18 x19 x20 x21 x22 x23 x24 x25 x26 x27 x28 x29 x30 x31 x32 x33 x34 x35 x36 x37 x38 x39 x40 x41 x42 x43 x44 x45 x46 x47 x48 x49 x50 x51 x52 x53 x54 x55 x56 x57 x58 x59 x60 x61 x62 x63 x64 x65 (by rw[cell_of_row _ _ _ _ _ _ g0];simp) (by rw[cell_of_row _ _ _ _ _ _ g0];simp) (by rw[cell_of_row _ _ _ _ _ _ g0];simp) hC)
 rintro e a W ⟨rfl,⟨y0,y1,y2,rfl⟩,hxW⟩
 refine hQ _ _ (shJ hJ hxW rfl rfl rfl fun x hx'=>?_)
 simp only[inQE,List.mem_cons,List.not_mem_nil,or_false] at hx'
 rcases hx' with rfl|rfl|rfl
 ·exact rv_bk
 ·exact t2.imp (RepI.ext hxW)
 ·exact t3.imp (RepI.ext hxW)
end

set_option maxRecDepth 100000
section
def KIn:List Con:=[cBoxQ,cShChk,cRay]
def inK(s:Sh)(px py:Int)(j:Nat):Ds:=⟨[(49,.le (inV (j:Int) 2000)),(6,.le (inV (wnd s.e px py j) 2000)),(2,.eq (ptrN 0)),(3,.eq (ptrN 1)),(47,.eq (roV s)),(48,.eq (lnE s.n))],shB s++[ptM px py]⟩
def inS(s:Sh)(px py:Int):List Pf:=[pR (ptrN 0),pR (ptrN 1)]++pSh s++pPt px py
def inQ'(s:Sh)(h:chkS s=0)(hn:s.n<=1000):List Pf:=[pEd s,pP hn,pEd s,pF (ne_F (show ¬chkS s≠0 by simpa using h))]
theorem ins_ok(s:Sh)(px py:Int)(hn:s.n<=1000):Fok Tryz.prog 28 [shpV s,ptV px py lim] (.one (blV (insS s px py))):=by
 by_cases h1:chkS s=0
 rotate_left
 ·exact Fok.bb (show insS s px py=false by unfold insS;rw[if_pos h1]) (fok KIn [true] [pEd s,pP hn,pEd s,pT (ne_T h1)] (by kernel_rfl))
 have g:=chk_good h1
 have hI:insS s px py=if inBx s px py=false then false else if allB (farB s px py) s.n=false then true else decide (s.k=2)&&decide (wnd s.e px py s.n≠0):=by
  unfold insS;rw[if_neg (by simpa using h1)]
 by_cases a0:px<bX0 s
 ·exact Fok.bb (show insS s px py=false by rw[hI,if_pos (by unfold inBx inB;simp;omega)]) (fok KIn [false,true] (inQ' s h1 hn++[pT (lt_tt a0)]) (by kernel_rfl))
 by_cases a1:px>bX1 s
 ·exact Fok.bb (show insS s px py=false by rw[hI,if_pos (by unfold inBx inB;simp;omega)]) (fok KIn [false,false,true] (inQ' s h1 hn++[pF (lt_ff a0),pT (gt_T a1)]) (by kernel_rfl))
 by_cases a2:py<bY0 s
 ·exact Fok.bb (show insS s px py=false by rw[hI,if_pos (by unfold inBx inB;simp;omega)]) (fok KIn [false,false,false,true] (inQ' s h1 hn++[pF (lt_ff a0),pF (gt_F a1),pT (lt_tt a2)]) (by kernel_rfl))
 by_cases a3:py>bY1 s
 ·exact Fok.bb (show insS s px py=false by rw[hI,if_pos (by unfold inBx inB;simp;omega)]) (fok KIn [false,false,false,false,true] (inQ' s h1 hn++[pF (lt_ff a0),pF (gt_F a1),pF (lt_ff a2),pT (gt_T a3)]) (by kernel_rfl))
 have h2:inBx s px py=true:=by unfold inBx inB;simp;omega
 have hb:=in_bd g h2
 have h40:=g.n40
 have o4:=in_orc s px py g hb
 rw[hI,if_neg (by simp[h2])]
 cases h3:allB (farB s px py) s.n with
 | false =>
  rw[h3] at o4
  exact Fok.bb (b:=true) (by simp) (fokL [] KIn _ (LT.cons o4 LT.nil) [false,false,false,false,false] (inQ' s h1 hn++[pF (lt_ff a0),pF (gt_F a1),pF (lt_ff a2),pF (gt_F a3)]++inS s px py) (by kernel_rfl))
 | true =>
  rw[h3] at o4
  have o:=orc (X:=[]) (K:=KIn) (f:=28) (id:=16) (n:=nF 28) s.n (inK s px py) (fun _=>[]) (e:=.ex 0) (d1:=⟨[(6,.le (inV (wnd s.e px py s.n) 2000)),(2,.eq (ptrN 0))],shB s⟩) (by kernel_rfl) (fun _=>by kernel_rfl) (fun _ _=>LT.nil)
   (fun k hk => by
    have hok:=g.ok k hk
    have ix:0<=(k:Int)/\(k:Int)<s.n:=by omega
    exact⟨[true],[pT (lt_tt ix.2),pP ix,pP hok,pP hb,pI k (by omega),pW s.e px py k (by omega),pR (ptrN 0),pR (ptrN 1),pR (roV s),pR (lnE s.n)]++pSh s++pPt px py,by kernel_rfl⟩)
   ⟨[false],[pF (lt_ff (show ¬(s.n:Int)<(s.n:Int) by omega)),⟨wnd s.e px py s.n=wnd s.e px py s.n,rfl⟩,pR (ptrN 0)]++pSh s,by kernel_rfl⟩ nofun
  by_cases h4:s.k=2
  ·exact Fok.bb (b:=wnd s.e px py s.n != 0) (by rw[if_neg (by decide),h4,Bool.eq_iff_iff];simp) (fokL [] KIn _ (LT.cons o4 (LT.cons o LT.nil)) [false,false,false,false,false,true] (inQ' s h1 hn++[pF (lt_ff a0),pF (gt_F a1),pF (lt_ff a2),pF (gt_F a3)]++inS s px py++[⟨(0:Int)=((0:Nat):Int),rfl⟩,⟨(0:Int)=wnd s.e px py 0,rfl⟩,pR (ptrN 0),pR (ptrN 1),pR (roV s),pR (lnE s.n)]++pSh s++pPt px py++[pT (eq_tt h4)]) (by kernel_rfl))
  ·exact Fok.bb (b:=false) (by rw[if_neg (by decide)];simp[h4]) (fokL [] KIn _ (LT.cons o4 (LT.cons o LT.nil)) [false,false,false,false,false,false] (inQ' s h1 hn++[pF (lt_ff a0),pF (gt_F a1),pF (lt_ff a2),pF (gt_F a3)]++inS s px py++[⟨(0:Int)=((0:Nat):Int),rfl⟩,⟨(0:Int)=wnd s.e px py 0,rfl⟩,pR (ptrN 0),pR (ptrN 1),pR (roV s),pR (lnE s.n)]++pSh s++pPt px py++[pF (eq_ff h4)]) (by kernel_rfl))
def cIns:Con:=shpC 28 (fun s px py=>.one (blV (insS s px py))) (fun s=>[s.n<=1000]) fun s px py h=>ins_ok s px py h.1
end

set_option maxHeartbeats 4000000
set_option maxRecDepth 100000
section
section
variable {P:Program} {ops:Array Oper} {Q:Exit->Act->World->Prop} {o:Oper} {a:Act} {w W:World}
theorem wpl_skip{rest:List Oper}(hw:Region.wanted o (yielded ops a.tmps)=true)(h:(execOp a.eval o).run P w=.ok .skip W)(hk:wpList P ops Q rest (a.put o.dst undef) W):wpList P ops Q (o::rest) a w:=by
 unfold wpList
 rw[if_pos hw]
 exact .inl (Gives.wp (gives_skip (R:=fun v w'=>v=undef/\w'=W) h ⟨rfl,rfl⟩) fun v w' h=>by obtain⟨rfl,rfl⟩:=h;exact hk)
theorem wpl_val{rest:List Oper}{x:Value}(hw:Region.wanted o (yielded ops a.tmps)=true)(h:(execOp a.eval o).run P w=.ok (.value x) W)(hk:wpList P ops Q rest (a.put o.dst x) W):wpList P ops Q (o::rest) a w:=by
 unfold wpList
 rw[if_pos hw]
 exact .inl (Gives.wp (gives_val (R:=fun v w'=>v=x/\w'=W) h ⟨rfl,rfl⟩) fun v w' h=>by obtain⟨rfl,rfl⟩:=h;exact hk)
theorem ex_load{t T:TypeId}{x:Operand}{g n j:Nat}{b:Bool}{cs:List Value}(ho:o.op=.load t x)(hx:a.eval x=.pointer (some ⟨g,j,none⟩))(hg:w.heap[g]? = some (.cells cs.toArray T))(h1:szT P t=some n)(h2:agT P t=some b)(h3:j+n<=cs.length)(h4:b=false->n=1):(execOp a.eval o).run P w=.ok (.value (cellsV b ((cs.drop j).take n))) w:=by
 refine exec_val (m:=Instr.loadAt t (a.eval x)) (by unfold execOp;rw[ho]) ?_
 rw[hx]
 simp only[Instr.loadAt,Instr.sureAddr,Sem.run_bind,Sem.run_pure,Result.andThen_ok]
 exact run_loadVarT hg h1 h2 h3 h4
theorem ex_store{t T:TypeId}{x y:Operand}{g n j:Nat}{old vs:List Value}(ho:o.op=.store t x y)(hx:a.eval x=.pointer (some ⟨g,j,none⟩))(hg:w.heap[g]? = some (.cells old.toArray T))(hy:(a.eval y).cells=vs.toArray)(hn:szT P t=some n)(hl:vs.length=n)(hj:j+vs.length<=old.length)(h1:∀v∈vs,v.oneCell'=true) :
  (execOp a.eval o).run P w=.ok .skip (w.setRow g (old.take j++(vs++old.drop (j+vs.length))).toArray):=by
 have:=run_storeA (P:=P) hg hy hn hl hj h1
 unfold execOp
 simp only[ho,hx,Sem.run_bind,this,Result.andThen_ok,Sem.run_pure]
end
structure But2 (a b:Nat) (W W':World):Prop where
 os:W'.os=W.os
 tape:W'.tape=W.tape
 output:W'.output=W.output
 size:W.heap.size<=W'.heap.size
 block:∀k,k<W.heap.size->k≠a->k≠b->W'.heap[k]? = W.heap[k]?
theorem But2.ext{a b:Nat}{W W':World}(h:Ext W W'):But2 a b W W':=⟨h.os,h.tape,h.output,h.size,fun k hk _ _=>h.block k hk⟩
theorem But2.fst{a b:Nat}{W W' W2:World}(h:But2 a b W W')(k:OnlyB a W' W2):But2 a b W W2:=⟨k.os.trans h.os,k.tape.trans h.tape,k.output.trans h.output,by rw[k.size];exact h.size,fun i hi ha hb=>(k.block i ha).trans (h.block i hi ha hb)⟩
theorem But2.snd{a b:Nat}{W W' W2:World}(h:But2 a b W W')(k:OnlyB b W' W2):But2 a b W W2:=⟨k.os.trans h.os,k.tape.trans h.tape,k.output.trans h.output,by rw[k.size];exact h.size,fun i hi ha hb=>(k.block i hb).trans (h.block i hi ha hb)⟩
theorem keep_ok(Bs Bl:Nat)(y0 y1 y2 y3 y4 y5 y6 y7 y8 y9 y10 y11 y12 y13 y14 y15 y16 y17 y18 y19 y20 x0 x1 x2 x3 x4 x5 x6 x7 x8 x9 x10 x11 x12 x13 x14 x15 x16 x17 x18 x19 x20:Value)(sm:Bool)(c:Int)(w:World)(hs:w.heap[Bs]? = some (.cells #[.bool sm] 4))(hl:w.heap[Bl]? = some (.cells #[x0,x1,x2,x3,x4,x5,x6,x7,x8,x9,x10,x11,x12,x13,x14,x15,x16,x17,x18,x19,x20] 42))(hne:Bs≠Bl)(h1:∀v ∈ [y0,y1,y2,y3,y4,y5,y6,y7,y8,y9,y10,y11,y12,y13,y14,y15,y16,y17,y18,y19,y20],v.oneCell'=true)
  (hc:∀W,Ext w W->Calls Tryz.prog 24 #[.agg #[y1,y2,y3,y4,y5,y6],.agg #[x1,x2,x3,x4,x5,x6]] W fun e W'=>e=.returned (.int .i64 c)/\Ext W W') :
  Calls Tryz.prog 88 #[.agg #[y0,y1,y2,y3,y4,y5,y6,y7,y8,y9,y10,y11,y12,y13,y14,y15,y16,y17,y18,y19,y20],.pointer (some ⟨Bs,0,none⟩),.pointer (some ⟨Bl,0,none⟩)] w fun e W'=>(∃v,e=.returned v)/\But2 Bs Bl w W'/\if (!sm||decide (c<0))=true then W'.heap[Bs]? = some (.cells #[.bool true] 4)/\W'.heap[Bl]? = some (.cells #[y0,y1,y2,y3,y4,y5,y6,y7,y8,y9,y10,y11,y12,y13,y14,y15,y16,y17,y18,y19,y20] 42) else Ext w W':=by
 have bs:Bs<w.heap.size:=(Array.getElem?_eq_some_iff.1 hs).1
 have bl:Bl<w.heap.size:=(Array.getElem?_eq_some_iff.1 hl).1
 have ls:w.cell? ⟨Bs,0,none⟩=some (.bool sm):=by rw[cell_of_row _ _ _ _ _ _ hs];simp
 have l0:∀i,w.cell? ⟨Bl,i,none⟩=[x0,x1,x2,x3,x4,x5,x6,x7,x8,x9,x10,x11,x12,x13,x14,x15,x16,x17,x18,x19,x20][i]? := fun i=>by rw[cell_of_row _ _ _ _ _ _ hl];simp
 have l1:=l0 1
 have l2:=l0 2
 have l3:=l0 3
 have l4:=l0 4
 have l5:=l0 5
 have l6:=l0 6
 simp only[List.getElem?_cons_succ,List.getElem?_cons_zero] at l1 l2 l3 l4 l5 l6
 have HC:=Lib.hid hc
 have HL:=Lib.hid hl
 have HS:=Lib.hid hs
 have H1:=Lib.hid h1
 clear hc l0 hl hs h1
 have fin:∀(W:World) (z3 z4 z5 z6 z7 z8 z9 z10 z11 z12 z13 z14:Value) (Q:Exit->Act->World->Prop),But2 Bs Bl w W->W.heap[Bs]? = some (.cells #[.bool sm] 4)->W.heap[Bl]? = some (.cells #[x0,x1,x2,x3,x4,x5,x6,x7,x8,x9,x10,x11,x12,x13,x14,x15,x16,x17,x18,x19,x20] 42)->(∃g,z3=.pointer (some ⟨g,0,none⟩)/\W.heap[g]? = some (.cells #[y0,y1,y2,y3,y4,y5,y6,y7,y8,y9,y10,y11,y12,y13,y14,y15,y16,y17,y18,y19,y20] 42)) ->
   (∀a W',a.defers=[]->But2 Bs Bl w W'->W'.heap[Bs]? = some (.cells #[.bool true] 4)->W'.heap[Bl]? = some (.cells #[y0,y1,y2,y3,y4,y5,y6,y7,y8,y9,y10,y11,y12,y13,y14,y15,y16,y17,y18,y19,y20] 42)->Q .normal a W') ->
   ((regOf 2 (bodyF Tryz.prog 88)).getD .skip).wp Tryz.prog Q { tmps:=#[.agg #[y0,y1,y2,y3,y4,y5,y6,y7,y8,y9,y10,y11,y12,y13,y14,y15,y16,y17,y18,y19,y20],.pointer (some ⟨Bs,0,none⟩),.pointer (some ⟨Bl,0,none⟩),z3,z4,z5,z6,z7,z8,z9,z10,z11,z12,z13,z14],defers:=[] } W:=by
  rintro W z3 z4 z5 z6 z7 z8 z9 z10 z11 z12 z13 z14 Q hB hs hl ⟨g,rfl,hg⟩ hQ
  have hb:bodyF Tryz.prog 88=(Tryz.f88.body).getD .skip:=by unfold bodyF;rw[Tryz.func88];rfl
  rw[hb]
  simp only[Tryz.f88,Option.getD,regOf,Nat.reduceEqDiff,reduceIte]
  refine wp_region_lit ?_
  refine wpl_val (x:=cellsV true ((([y0,y1,y2,y3,y4,y5,y6,y7,y8,y9,y10,y11,y12,y13,y14,y15,y16,y17,y18,y19,y20]:List Value).drop 0).take 21)) (W:=W) (by kernel_rfl) ?_ ?_
  ·exact ex_load (cs:=[y0,y1,y2,y3,y4,y5,y6,y7,y8,y9,y10,y11,y12,y13,y14,y15,y16,y17,y18,y19,y20]) rfl (by rfl) hg (n:=21) (by kernel_rfl) (b:=true) (by kernel_rfl) (by simp) nofun
  obtain⟨o1,o2⟩:=onlyB_setRow (cs':=(([x0,x1,x2,x3,x4,x5,x6,x7,x8,x9,x10,x11,x12,x13,x14,x15,x16,x17,x18,x19,x20]:List Value).take 0++([y0,y1,y2,y3,y4,y5,y6,y7,y8,y9,y10,y11,y12,y13,y14,y15,y16,y17,y18,y19,y20]++([x0,x1,x2,x3,x4,x5,x6,x7,x8,x9,x10,x11,x12,x13,x14,x15,x16,x17,x18,x19,x20]:List Value).drop (0+21))).toArray) hl
  have o2':(W.setRow Bl (([x0,x1,x2,x3,x4,x5,x6,x7,x8,x9,x10,x11,x12,x13,x14,x15,x16,x17,x18,x19,x20]:List Value).take 0++([y0,y1,y2,y3,y4,y5,y6,y7,y8,y9,y10,y11,y12,y13,y14,y15,y16,y17,y18,y19,y20]++([x0,x1,x2,x3,x4,x5,x6,x7,x8,x9,x10,x11,x12,x13,x14,x15,x16,x17,x18,x19,x20]:List Value).drop (0+21))).toArray).heap[Bl]? = some (.cells #[y0,y1,y2,y3,y4,y5,y6,y7,y8,y9,y10,y11,y12,y13,y14,y15,y16,y17,y18,y19,y20] 42):=o2
  generalize hW1:W.setRow Bl (([x0,x1,x2,x3,x4,x5,x6,x7,x8,x9,x10,x11,x12,x13,x14,x15,x16,x17,x18,x19,x20]:List Value).take 0++([y0,y1,y2,y3,y4,y5,y6,y7,y8,y9,y10,y11,y12,y13,y14,y15,y16,y17,y18,y19,y20]++([x0,x1,x2,x3,x4,x5,x6,x7,x8,x9,x10,x11,x12,x13,x14,x15,x16,x17,x18,x19,x20]:List Value).drop (0+21))).toArray=W1 at o1 o2'
  refine wpl_skip (W:=W1) (by kernel_rfl) ?_ ?_
  ·rw [<- hW1]
   exact ex_store (vs:=[y0,y1,y2,y3,y4,y5,y6,y7,y8,y9,y10,y11,y12,y13,y14,y15,y16,y17,y18,y19,y20]) rfl (by rfl) hl (by rfl) (n:=21) (by kernel_rfl) (by rfl) (by simp) H1.out
  have s1:W1.heap[Bs]? = some (.cells #[.bool sm] 4):=(o1.block Bs hne).trans hs
  obtain⟨p1,p2⟩:=onlyB_setRow (cs':=(([.bool sm]:List Value).take 0++(([.bool true]:List Value)++([.bool sm]:List Value).drop (0+1))).toArray) s1
  refine wpl_skip (W:=W1.setRow Bs ((([.bool sm]:List Value).take 0++(([.bool true]:List Value)++([.bool sm]:List Value).drop (0+1))).toArray)) (by kernel_rfl) ?_ ?_
  ·exact ex_store (vs:=[.bool true]) (old:=[.bool sm]) rfl (by rfl) s1 (by rfl) (n:=1) (by kernel_rfl) (by rfl) (by simp) (fun v hv=>by rw[List.mem_singleton.1 hv];rfl)
  refine wpList_nil ?_
  exact hQ _ _ rfl ((hB.snd o1).fst p1) p2 ((p1.block Bl (fun e=>hne e.symm)).trans o2')
 have hb:bodyF Tryz.prog 88=(Tryz.f88.body).getD .skip:=by unfold bodyF;rw[Tryz.func88];rfl
 rw[hb] at fin
 simp only[Tryz.f88,Option.getD,regOf,Nat.reduceEqDiff,reduceIte] at fin
 have FIN:=Lib.hid fin
 clear fin hb
 have hx0:Ext w (w.alloc (.cells #[y0,y1,y2,y3,y4,y5,y6,y7,y8,y9,y10,y11,y12,y13,y14,y15,y16,y17,y18,y19,y20] 42)):=bxx
 have n0:(w.alloc (.cells #[y0,y1,y2,y3,y4,y5,y6,y7,y8,y9,y10,y11,y12,y13,y14,y15,y16,y17,y18,y19,y20] 42)).heap[w.heap.size]? = some (.cells #[y0,y1,y2,y3,y4,y5,y6,y7,y8,y9,y10,y11,y12,y13,y14,y15,y16,y17,y18,y19,y20] 42):=World.alloc_heap_new _ _
 have N0:=Lib.hid n0
 have X0:=Lib.hid hx0
 clear n0 hx0
 cases sm with
 | false =>
  go_enter Tryz.func88,Tryz.ntmps88
  go_upto_region 2 with (fail)
  refine FIN.out _ _ _ _ _ _ _ _ _ _ _ _ _ _ (.ext X0.out) (heap_ext HS.out X0.out) (heap_ext HL.out X0.out) ⟨_,rfl,N0.out⟩ ?_
  rintro⟨tm,df⟩ W rfl h1 h2 h3
  go_end0
  exact⟨⟨_,rfl⟩,h1,h2,h3⟩
 | true =>
  have C2:=Lib.hid (HC.out _ X0.out)
  by_cases hc:c<0
  ·have b0 : decide (c < 0) = true := by simpa using hc
   go_enter Tryz.func88,Tryz.ntmps88
   go_upto_region 2 with (fail)
   refine C2.out.mono ?_
   rintro e W1 ⟨rfl,hx1⟩
   have x2:=Lib.hid (Ext.step X0.out hx1)
   have n2:=Lib.hid (heap_ext N0.out hx1)
   clear hx1
   go_upto_region 2 with (fail)
   refine FIN.out _ _ _ _ _ _ _ _ _ _ _ _ _ _ (.ext x2.out) (heap_ext HS.out x2.out) (heap_ext HL.out x2.out) ⟨_,rfl,n2.out⟩ ?_
   rintro⟨tm,df⟩ W rfl h1 h2 h3
   go_end0
   exact⟨⟨_,rfl⟩,h1,by rw[if_pos (by simpa using hc)];exact⟨h2,h3⟩⟩
  ·have b0 : decide (c < 0) = false := by simpa using hc
   go_enter Tryz.func88,Tryz.ntmps88
   go_wp2_with fail
   refine C2.out.mono ?_
   rintro e W1 ⟨rfl,hx1⟩
   have x2:=Lib.hid (Ext.step X0.out hx1)
   clear hx1
   go_wp2
   all_goals
    go_end0
    exact⟨⟨_,rfl⟩,.ext x2.out,x2.out⟩
end
structure Sp where
 x:Int
 y:Int
 dx:Int
 dy:Int
 p:Int
 q:Int
 len:Int
def Sp.no:Sp:=⟨0,0,0,0,0,0,0⟩
def spP(x y:Int):Sp:=⟨x,y,0,0,0,1,0⟩
def sqI(x y:Int):Int:=x*x+y*y
def dR(add s n d:Int):Rt:=(ofP add s (ofZ n) (ofZ d)).1
def endR(px py qx qy:Int):Rt×Sp:=(dR 0 1 (sqI (px-qx) (py-qy)) 1,spP qx qy)
def lineR(e:Ed)(px py:Int):Rt×Sp :=
 if (px-e.ax)*(e.bx-e.ax)+(py-e.ay)*(e.by'-e.ay)<=0 then endR px py e.ax e.ay
 else if sqI (e.bx-e.ax) (e.by'-e.ay)<=(px-e.ax)*(e.bx-e.ax)+(py-e.ay)*(e.by'-e.ay) then endR px py e.bx e.by'
 else (dR 0 1 (((e.bx-e.ax)*(py-e.ay)-(e.by'-e.ay)*(px-e.ax))*((e.bx-e.ax)*(py-e.ay)-(e.by'-e.ay)*(px-e.ax))) (sqI (e.bx-e.ax) (e.by'-e.ay)),
  ⟨e.ax,e.ay,e.bx-e.ax,e.by'-e.ay,(px-e.ax)*(e.bx-e.ax)+(py-e.ay)*(e.by'-e.ay),sqI (e.bx-e.ax) (e.by'-e.ay),0⟩)
def wiB(dx dy fx fy tx ty:Int):Bool:=decide (0<=fx*dy-fy*dx)&&decide (0<=dx*ty-dy*tx)
def inQ(e:Ed)(vx vy:Int):Bool :=
 !(vx==0&&vy==0)&&(if e.k=3 then wiB vx vy (e.bx-e.cx) (e.by'-e.cy) (e.ax-e.cx) (e.ay-e.cy) else wiB vx vy (e.ax-e.cx) (e.ay-e.cy) (e.bx-e.cx) (e.by'-e.cy))
def arcR(e:Ed)(px py:Int):Rt×Sp :=
 if inQ e (px-e.cx) (py-e.cy) then
  (if radZ e*radZ e<=sqI (px-e.cx) (py-e.cy) then dR (-radZ e) 1 (sqI (px-e.cx) (py-e.cy)) 1 else dR (radZ e) (-1) (sqI (px-e.cx) (py-e.cy)) 1,⟨e.cx,e.cy,px-e.cx,py-e.cy,0,0,radZ e⟩)
 else if sqI (px-e.bx) (py-e.by')<sqI (px-e.ax) (py-e.ay) then endR px py e.bx e.by' else endR px py e.ax e.ay
def pointR(e:Ed)(px py:Int):Rt×Sp :=
 if !(e.ok&&coordB px py) then (Rt.no,Sp.no) else if e.k=1 then lineR e px py else arcR e px py
structure Pr where
 d:Rt
 a:Sp
 b:Sp
def Pr.swap(p:Pr):Pr:=⟨p.d,p.b,p.a⟩
def footR(l a:Ed):List Pr :=
 let dx:=l.bx-l.ax
 let dy:=l.by'-l.ay
 let t:=(a.cx-l.ax)*dx+(a.cy-l.ay)*dy
 let c:=dx*(a.cy-l.ay)-dy*(a.cx-l.ax)
 let nx:=if 0<c then dy else -dy
 let ny:=if 0<c then -dx else dx
 if t<=0\/sqI dx dy<=t\/c*c<=radZ a*radZ a*sqI dx dy\/inQ a nx ny=false then []
 else [⟨dR (-radZ a) 1 (c*c) (sqI dx dy),⟨l.ax,l.ay,dx,dy,t,sqI dx dy,0⟩,⟨a.cx,a.cy,nx,ny,0,0,radZ a⟩⟩]
def centR(a b:Ed):List Pr :=
 let vx:=b.cx-a.cx
 let vy:=b.cy-a.cy
 let r:=radZ a
 let s:=radZ b
 let n:=sqI vx vy
 if (r+s)*(r+s)<n then (if inQ a vx vy&&inQ b (-vx) (-vy) then [⟨dR (-r-s) 1 n 1,⟨a.cx,a.cy,vx,vy,0,0,r⟩,⟨b.cx,b.cy,-vx,-vy,0,0,s⟩⟩] else [])
 else if (r-s)*(r-s)<=n then []
 else if s<r then (if inQ a vx vy&&inQ b vx vy then [⟨dR (r-s) (-1) n 1,⟨a.cx,a.cy,vx,vy,0,0,r⟩,⟨b.cx,b.cy,vx,vy,0,0,s⟩⟩] else [])
 else (if inQ a (-vx) (-vy)&&inQ b (-vx) (-vy) then [⟨dR (s-r) (-1) n 1,⟨a.cx,a.cy,-vx,-vy,0,0,r⟩,⟨b.cx,b.cy,-vx,-vy,0,0,s⟩⟩] else [])
def innerR(a b:Ed):List Pr :=
 if a.k=1 then (if b.k=1 then [] else footR a b) else if b.k=1 then (footR b a).map Pr.swap else centR a b
def candR(a b:Ed):List Pr :=
 [⟨(pointR b a.ax a.ay).1,spP a.ax a.ay,(pointR b a.ax a.ay).2⟩,⟨(pointR b a.bx a.by').1,spP a.bx a.by',(pointR b a.bx a.by').2⟩,
  ⟨(pointR a b.ax b.ay).1,(pointR a b.ax b.ay).2,spP b.ax b.ay⟩,⟨(pointR a b.bx b.by').1,(pointR a b.bx b.by').2,spP b.bx b.by'⟩]++innerR a b
def betterP(x y:Pr):Pr:=if cmpRt y.d x.d<0 then y else x
def leastP:List Pr->Pr
 | []=>⟨Rt.no,Sp.no,Sp.no⟩
 | x::l=>l.foldl betterP x
def edgesR(a b:Ed):Pr:=if !(a.ok&&b.ok) || !(countE a b==0) then ⟨Rt.no,Sp.no,Sp.no⟩ else leastP (candR a b)
theorem sqz_nn(x:Int):0<=x*x:=by
 rcases Int.le_total 0 x with h|h
 ·exact Int.mul_nonneg h h
 ·rw[<- Int.neg_mul_neg];exact Int.mul_nonneg (by omega) (by omega)
theorem sqI_nn(x y:Int):0<=sqI x y:=by
 have:=sqz_nn x
 have:=sqz_nn y
 unfold sqI
 omega
theorem sqI_pos{x y:Int}(h:¬(x=0/\y=0)):0<sqI x y:=by
 have h1:=sqz_nn x
 have h2:=sqz_nn y
 have h3:¬(x*x=0/\y*y=0):=fun ⟨a,b⟩=>h ⟨by rcases Int.mul_eq_zero.1 a with h|h<;>exact h,by rcases Int.mul_eq_zero.1 b with h|h<;>exact h⟩
 unfold sqI
 omega
theorem Di.sq{x y:Int}(hx:Di x)(hy:Di y):I64 (sqI x y):=hx.dot hx hy hy
def cMul:Con:=nBinC 107 mulP (fun _ _=>[]) fun a b _ _ _ _ _ _ _ _ w _ h1 h2=>num_Mul a b _ _ _ _ _ _ _ _ w h1 h2

set_option maxRecDepth 100000
section
theorem wi_min(a b:Int):decide (min a b >= 0)=(decide (0<=a)&&decide (0<=b)):=by
 rw[Bool.eq_iff_iff];simp;omega
theorem within_ok(dx dy fx fy tx ty:Int):Fok Tryz.prog 115 [ptV dx dy c27,ptV fx fy c27,ptV tx ty c27] (.one (blV (wiB dx dy fx fy tx ty))):=by
 have h:wiB dx dy fx fy tx ty=decide (min (fx*dy-fy*dx) (dx*ty-dy*tx) >= 0):=(wi_min _ _).symm
 rw[h]
 exact fok [] [] [] (by kernel_rfl)
def cWithin:Con where
 f:=115
 g:=fun | [⟨true,[.i dx A,.i dy B]⟩,⟨true,[.i fx C,.i fy D]⟩,⟨true,[.i tx E,.i ty F]⟩]=>if (A<=c27/\B<=c27)/\(C<=c27/\D<=c27)/\(E<=c27/\F<=c27) then some (.one (blV (wiB dx dy fx fy tx ty)),[]) else none|_=>none
 ok:=by
  intro args res ps h hp
  split at h<;>try cases h
  split at h<;>cases h
  rename_i hb
  exact (within_ok _ _ _ _ _ _).pre fun W=>rvs_1 (pt_low hb.1.1 hb.1.2) (rvs_1 (pt_low hb.2.1.1 hb.2.1.2) (rvs_1 (pt_low hb.2.2.1 hb.2.2.2) rvs_0))
theorem neB_F{x y:Int}(h:(x==0&&y==0)=true):(!eqZ [.i x,.i y] [.i 0,.i 0])=false:=by simpa[eqZ,eqS] using h
theorem neB_T{x y:Int}(h:(x==0&&y==0)=false):(!eqZ [.i x,.i y] [.i 0,.i 0])=true:=by simp only[eqZ,eqS,h];rfl
theorem quarter_ok(e:Ed)(x y:Int)(hok:e.ok=true):Fok Tryz.prog 157 [edV e 3 c26,ptV x y c27] (.one (blV (inQ e x y))):=by
 by_cases hk:e.k=3
 ·have h1 : (e.k == 3) = true := by simpa using hk
  cases hz:(x==0&&y==0) with
  | true =>
   rw[show inQ e x y=false by unfold inQ;rw[hz];rfl]
   exact fok [cRev,cWithin] [true,false] [pT h1,pP hok,pF (neB_F hz)] (by kernel_rfl)
  | false =>
   rw[show inQ e x y=wiB x y (e.bx-e.cx) (e.by'-e.cy) (e.ax-e.cx) (e.ay-e.cy) by unfold inQ;rw[hz,if_pos hk];rfl]
   exact fok [cRev,cWithin] [true,true] [pT h1,pP hok,pT (neB_T hz)] (by kernel_rfl)
 ·have h1 : (e.k == 3) = false := by simpa using hk
  cases hz:(x==0&&y==0) with
  | true =>
   rw[show inQ e x y=false by unfold inQ;rw[hz];rfl]
   exact fok [cRev,cWithin] [false,false] [pF h1,pF (neB_F hz)] (by kernel_rfl)
  | false =>
   rw[show inQ e x y=wiB x y (e.ax-e.cx) (e.ay-e.cy) (e.bx-e.cx) (e.by'-e.cy) by unfold inQ;rw[hz,if_neg hk];rfl]
   exact fok [cRev,cWithin] [false,true] [pF h1,pT (neB_T hz)] (by kernel_rfl)
def cQuarter:Con where
 f:=157
 g:=fun | [⟨true,l⟩,⟨true,[.i x A,.i y B]⟩]=>if A<=c27/\B<=c27 then (toEd l).map fun e=>(.one (blV (inQ e x y)),[e.ok=true]) else none|_=>none
 ok:=by
  intro args res ps h hp
  split at h<;>try cases h
  split at h<;>try cases h
  rename_i hb
  rename_i l x A y B
  cases he:toEd l with
  | none=>simp[he] at h
  | some e =>
   simp only[he,Option.map_some,Option.some.injEq,Prod.mk.injEq] at h
   obtain⟨rfl,rfl⟩:=h
   exact (quarter_ok e x y hp.1).pre fun W=>rvs_1 (ed_ok he hp.1) (rvs_1 (pt_low hb.1 hb.2) rvs_0)
def spV(s:Sp):V1:=⟨true,[.i s.x lim,.i s.y lim,.i s.dx lim,.i s.dy lim,.i s.p lim,.i s.q lim,.i s.len lim]⟩
def rsV(r:Rt×Sp):AV:=.tup [rtV r.1,spV r.2]
theorem zero_sub'(x:Int):0-x = -x:=by omega
end

set_option maxRecDepth 100000
section
theorem coord_F{x y:Int}(h:coordB x y=true):(!coordB x y)=false:=by rw[h];rfl
theorem coord_T{x y:Int}(h:coordB x y=false):(!coordB x y)=true:=by rw[h];rfl
theorem mulP_sq{x:Int}(h:I64 x):(mulP (ofZ x) (ofZ x)).1=ofZ (x*x):=by
 have s0:=(Wd.of64 h).small (by omega)
 have s1:=((Wd.of64 h).mul (Wd.of64 h)).small (by omega)
 rw[mulP_small' s0 s0 s1]
def cPower:Con where
 f:=156
 g:=fun | [⟨false,[.i x _]⟩]=>some (.one (nmV (ofZ (x*x))),[])|_=>none
 ok:=by
  intro args res ps h _
  split at h<;>cases h
  intro W vals hv
  have hx:=hv
  simp only[rvs_cons,rvs_nil,rv_i] at hx
  obtain⟨_,⟨⟨_,hi⟩,rfl⟩,_,rfl,rfl⟩:=hx
  rw[<- mulP_sq hi]
  exact fok [cNOf,cMul] [] [] (by kernel_rfl) W _ hv
def KP:List Con:=[cNOf,cPower,cRtOf,cChk,cVRight,cRad,cQuarter]
theorem point_ok(e:Ed)(x y:Int)(hok:e.ok=true)(hc:coordB x y=true):Fok Tryz.prog 93 [edV e 3 c26,ptV x y c26] (rsV (pointR e x y)):=by
 have P1:=pF (chk_F hok)
 have P2:=pF (coord_F hc)
 have e0:pointR e x y=if e.k=1 then lineR e x y else arcR e x y:=by unfold pointR;rw[hok,hc];rfl
 rw[e0]
 by_cases hk:e.k=1
 ·have hk1 : (e.k == 1) = true := by simpa using hk
  rw[if_pos hk]
  unfold lineR
  split
  ·rename_i h1
   exact fok KP [false,false,true,true] [P1,P2,pT hk1,pT (decide_eq_true h1)] (by kernel_rfl)
  ·rename_i h1
   split
   ·rename_i h2
    exact fok KP [false,false,true,false,true] [P1,P2,pT hk1,pF (decide_eq_false h1),pT (ge_T h2)] (by kernel_rfl)
   ·rename_i h2
    exact fok KP [false,false,true,false,false] [P1,P2,pT hk1,pF (decide_eq_false h1),pF (ge_F h2)] (by kernel_rfl)
 ·have hk1 : (e.k == 1) = false := by simpa using hk
  rw[if_neg hk]
  unfold arcR
  split
  ·rename_i hq
   by_cases h2:radZ e*radZ e<=sqI (x-e.cx) (y-e.cy)
   ·rw [if_pos h2, <- zero_sub' (radZ e)]
    exact fok KP [false,false,false,true,true] [P1,P2,pF hk1,pP hok,pP hok,pT hq,pT (ge_T h2)] (by kernel_rfl)
   ·rw [if_neg h2]
    exact fok KP [false,false,false,true,false,true] [P1,P2,pF hk1,pP hok,pP hok,pT hq,pF (ge_F h2),pP hok,pT hq] (by kernel_rfl)
  ·rename_i hq
   replace hq:=Bool.eq_false_iff.2 hq
   split
   ·rename_i h2
    exact fok KP [false,false,false,false,false,true] [P1,P2,pF hk1,pP hok,pP hok,pF hq,pP hok,pF hq,pT (decide_eq_true h2)] (by kernel_rfl)
   ·rename_i h2
    exact fok KP [false,false,false,false,false,false] [P1,P2,pF hk1,pP hok,pP hok,pF hq,pP hok,pF hq,pF (decide_eq_false h2)] (by kernel_rfl)
theorem point_no(e:Ed)(x y:Int)(h:(e.ok&&coordB x y)=false):Fok Tryz.prog 93 [edV e lim lim,ptV x y lim] (rsV (pointR e x y)):=by
 rw[show pointR e x y=(Rt.no,Sp.no) by unfold pointR;rw[h];rfl]
 cases ho:e.ok with
 | false=>exact fok KP [true] [pT (chk_T ho)] (by kernel_rfl)
 | true =>
  rw[ho] at h
  exact fok KP [false,true] [pF (chk_F ho),pT (coord_T h)] (by kernel_rfl)
def cPoint:Con where
 f:=93
 g:=fun | [⟨true,l⟩,⟨true,[.i x _,.i y _]⟩]=>(toEd l).map fun e=>(rsV (pointR e x y),[])|_=>none
 ok:=by
  intro args res ps h hp
  split at h<;>try cases h
  rename_i l x A y B
  cases he:toEd l with
  | none=>simp[he] at h
  | some e =>
   simp only[he,Option.map_some,Option.some.injEq,Prod.mk.injEq] at h
   obtain⟨rfl,rfl⟩:=h
   cases hc:(e.ok&&coordB x y) with
   | false=>exact (point_no e x y hc).pre fun W=>rvs_1 (ed_lim he) (rvs_1 pt_lim rvs_0)
   | true =>
    simp only[Bool.and_eq_true] at hc
    exact (point_ok e x y hc.1 hc.2).pre fun W=>rvs_1 (ed_ok he hc.1) (rvs_1 (pt_co (coordB_iff.1 hc.2)) rvs_0)
end

set_option maxRecDepth 100000
section
def rightZC(f:FuncId)(H:∀a:Rt,Dig a.n.d/\Dig a.d.d->Fok Tryz.prog f [rtV a] (.one (blV a.right))):Con where
 f:=f
 g:=fun | [⟨true,[.i a _,.i s _,.d (.zi n _),.d (.zi d _)]⟩]=>some (.one (blV (Rt.right ⟨a,s,ofZ n,ofZ d⟩)),[])|_=>none
 ok:=by
  intro args res ps h hp
  split at h<;>cases h
  rename_i a _ s _ n N d D
  refine Fok.pre (H ⟨a,s,ofZ n,ofZ d⟩ ⟨dig_digs _,dig_digs _⟩) fun W=>rvs_1 (fun v hv=>?_) fun _ h=>h
  simp only[rv_t,rl_i,rl_zi,rl_nil] at hv
  obtain⟨_,⟨⟨_,i1⟩,_,rfl,⟨_,i2⟩,_,rfl,_,n1,p1,l1,c1,h1,_,rfl,_,m1,q1,k1,d1,h2,_,rfl,rfl⟩,rfl⟩:=hv
  exact rv_t.2 ⟨_,rl_i.2 ⟨lim64 i1,_,rfl,rl_i.2 ⟨lim64 i2,_,rfl,rl_num.2 ⟨n1,p1,l1,c1,h1,_,rfl,rl_num.2 ⟨m1,q1,k1,d1,h2,_,rfl,rfl⟩⟩⟩⟩,rfl⟩
def c8:Nat:=4294967296 ^ 8
def rzV(a s n d:Int):V1:=⟨true,[.i a lim,.i s 1,.d (.zi n c8),.d (.zi d c8)]⟩
theorem cmpRt_bd(a b:Rt):(cmpRt a b).natAbs<=1/\I64 (cmpRt a b):=by
 have sg3:∀ {x:Int},-1<=x/\x<=1->x = -1\/x=0\/x=1:=fun h=>by omega
 have key : -1<=cmpRt a b/\cmpRt a b<=1:=by
  unfold cmpRt
  split
  ·unfold cmpR
   split
   ·omega
   ·have h := sg3 (sideZ_bd ((a.add - b.add) * a.d.z) a.s (a.n.z * a.d.z))
    have g:=sg3 (sideZ_bd ((a.add-b.add)*(a.add-b.add)*a.d.z*b.d.z+a.n.z*b.d.z-b.n.z*a.d.z) (2*(a.add-b.add)*a.s*b.d.z) (a.n.z*a.d.z))
    generalize sideZ ((a.add-b.add)*a.d.z) a.s (a.n.z*a.d.z)=u at h
    generalize sideZ ((a.add-b.add)*(a.add-b.add)*a.d.z*b.d.z+a.n.z*b.d.z-b.n.z*a.d.z) (2*(a.add-b.add)*a.s*b.d.z) (a.n.z*a.d.z)=v at g
    rcases h with rfl|rfl|rfl<;>rcases g with rfl|rfl|rfl<;>decide
  ·decide
 exact⟨by omega,by unfold I64;omega⟩
theorem rz_of{V W:World}{r:Nat->Nat}{k:Nat}{a s:Int}{A S:Nat}{n d:Nm}(h:Rt.right ⟨a,s,n,d⟩=true)(dn:Dig n.d)(dd:Dig d.d):(n=ofZ n.z/\d=ofZ d.z/\0<=n.z*d.z)/\∀v,RepV V W r k ⟨true,[.i a A,.i s S,.d (.num n),.d (.num d)]⟩ v->RepV V W r k (rzV a s n.z d.z) v:=by
 have ok:=(right_ok (a:=⟨a,s,n,d⟩) dn dd h).1
 have en:=ofZ_of_right dn ok.nr
 have ed:=ofZ_of_right dd ok.dr
 have zn:n.z=(val n.d:Int):=ok.zs.1
 have zd:d.z=(val d.d:Int):=ok.zs.2
 have bd:∀ {x:List Nat},Dig x->x.length<=8->val x<=c8:=fun hx hl=>Nat.le_trans (Nat.le_of_lt (val_lt hx)) (Nat.pow_le_pow_right (by decide) hl)
 refine⟨⟨en.symm,ed.symm,by rw[zn,zd];exact Int.mul_nonneg (by omega) (by omega)⟩,fun v hv=>?_⟩
 simp only[rv_t,rl_i,rl_num,rl_nil] at hv
 obtain⟨_,⟨⟨_,i1⟩,_,rfl,⟨_,i2⟩,_,rfl,n1,p1,l1,c1,h1,_,rfl,m1,q1,k1,d1,h2,_,rfl,rfl⟩,rfl⟩:=hv
 have b1:=bd dn ok.nl
 have b2:=bd dd ok.dl
 have sl:=ok.sl
 have su:=ok.su
 simp only at sl su
 exact rv_t.2 ⟨_,rl_i.2 ⟨lim64 i1,_,rfl,rl_i.2 ⟨⟨by omega,i2⟩,_,rfl,rl_zi.2 ⟨by omega,n1,p1,l1,c1,en.symm ▸ h1,_,rfl,rl_zi.2 ⟨by omega,m1,q1,k1,d1,ed.symm ▸ h2,_,rfl,rfl⟩⟩⟩⟩,rfl⟩
def cmpC(f:FuncId)(N:∀a b:Rt,Dig a.n.d/\Dig a.d.d->Dig b.n.d/\Dig b.d.d->(a.right&&b.right)=false->Fok Tryz.prog f [rtV a,rtV b] (.one (inV 0 lim)))
  (H:∀a s n d b t m e:Int,Rt.right ⟨a,s,ofZ n,ofZ d⟩=true->Rt.right ⟨b,t,ofZ m,ofZ e⟩=true->0<=n*d->Fok Tryz.prog f [rzV a s n d,rzV b t m e] (.one (inV (cmpR (a-b) s n d t m e) lim))):Con where
 f:=f
 g:=fun | [⟨true,[.i a _,.i s _,.d (.num n),.d (.num d)]⟩,⟨true,[.i b _,.i t _,.d (.num m),.d (.num e)]⟩]=>some (.one (inV (cmpRt ⟨a,s,n,d⟩ ⟨b,t,m,e⟩) 1),[])|_=>none
 ok:=by
  intro args res ps h hp
  split at h<;>cases h
  rename_i a A s S n d b B t T m e
  intro W vals hv
  obtain⟨v1,g1,l1,rfl,hv1⟩:=rvs_cons.1 hv
  obtain⟨v2,g2,l2,rfl,hv2⟩:=rvs_cons.1 hv1
  obtain⟨k1,dn,dd,_⟩:=rt_at g1
  obtain⟨k2,dm,de,_⟩:=rt_at g2
  have b0:=(cmpRt_bd ⟨a,s,n,d⟩ ⟨b,t,m,e⟩).1
  cases hr:(Rt.right ⟨a,s,n,d⟩&&Rt.right ⟨b,t,m,e⟩) with
  | false =>
   have e0:cmpRt ⟨a,s,n,d⟩ ⟨b,t,m,e⟩=0:=by unfold cmpRt;rw[hr];rfl
   rw[e0]
   exact (N _ _ ⟨dn,dd⟩ ⟨dm,de⟩ hr).bd (by decide) W _ (rvs_cons.2 ⟨_,k1,_,rfl,rvs_cons.2 ⟨_,k2,_,rfl,hv2⟩⟩)
  | true =>
   have e0:cmpRt ⟨a,s,n,d⟩ ⟨b,t,m,e⟩=cmpR (a-b) s n.z d.z t m.z e.z:=by unfold cmpRt;rw[hr];rfl
   rw[e0] at b0 ⊢
   simp only[Bool.and_eq_true] at hr
   obtain⟨⟨x1,x2,x3⟩,x4⟩:=rz_of (V:=W) (W:=W) (r:=fun _=>0) (k:=0) (A:=A) (S:=S) hr.1 dn dd
   obtain⟨⟨y1,y2,_⟩,y4⟩:=rz_of (V:=W) (W:=W) (r:=fun _=>0) (k:=0) (A:=B) (S:=T) hr.2 dm de
   exact (H a s n.z d.z b t m.z e.z (by rw[<- x1,<- x2];exact hr.1) (by rw[<- y1,<- y2];exact hr.2) x3).bd b0 W _ (rvs_cons.2 ⟨_,x4 _ g1,_,rfl,rvs_cons.2 ⟨_,y4 _ g2,_,rfl,hv2⟩⟩)
end
end Go.Proofs.YtceemiodpccbhaaGreat
