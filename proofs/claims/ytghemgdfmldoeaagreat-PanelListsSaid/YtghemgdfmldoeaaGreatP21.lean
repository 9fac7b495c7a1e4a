import Derived.Test.YtghemgdfmldoeaaGreatP20
import Derived.StillTailTactics
import Derived.Test.YtghemgdfmldoeaaGreatShelf
import Derived.BigRegion
import Derived.Lib.ItoaNum
set_option linter.unusedVariables false
set_option linter.unusedSimpArgs false
namespace Go.Proofs.YtghemgdfmldoeaaGreat
open Go.RowKit
set_option maxHeartbeats 4000000
set_option maxRecDepth 100000
section
def J1(w:World)(v:Value):Nat :=
 match v with|.slice (some ⟨b,o,none⟩) l _=>val ((List.range l).map λi=>match w.cell? ⟨b,o+i,none⟩ with|some (.int _ n)=>n.toNat|_=>0)|_=>0
theorem S8{w:World}{p:Option Addr}{c:Nat}{d:List Nat}(h:Row w p c d):J1 w (.slice p d.length c)=val d:=by
 by_cases h0:0<d.length
 ·obtain ⟨b, o, rfl, _, hc⟩ := h.at h0;have e:((List.range d.length).map λi=>match w.cell? ⟨b,o+i,none⟩ with|some (.int _ n)=>n.toNat|_=>0)=d:=by
   refine List.ext_getElem (by rw[List.length_map,List.length_range]) (λi h1 h2=>?_);have:=hc i h2;simp only[List.getElem_map,List.getElem_range,this,kS h2];rfl
  show val ((List.range d.length).map λi=>match w.cell? ⟨b,o+i,none⟩ with|some (.int _ n)=>n.toNat|_=>0)=val d;rw[e]
 ·have : d = [] := List.eq_nil_of_length_eq_zero (by omega);subst this;unfold J1;split
  ·rename_i e;injection e with _ e2 _;subst e2;rfl
  ·rfl
def jX(a b:Nm):Nm×Bool:=if a.right&&b.right then (ai (Nat.gcd (val a.d) (val b.d)),true) else (zero,false)
def Lp(N:Nat):Prop:=∀(x y:List Nat) (px py:Option Addr) (lx cx ly cy:Nat) (W:World),Row W px cx x->Row W py cy y->lx=x.length->ly=y.length->ee x->ee y->x.length<=64->0<y.length->y.length<=N ->
 Calls Tryz.prog 204 #[.slice px lx cx,.slice py ly cy] W (rE W (cJ (val x/val y)) (cJ (val x%val y)))
theorem a1g{a b:Nm}(da:ao a.d)(db:ao b.d)(ra:a.right=true)(rb:b.right=true){o:List Nat}(ho:val o=Nat.gcd (val a.d) (val b.d)):gY false o=(ai (Nat.gcd (val a.d) (val b.d)),true):=by
 rw[sw,ho,He]
 ·rfl
 ·simp only [Bool.false_eq_true, if_false];by_cases h:val a.d=0
  ·rw [h, Nat.gcd_zero_left];exact wU db rb (by omega)
  ·exact wU da ra (by have:=Nat.gcd_le_left (val b.d) (Nat.pos_of_ne_zero h);omega)
theorem YF{y:List Nat}(dy:ao y)(ty:ee y){n:Nat}(h:n<=val y):(cJ n).length<=y.length:=by
 refine (tG _ _).2 (Nat.lt_of_le_of_lt h (ip dy))
theorem a1Y(a b:Nm)(na nb:Bool)(pa pb:Option Addr)(la ca lb cb:Nat)(w:World)(ha:NR w na pa la ca a)(hb:NR w nb pb lb cb b)(N:Nat)(hN:b.d.length<=N)(DV:Lp N) :
  Calls Tryz.prog 140 #[.agg #[.bool na,.slice pa la ca],.agg #[.bool nb,.slice pb lb cb]] w (jR w (jX a b)):=by
 have RA:=Lib.hid (λw' (hx:ac w w')=>c9 a na pa la ca w' (ha.ext hx))
 have RB:=Lib.hid (λw' (hx:ac w w')=>c9 b nb pb lb cb w' (hb.ext hx))
 have NO:(a.right=false\/b.right=false)->∀W',ac w W'->jR w (jX a b) (.returned (.tuple #[.agg #[.bool false,.slice none 0 0],.bool false])) W':=by
  intro h W' hx
  have:jX a b=(zero,false):=by unfold jX;rw[if_neg];rcases h with h|h<;>simp[h]
  rw[this]
  exact⟨false,none,0,0,rfl,⟨rfl,rfl,Row.nil _⟩,New.none _,hx⟩
 replace NO:=Lib.hid NO
 cases ra:a.right with
 | false =>
  rw[ra] at RA
  go_enter Tryz.func140,Tryz.ntmps140
  go_wp2_with fail
  refine (RA.out _ ag).mono ?_
  rintro e w1 ⟨rfl,hx⟩
  have hx0:ac w w1:=ac.step ag hx
  obtain⟨_,⟨_,_,_⟩,⟨_,_,_⟩,_,_,_⟩:=cM hx w.heap.size
  go_wp2
  refine bodyPost_ret (v:=.tuple #[.agg #[.bool false,.slice none 0 0],.bool false]) (by simp only[results,Tryz.results140];go_simp) rfl ?_
  exact NO.out (.inl ra) _ ag
 | true =>
  rw[ra] at RA
  cases rb:b.right with
  | false =>
   rw[rb] at RB
   go_enter Tryz.func140,Tryz.ntmps140
   go_wp2_with fail
   refine (RA.out _ ag).mono ?_
   rintro e w1 ⟨rfl,hx⟩
   have hx0:ac w w1:=ac.step ag hx
   obtain⟨_,⟨_,_,_⟩,⟨_,_,_⟩,_,_,_⟩:=cM hx w.heap.size
   go_wp2_with fail
   refine (RB.out _ ag).mono ?_
   rintro e w2 ⟨rfl,hx2⟩
   have hx1:ac w w2:=ac.step ag hx2
   obtain⟨_,⟨_,_,_⟩,⟨_,_,_⟩,_,_,_⟩:=cM hx2 w.heap.size
   go_wp2
   refine bodyPost_ret (v:=.tuple #[.agg #[.bool false,.slice none 0 0],.bool false]) (by simp only[results,Tryz.results140];go_simp) rfl ?_
   exact NO.out (.inr rb) _ ag
  | true =>
   rw[rb] at RB
   have hP:jX a b=(ai (Nat.gcd (val a.d) (val b.d)),true):=by unfold jX;rw[ra,rb];rfl
   have MG:=Lib.hid (λo (h:val o=Nat.gcd (val a.d) (val b.d))=>a1g ha.2.2.dig hb.2.2.dig ra rb h)
   have TA:=(a.right_iff.1 ra).2.1
   have TB:=(b.right_iff.1 rb).2.1
   have L64:a.d.length<=64:=(a.right_iff.1 ra).1
   have B64:b.d.length<=64:=(b.right_iff.1 rb).1
   have HA:=Lib.hid ha
   have HB:=Lib.hid hb
   have HP:=Lib.hid hP
   have DVH:=Lib.hid DV
   clear hP ha hb NO ra rb DV
   go_enter Tryz.func140,Tryz.ntmps140
   go_wp2_with fail
   refine (RA.out _ ag).mono ?_
   rintro e w1 ⟨rfl,hx⟩
   have hx0:ac w w1:=ac.step ag hx
   obtain⟨_,⟨_,_,_⟩,⟨_,_,_⟩,_,_,_⟩:=cM hx w.heap.size
   go_wp2_with fail
   refine (RB.out _ ag).mono ?_
   rintro e w2 ⟨rfl,hx2⟩
   have hx1:ac w w2:=ac.step ag hx2
   obtain⟨_,⟨_,_,_⟩,⟨_,_,_⟩,_,_,_⟩:=cM hx2 w.heap.size
   go_wp2_with fail
   refine uT (λW=>W.cell? ⟨w.heap.size,1,none⟩=some (.slice pa la ca)/\W.cell? ⟨w.heap.size+1,1,none⟩=some (.slice pb lb cb)/\W.cell? ⟨w.heap.size+1+1,0,none⟩=some (.bool false)/\W.cell? ⟨w.heap.size+1+1,1,none⟩=some (.slice none 0 0)) ?_
   repeat (first|refine gQ ?_|refine gP ?_)
   rintro w3 ⟨hx3,hc3⟩
   have hx4:ac w w3:=ac.step hx1 hx3
   obtain⟨_,⟨_,_,_⟩,⟨_,_,_⟩,_,_,_⟩:=cM hx3 w.heap.size
   have HX4:=Lib.hid hx4
   clear hx4 hx3 hx1 hx2 hx0 hx hc3
   go_wp2_with fail
   go_loopw [6,7] (λxs ys wr=>∃(dx dy:List Nat) (px py:Option Addr) (cx cy:Nat),xs=.slice px dx.length cx/\ys=.slice py dy.length cy/\Row wr px cx dx/\Row wr py cy dy/\ee dx/\ee dy/\dx.length<=64/\dy.length<=N/\dy.length<=64/\Nat.gcd (val dx) (val dy)=Nat.gcd (val a.d) (val b.d)/\ac w3 wr) (λ_ ys wr=>J1 wr ys)
   case atStart =>
    refine⟨a.d,b.d,pa,pb,ca,cb,?_,?_,HA.out.2.2.ext HX4.out,HB.out.2.2.ext HX4.out,TA,TB,L64,hN,B64,rfl,Below.refl _ _⟩
    ·rw[HA.out.2.1]
    ·rw[HB.out.2.1]
   case round =>
    obtain⟨dx,dy,px,py,cx,cy,rfl,rfl,hrx,hry,tx,ty,lx,ly,ly64,hg,hxr⟩:=hrel
    have G:=Lib.hid hg
    have TX:=Lib.hid tx
    have TY:=Lib.hid ty
    clear hg tx ty TA TB hN
    by_cases h0:dy.length=0
    ·obtain rfl : dy = [] := List.eq_nil_of_length_eq_zero h0
     have MK:=nN false dx px dx.length cx wr hrx rfl
     rw[MG.out dx (by rw[<- G.out];show val dx=Nat.gcd (val dx) 0;rw[Nat.gcd_zero_right])] at MK
     have MKH:=Lib.hid MK
     have hx5:ac w wr:=ac.step HX4.out hxr
     obtain⟨_,⟨_,_,_⟩,⟨_,_,_⟩,_,_,_⟩:=cM hxr w.heap.size
     clear h0 hrx hry MK
     go_wp2_with fail
     refine MKH.out.mono ?_
     rintro e w5 ⟨n5,p5,l5,c5,rfl,hn5,hnew5,hx6⟩
     have hx7:ac w w5:=ac.step hx5 hx6
     obtain⟨_,⟨_,_,_⟩,⟨_,_,_⟩,_,_,_⟩:=cM hx6 w.heap.size
     go_wp2
     refine bodyPost_ret (v:=.tuple #[.agg #[.bool n5,.slice p5 l5 c5],.bool true]) (by simp only[results,Tryz.results140];go_simp) rfl ?_
     rw[HP.out]
     exact⟨n5,p5,l5,c5,rfl,(by repeat (first|assumption|refine NR.set ?_ (by assumption) _ (by first|(simp;done)|(simp;omega)|omega) _|refine NR.alloc ?_ _)),hnew5.mono hx5.size,ag⟩
    ·have hpos : 0 < dy.length := Nat.pos_of_ne_zero h0
     have CL:=Lib.hid (DVH.out dx dy px py dx.length cx dy.length cy wr hrx hry rfl rfl TX.out TY.out lx hpos ly)
     have VB:=Lib.hid (KF TY.out hpos)
     have RV:=Lib.hid (S8 hry)
     have HRY:=Lib.hid hry
     have HXR:=Lib.hid hxr
     have hn0:dy ≠ []:=List.length_pos_iff.1 hpos
     obtain⟨m,M⟩:∃m,Hid (dy.length=m):=⟨_,rfl⟩
     rw[M.out] at hpos CL RV ⊢
     clear h0 hrx hry hxr
     go_wp2_with fail
     refine CL.out.mono ?_
     rintro e w5 ⟨p,c,p2,c2,rfl,hq,hr,hx6⟩
     have HR:=Lib.hid hr
     have HX6:=Lib.hid hx6
     clear hq hr hx6
     go_wp2
     have hv:val (cJ (val dx%val dy))=val dx%val dy:=xc _
     have hlt:=Nat.mod_lt (val dx) VB.out
     have hl:=YF HRY.out.dig TY.out (Nat.le_of_lt hlt)
     refine⟨⟨dy,cJ (val dx%val dy),py,p2,cy,c2,by rw[M.out],rfl,HRY.out.ext HX6.out,HR.out,TY.out,Uj _,ly64,by omega,by omega,?_,ac.step HXR.out HX6.out⟩,?_⟩
     ·rw [hv, <- G.out]
      exact ((Nat.gcd_comm _ _).trans (Nat.gcd_rec (val dy) (val dx)).symm).trans (Nat.gcd_comm _ _)
     ·rw [S8 HR.out, hv, RV.out]
      exact hlt
end
theorem wm{w w':World}{B e size:Nat}{v:Value}{n:Nat}{xs:List Value}(h:w.ownsRow B e size v n xs)(hx:ac w w'):w'.ownsRow B e size v n xs:=by
 refine⟨h.1,?_⟩;rcases h.2 with h|⟨g,cap,cur,h1,h2,h3,h4⟩
 ·exact .inl h
 ·exact .inr ⟨g,cap,cur,h1,h2,by rw[hx.block g (Array.getElem?_eq_some_iff.1 h3).1];exact h3,h4⟩
set_option maxHeartbeats 8000000
set_option maxRecDepth 100000
section
attribute [local go_sem] aL dz
theorem lead{x:Nat}(h0:0<x)(hx:x<4294967296):∃i:Nat,i<32/\(32-(Lib.bitLen x:Int))=(i:Int)/\(x+1)*2 ^ i<=4294967296:=by
 have hl:=Lib.bitLen_le x 32 (by omega) hx;obtain⟨b1,_,b3⟩:=Lib.bitLenAux_bounds 64 x (by omega) (by omega);change 1<=Lib.bitLen x at b1;change x<2 ^ Lib.bitLen x at b3;refine⟨32-Lib.bitLen x,by omega,by omega,?_⟩;have h1:=Nat.mul_le_mul_right (2 ^ (32-Lib.bitLen x)) (Nat.succ_le_of_lt b3);rw[<- Nat.pow_add,show Lib.bitLen x+(32-Lib.bitLen x)=32 by omega] at h1;exact h1
theorem a0O{b:List Nat}{n x i:Nat}(hl:b.length=n+1)(db:ao b)(hx:b[n]?.getD 0=x)(h:(x+1)*2 ^ i<=4294967296):2 ^ i*val b<4294967296 ^ (n+1):=by
 have h1:=Ah hl hx;have h2:=ip (db.take n);rw[List.length_take,Nat.min_eq_left (by omega)] at h2;have hs:0<2 ^ i:=Nat.pow_pos (by omega);rw[Nat.pow_succ];have h3:val b<4294967296 ^ n*(x+1):=by
  have e:4294967296 ^ n*(x+1)=4294967296 ^ n*x+4294967296 ^ n:=by grind
  omega
 have h4:2 ^ i*val b<2 ^ i*(4294967296 ^ n*(x+1)):=Nat.mul_lt_mul_of_pos_left h3 hs;have h5:4294967296 ^ n*((x+1)*2 ^ i)<=4294967296 ^ n*4294967296:=Nat.mul_le_mul_left _ h;have e:2 ^ i*(4294967296 ^ n*(x+1))=4294967296 ^ n*((x+1)*2 ^ i):=by grind
 omega
theorem Uu{v:List Nat}{n:Nat}(hl:v.length=n+1)(dv:ao v)(h:4294967296 ^ n<=val v):0<v[n]?.getD 0:=by
 have h1:=Ah hl rfl;have h2:=ip (dv.take n);rw[List.length_take,Nat.min_eq_left (by omega)] at h2;rcases Nat.eq_zero_or_pos (v[n]?.getD 0) with g|g
 ·rw[g,Nat.mul_zero] at h1;omega
 ·exact g
theorem KD{b:List Nat}{n:Nat}(hl:b.length=n+1)(tb:ee b):4294967296 ^ n<=val b:=by
 rcases List.eq_nil_or_concat b with rfl|⟨c,x,rfl⟩
 ·simp at hl
 ·have hx : x ≠ 0 := by have := tb (by simp); simpa using this
  have hc:c.length=n:=by simpa using hl
  rw[List.concat_eq_append,val_append,hc,xd];have:=Nat.mul_le_mul_left (4294967296 ^ n) (show 1<=x by omega);omega
theorem a2W{w:World}{B e g N c cap:Nat}{pre part post:List Nat}(h:w.ownsRow B e 1 (.slice (some ⟨g,0,none⟩) N c) N (enc (pre++(part++post))))(dp:ao part)(hc:part.length<=cap)(hm:cap<=9223372036854775807) :
  Row w (some ⟨g,pre.length,none⟩) cap part:=by
 have hl:=wj h;refine⟨hc,hm,dp,λh0=>⟨g,pre.length,rfl,(h.lt g rfl).2,λi hi=>?_⟩⟩;simp only[List.length_append] at hl;rw[h.cellAt _ (by omega),rO _ _ (by simp;omega),List.getElem?_append_right (by omega),Nat.add_sub_cancel_left,List.getElem?_append_left hi]
theorem ownsRow_base{w:World}{base base' e size n:Nat}{v:Value}{xs:List Value}(h:w.ownsRow base e size v n xs)(hb:base'<=base):w.ownsRow base' e size v n xs:=by
 refine⟨h.1,?_⟩;rcases h.2 with g|⟨g,cap,cur,h1,h2,h3⟩
 ·exact .inl g
 ·exact .inr ⟨g,cap,cur,h1,Nat.le_trans hb h2,h3⟩
theorem a6l(u:List Nat)(k n:Nat)(h:k+n<=u.length):∃pre part post:List Nat,u=pre++(part++post)/\pre.length=k/\part.length=n :=
 ⟨u.take k,(u.drop k).take n,(u.drop k).drop n,by rw[List.take_append_drop,List.take_append_drop],by rw[List.length_take,Nat.min_eq_left (by omega)],by rw[List.length_take,List.length_drop,Nat.min_eq_left (by omega)]⟩
def Vd(base N A:Nat)(nt:Nat->Prop)(W:World)(v:Value)(w':World):Prop :=
 ∃t:Nat×List Nat,v=.slice (some ⟨t.1,0,none⟩) N N/\Below W.heap.size W w'/\t.2.length=N/\ao t.2/\val t.2=A/\nt t.1/\w'.ownsRow base 186 1 (.slice (some ⟨t.1,0,none⟩) N N) N (enc t.2)
theorem Lx{P:Program}{ops:Array Oper}{S:World->Prop}{Q:Act->World->Prop}{o:Oper}{l:List Oper}{a:Act}{own:List Nat}{F:World->Prop}(base N A:Nat)(nt:Nat->Prop)(hk:av o=2)(hw:Region.wanted o (yielded ops a.tmps)=true)
  (hg:∀w,F w->aL P o a w (Vd base N A nt w))
  (h:∀g d,List.length d=N->ao d->val d=A->nt g->aG P ops S Q l (a.put o.dst (.slice (some ⟨g,0,none⟩) N N)) own (λw=>F w/\w.ownsRow base 186 1 (.slice (some ⟨g,0,none⟩) N N) N (enc d))):aG P ops S Q (o::l) a own F:=by
 refine Lr (I:=Nat×List Nat) (λt=>.slice (some ⟨t.1,0,none⟩) N N) (λt W=>(t.2.length=N/\ao t.2/\val t.2=A/\nt t.1)/\W.ownsRow base 186 1 (.slice (some ⟨t.1,0,none⟩) N N) N (enc t.2)) (λt W W' h hb=>⟨h.1,wm h.2 hb⟩) hk hw (λw hf=>?_) ?_
 ·refine (hg w hf).imp ?_;rintro v w' ⟨t,h1,h2,h3,h4,h5,h6,h7⟩;exact⟨t,h1,h2,⟨h3,h4,h5,h6⟩,h7⟩
 ·rintro ⟨g, d⟩ ⟨w1, hf, hp, hr⟩;have e:(λw=>F w/\(List.length d=N/\ao d/\val d=A/\nt g)/\w.ownsRow base 186 1 (.slice (some ⟨g,0,none⟩) N N) N (enc d))=(λw=>F w/\w.ownsRow base 186 1 (.slice (some ⟨g,0,none⟩) N N) N (enc d)):=by
   funext w;exact propext ⟨λ⟨a,_,b⟩=>⟨a,b⟩,λ⟨a,b⟩=>⟨a,hp,b⟩⟩
  have:=h g d hp.1 hp.2.1 hp.2.2.1 hp.2.2.2;rw[<- e] at this;exact this
theorem a12(a b:List Nat)(pa pb:Option Addr)(la ca lb cb n0:Nat)(w:World)(ha:Row w pa ca a)(hb:Row w pb cb b)(hla:la=a.length)(hlb:lb=b.length)(ta:ee a)(tb:ee b)(h64:a.length<=900)
  (hn:b.length=n0+2) (hge:val b<=val a):Calls Tryz.prog 204 #[.slice pa la ca,.slice pb lb cb] w (rE w (cJ (val a/val b)) (cJ (val a%val b))):=by
 have hc:decide (cmpL a b<0)=false:=by
  rw[decide_eq_false_iff_not,FY ha.dig hb.dig ta tb]
  omega
 have CP:=Lib.hid (λw' (hx:ac w w')=>uq a b pa pb la ca lb cb w' (ha.ext hx) (hb.ext hx) hla hlb)
 have hnm:b.length<=a.length:=a6L ha.dig tb hge
 have hx0:=Uu (n:=n0+1) hn hb.dig (KD hn tb)
 have hxd:=hb.dig.getD (n0+1)
 rw[List.getD_eq_getElem?_getD] at hxd
 obtain⟨x,X⟩:∃x,Hid (b[n0+1]?.getD 0=x):=⟨_,rfl⟩
 rw[X.out] at hx0 hxd
 obtain⟨i,hi,hie,hix⟩:=lead hx0 hxd
 have LZ:=Lib.hid (λW=>(Tryz.bits_LeadingZeros32 (x:Int) W (by omega) (by omega)).mono (λe w' h=>(show e=.returned (.int .i64 (i:Int))/\w'=W from⟨by rw[h.1,Int.toNat_natCast,hie],h.2⟩)))
 have SA:=Lib.hid (λW (hx:ac w W)=>QA a pa la ca i W (ha.ext hx) hla hi (by omega))
 have SB:=Lib.hid (λW (hx:ac w W)=>QA b pb lb cb i W (hb.ext hx) hlb hi (by omega))
 have hVn:=a0O (n:=n0+1) hn hb.dig X.out hix
 have hVg:4294967296 ^ (n0+1)<=2 ^ i*val b:=Nat.le_trans (KD (n:=n0+1) hn tb) (Nat.le_mul_of_pos_left _ (Nat.pow_pos (by omega)))
 have hse:2 ^ i*2 ^ (32-i)=4294967296:=by rw[<- Nat.pow_add,show i+(32-i)=32 by omega]
 have hs0:0<2 ^ i:=Nat.pow_pos (by omega)
 have hAQ:2 ^ i*val a/(2 ^ i*val b)=val a/val b:=Nat.mul_div_mul_left _ _ hs0
 have hAR:2 ^ i*val a%(2 ^ i*val b)=2 ^ i*(val a%val b):=Nat.mul_mod_mul_left _ _ _
 have hAlt:2 ^ i*val a<4294967296 ^ (a.length-b.length+1)*(2 ^ i*val b):=by
  have h1:=ip ha.dig
  have h2:4294967296 ^ a.length<=4294967296 ^ (a.length-b.length+1)*val b:=by
   have h3:=Nat.mul_le_mul_left (4294967296 ^ (a.length-b.length+1)) (KD (n:=n0+1) hn tb)
   rw[<- Nat.pow_add,show a.length-b.length+1+(n0+1)=a.length by omega] at h3
   exact h3
  have e:4294967296 ^ (a.length-b.length+1)*(2 ^ i*val b)=2 ^ i*(4294967296 ^ (a.length-b.length+1)*val b):=by grind
  rw[e]
  exact Nat.mul_lt_mul_of_pos_left (Nat.lt_of_lt_of_le h1 h2) hs0
 obtain⟨bb,ob,rfl,hbb,hcb⟩:=hb.at (by omega)
 have hc0:=hcb (n0+1) (by omega)
 rw[X.out] at hc0
 have hcb1:=hb.le
 have hcb2:=hb.max
 have hla1:=ha.le
 have hma1:=ha.max
 obtain⟨iA,hiA⟩:∃A,Hid (2 ^ i*val a=A):=⟨_,rfl⟩
 obtain⟨V,HV⟩:∃V,Hid (2 ^ i*val b=V):=⟨_,rfl⟩
 obtain⟨m,HM⟩:∃m,Hid (a.length=m):=⟨_,rfl⟩
 obtain⟨M,HMM⟩:∃M,Hid (m-(n0+2)+1=M):=⟨_,rfl⟩
 subst hla hlb
 rw[hiA.out,HM.out] at SA
 rw[HV.out,hn] at SB
 rw[hiA.out,HV.out] at hAQ hAR hAlt
 rw[HV.out] at hVn hVg
 rw[HM.out,hn,HMM.out] at hAlt
 rw[HM.out] at h64 hnm hla1
 rw[hn] at hnm hcb1
 rw[HM.out,hn] at CP ⊢
 have hMm:M+n0+1=m:=by have:=HMM.out;omega
 obtain⟨ii,hii,hz0,hz1,hz2⟩:=info_parts rY
 have hn2:((n0:Int)+2==1)=false:=by rw[beq_eq_false_iff_ne];omega
 have AQ:=Lib.hid hAQ
 have AR:=Lib.hid hAR
 have ALT:=Lib.hid hAlt
 clear hAQ hAR hAlt hcb ta tb hge hix hie ha hb
 go_enter Tryz.func204,Tryz.ntmps204
 go_wp2_with fail
 refine (CP.out _ ag).mono ?_
 rintro e w1 ⟨rfl,hx1⟩
 have hc1:w1.cell? ⟨bb,ob+(n0+1),none⟩=some (.int .u32 (x:Int)):=(hx1.cell (p:=⟨bb,ob+(n0+1),none⟩) hbb).trans hc0
 go_wp2_with fail
 refine (LZ.out _).mono ?_
 rintro e w2 ⟨rfl,rfl⟩
 have hs1:=hx1.size
 go_upto_region 8 with (fail)
 refine uT (λW=>W.cell? ⟨bb,ob+(n0+1),none⟩=some (.int .u32 (x:Int))) ?_
 repeat (first|refine gQ ?_|refine gP ?_)
 refine Lx w2.heap.size (m+1) iA (λ_=>True) (by rfl) (by rfl) (by intro W hW;(try dsimp only at hW);have hwW:w2.heap.size<=W.heap.size:=hW.1.size;go_simp;refine (SA.out W (ac.step hx1 hW.1)).mono ?_;rintro e w' ⟨o,h1,h2,h3,rfl,h5,h6⟩;exact⟨_,rfl,(W.heap.size,o),rfl,h6,h1,h2,h3,trivial,ownsRow_base h5 hwW⟩) ?_
 intro gu U hU1 hU2 hU3 _
 refine rj ?_
 repeat (first|refine gQ ?_|refine gP ?_)
 refine Lx w2.heap.size (n0+2+1) V (λg=>g≠gu) (by rfl) (by rfl) (by intro W hW;(try dsimp only at hW);have hwW:w2.heap.size<=W.heap.size:=hW.1.1.size;have hlt:=(World.ownsRow.lt hW.2 gu rfl).2;go_simp;refine (SB.out W (ac.step hx1 hW.1.1)).mono ?_;rintro e w' ⟨o,h1,h2,h3,rfl,h5,h6⟩;exact⟨_,rfl,(W.heap.size,o),rfl,h6,h1,h2,h3,Nat.ne_of_gt hlt,ownsRow_base h5 hwW⟩) ?_
 intro gv V0 hV1 hV2 hV3 hV4
 refine rj ?_
 repeat (first|refine gQ ?_|refine gP ?_)
 refine U8 (v:=.slice (some ⟨gv,0,none⟩) (n0+2) (n0+2+1)) (by rfl) ?_ ?_
 ·intro W hW
  (try dsimp only at hW)
  go_simp
  rw[if_pos ⟨by omega,by omega⟩,show ((n0:Int)+2).toNat=n0+2 by omega]
 refine rj ?_
 repeat (first|refine gQ ?_|refine gP ?_)
 rintro w3 ⟨⟨⟨hx3,_⟩,hownU⟩,hownV⟩
 have hxw3:ac w w3:=ac.step hx1 hx3
 have hvd:ao (V0.take (n0+2)):=hV2.take _
 have hvl:(V0.take (n0+2)).length=n0+2:=by rw[List.length_take,Nat.min_eq_left (by omega)]
 have hvv:val (V0.take (n0+2))=V:=by
  have h1:=Ah (n:=n0+2) hV1 rfl
  rw[hV3] at h1
  rcases Nat.eq_zero_or_pos (V0[n0+2]?.getD 0) with g|g
  ·rw[g,Nat.mul_zero] at h1;exact h1.symm
  ·have h2 := Nat.mul_le_mul_left (4294967296 ^ (n0 + 2)) g
   have h3:V<4294967296 ^ (n0+2):=hVn
   omega
 obtain⟨pv',cv',hvs,hvrow0,_⟩:=sU hownV hV2
 have hvrow:Row w3 (some ⟨gv,0,none⟩) (n0+2+1) (V0.take (n0+2)):=by
  injection hvs with e1 e2 e3
  rw[<- e1,<- e3] at hvrow0
  exact hvrow0.take _ (by omega)
 have hgu:gu<w3.heap.size:=(World.ownsRow.lt hownU gu rfl).2
 have hgu2:w2.heap.size<=gu:=(World.ownsRow.lt hownU gu rfl).1
 have hVpos:0<V:=Nat.lt_of_lt_of_le (Nat.pow_pos (by omega)) hVg
 have hvtop:=Uu (n:=n0+1) (v:=V0.take (n0+2)) hvl hvd (by rw[hvv];exact hVg)
 obtain⟨v,Hv⟩:∃v,Hid (V0.take (n0+2)=v):=⟨_,rfl⟩
 rw[Hv.out] at hvd hvl hvv hvrow hvtop
 have VROW:=Lib.hid hvrow
 have OWNU:=Lib.hid hownU
 have HX3:=Lib.hid hx3
 clear hvs hvrow0 hownV hownU hvrow hx3 hc1 hc0
 have eM:(m:Int)-((n0:Int)+2)+1=(M:Int):=by omega
 have hM1:M<=900:=by omega
 go_wp2_with (at_make;refine wpList_make_full _ rfl _ _ 81 rfl w3.heap.size 186 ii (.int .u32 0) 1 Tryz.underlying81 hii hz0 hz1 _ _ _ _ M rfl rfl (by omega) (by omega) (by rw[hz2];omega) (by unfold maxLen;omega) (Nat.le_refl _) ?_)
 all_goals
  intro w4 hown hgr
  rw[show (madeCells #[Value.int IntKind.u32 0] M).toList=enc (List.replicate M 0++[]) from by rw[enc,List.append_nil,List.map_replicate];exact toList_madeCells_one _ _] at hown
  have hx4:ac w3 w4:=⟨hgr.os,hgr.tape,hgr.output,hgr.size,λk hk=>hgr.block k hk (by simp)⟩
  have hownU4:=wm OWNU.out hx4
  clear hgr
  go_wp2_with fail
  have hv3:gv<w3.heap.size:=by
   obtain⟨b',o',hp',hlt',_⟩:=VROW.out.at (by omega)
   cases hp'
   exact hlt'
  go_loopw [12] (λks wr=>∃(k:Nat) (u qs:List Nat),ks=.int .i64 ((k:Int)-1)/\qs.length+k=M/\u.length=m+1/\xB iA V k u qs/\wr.ownsRow w2.heap.size 186 1 (.slice (some ⟨gu,0,none⟩) (m+1) (m+1)) (m+1) (enc u)/\wr.ownsRow w3.heap.size 186 1 (.slice (some ⟨w3.heap.size,0,none⟩) M M) M (enc (List.replicate k 0++qs))/\Row wr (some ⟨gv,0,none⟩) (n0+2+1) v/\Below w2.heap.size w2 wr) (λks _=>(intOf ks+1).toNat)
  case atStart=>exact⟨M,U,[],rfl,by simp,hU1,⟨hU2,ao.nil,by rw[hU3];simp[val],by rw[hU3];exact ALT.out⟩,hownU4,hown,VROW.out.ext hx4,HX3.out.trans (hx4.mono HX3.out.size)⟩
  case round =>
   clear hown hownU4 hx4 hU1 hU2 hU3
   obtain⟨k,u,qs,rfl,hkM,hul,hinv,hownU,hownQ,hvr,hx⟩:=hrel
   cases k with
   | zero =>
    obtain⟨L1,L2⟩:=a0Y hVpos hinv
    rw[AQ.out] at L1
    rw[AR.out] at L2
    have HQ:=Lib.hid L1
    have DQ:=Lib.hid hinv.dq
    have DU:=Lib.hid hinv.du
    have hult:val u<4294967296 ^ (n0+2):=by
     have h1:=hinv.lt
     rw[Nat.pow_zero,Nat.one_mul] at h1
     exact Nat.lt_trans h1 hVn
    rw[List.replicate_zero,List.nil_append] at hownQ
    have hql:qs.length=M:=by omega
    have e:(((0:Nat):Int)-1) = -1:=by omega
    rw[e]
    clear e
    have S0:=Lib.hid (a59 hse u (by omega))
    have SE:=Lib.hid (λo (h:u5 (2 ^ i) u o) (hl:o.length=n0+2)=>a58 h hs0 hl hult DU.out (by omega) L2)
    have hwr2:w2.heap.size<=wr.heap.size:=hx.size
    have HOU:=Lib.hid hownU
    have HOQ:=Lib.hid hownQ
    have hgr1:=(World.ownsRow.lt hownU gu rfl).2
    clear hinv L1 L2 hownU hownQ hvr hult
    go_wp2_with (at_make;refine wpList_make_full _ rfl _ _ 81 rfl wr.heap.size 186 ii (.int .u32 0) 1 Tryz.underlying81 hii hz0 hz1 _ _ _ _ (n0+2) rfl rfl (by omega) (by omega) (by rw[hz2];omega) (by unfold maxLen;omega) (Nat.le_refl _) ?_)
    all_goals
     intro w5 hownR hgr
     have eMk:(madeCells #[Value.int IntKind.u32 0] (n0+2)).toList=enc ([]++List.replicate (n0+2) 0):=by
      rw[enc,List.nil_append,List.map_replicate]
      exact toList_madeCells_one _ _
     rw[eMk] at hownR
     clear eMk
     have hx5:ac wr w5:=⟨hgr.os,hgr.tape,hgr.output,hgr.size,λk hk=>hgr.block k hk (by simp)⟩
     have hownU5:=wm HOU.out hx5
     have hownQ5:=wm HOQ.out hx5
     clear hgr
     have hgrR:=(World.ownsRow.lt hownR wr.heap.size rfl).2
     have hw3r:w3.heap.size<wr.heap.size:=(World.ownsRow.lt HOQ.out w3.heap.size rfl).2
     have hx55:=hx.trans (hx5.mono hwr2)
     obtain⟨gr,GR⟩:∃gr,Hid (wr.heap.size=gr):=⟨_,rfl⟩
     rw[GR.out] at hownR hgr1 hw3r hwr2 ⊢
     go_wp2_with fail
     go_loopw [83] (λks W=>∃(o:List Nat),o.length<=n0+2/\ks=.int .i64 (o.length:Int)/\u5 (2 ^ i) u o/\W.ownsRow w2.heap.size 186 1 (.slice (some ⟨gu,0,none⟩) (m+1) (m+1)) (m+1) (enc u)/\W.ownsRow w3.heap.size 186 1 (.slice (some ⟨w3.heap.size,0,none⟩) M M) M (enc qs)/\W.ownsRow gr 186 1 (.slice (some ⟨gr,0,none⟩) (n0+2) (n0+2)) (n0+2) (enc (o++List.replicate (n0+2-o.length) 0))/\Below w2.heap.size w2 W) (λks _=>n0+2-(intOf ks).toNat)
     case atStart=>exact⟨[],by simp,rfl,S0.out,hownU5,hownQ5,hownR,hx55⟩
     case round =>
      clear hownU5 hownQ5 hownR hx5 hx55
      obtain⟨o,ho,rfl,hsh,hownU,hownQ,hownR,hx5⟩:=hrel
      by_cases hlt:o.length<n0+2
      ·have d0 := DU.out.getD o.length
       have d1:=DU.out.getD (o.length+1)
       rw[List.getD_eq_getElem?_getD] at d0 d1
       have k0:=Dc hownU o.length _ (by omega) rfl
       have k1:=Dc hownU (o.length+1) _ (by omega) rfl
       obtain⟨x0,X0⟩:∃x,Hid (u[o.length]?.getD 0=x):=⟨_,rfl⟩
       obtain⟨x1,X1⟩:∃x,Hid (u[o.length+1]?.getD 0=x):=⟨_,rfl⟩
       rw[X0.out] at k0 d0
       rw[X1.out] at k1 d1
       have STEP:=a6a hse hsh X0.out X1.out d0
       have OR:=zg x1 x0 d1 d0
       obtain⟨tt,TT⟩:∃x,Hid (x1*4294967296+x0=x):=⟨_,rfl⟩
       rw[TT.out] at STEP OR
       have htt:tt<18446744073709551616:=by have:=TT.out;omega
       have hp:(2:Int) ^ i=((2 ^ i:Nat):Int):=(Int.natCast_pow 2 i).symm
       have DV:(tt:Int)/2 ^ i%4294967296=((tt/2 ^ i%4294967296:Nat):Int):=by rw[hp];rfl
       obtain⟨y,Y⟩:∃x,Hid (tt/2 ^ i%4294967296=x):=⟨_,rfl⟩
       rw[Y.out] at DV STEP
       clear hp
       rw[DY _ (show 0<n0+2-o.length by omega)] at hownR
       have hcw:=zh (pre:=[]) (o:=o) (i:=o.length) hownR (by simp)
       have hfw:=World.ownsRow.frozenAt hownR o.length
       have hownR2:(wr.drew.setCell ⟨gr,o.length,none⟩ (.int .u32 (y:Int))).ownsRow gr 186 1 (.slice (some ⟨gr,0,none⟩) (n0+2) (n0+2)) (n0+2) (enc ([]++((o++[y])++List.replicate (n0+2-o.length-1) 0))):=wl (w:=wr.drew) (pre:=[]) (o:=o) (i:=o.length) hownR (by simp) y
       have hs7:=grownBy_setCell wr.drew ⟨gr,o.length,none⟩ (.int .u32 (y:Int))
       have hownU2:=World.ownsRow.kept (w:=wr.drew) hownU hs7 (.inr (by simp[Value.ownBlock];omega))
       have hownQ2:=World.ownsRow.kept (w:=wr.drew) hownQ hs7 (.inr (by simp[Value.ownBlock];omega))
       have hx8:Below w2.heap.size w2 (wr.drew.setCell ⟨gr,o.length,none⟩ (.int .u32 (y:Int))):=(Below.drew hx5).setCell (by show w2.heap.size<=gr;omega) _
       have hgl:gr<wr.heap.size:=(World.ownsRow.lt hownR gr rfl).2
       have A1:=Lib.hid hownU2
       have A2:=Lib.hid hownQ2
       have A3:=Lib.hid hownR2
       have A4:=Lib.hid hx8
       have A5:=Lib.hid STEP
       clear hownU hownQ hownR hownU2 hownQ2 hownR2 hx5 hx8 hs7 STEP hsh
       have hI1:(0:Int)<=(o.length:Int)+1:=by omega
       have hI2:(o.length:Int)+1<(m:Int)+1:=by omega
       have hI3:(o.length:Int)<(m:Int):=by omega
       have hI4:(o.length:Int)<(m:Int)+1:=by omega
       have hI5:(o.length:Int)<(n0:Int)+2:=by omega
       have hI6:IntKind.i64.wrap ((o.length:Int)+1)=(o.length:Int)+1:=IntWalk.i64_in _ (by omega)
       have hI7:((o.length:Int)+1).toNat=o.length+1:=by omega
       have hI8:(0:Int)<=(o.length:Int):=by omega
       go_upto_region 19 with (fail)
       go_still_tail 19,(by kernel_rfl)
       go_wp2
       refine⟨⟨o++[y],by simp;omega,by simp,A5.out,A1.out,A2.out,?_,A4.out⟩,by simp[intOf];omega⟩
       rw[List.length_append,List.length_singleton,Nat.sub_add_eq]
       exact A3.out
      ·have hol : o.length = n0 + 2 := by omega
       have hvo:=SE.out o hsh hol
       rw[hol,Nat.sub_self,List.replicate_zero,List.append_nil] at hownR
       obtain⟨pq,cq,hvq,hrowQ,_⟩:=sU (d:=qs) hownQ DQ.out
       obtain⟨pr,cr,hvr,hrowR,_⟩:=sU (d:=o) hownR hsh.1
       injection hvq with e1 e2 e3
       injection hvr with f1 f2 f3
       subst e1 f1
       rw[<- e3] at hrowQ
       rw[<- f3] at hrowR
       have TQ:=Lib.hid (CO qs _ _ _ _ hrowQ hql.symm)
       have hxw:ac w wr:=(ac.step hx1 (Below.refl _ _)).trans (hx5.mono hx1.size)
       have TR:=Lib.hid (λW (hx:ac wr W)=>CO o _ _ _ W (hrowR.ext hx) hol.symm)
       have EQ:=Lib.hid (show kj qs=cJ (val a/val b) by unfold kj;rw[HQ.out])
       have ER:=Lib.hid (show kj o=cJ (val a%val b) by unfold kj;rw[hvo])
       rw[EQ.out] at TQ
       rw[ER.out] at TR
       clear hownU hownQ hownR hsh hvo e2 e3 f2 f3 hrowQ hrowR
       go_wp2_with fail
       refine TQ.out.mono ?_
       rintro e w7 ⟨rfl,hr7,hx7⟩
       have HR7:=Lib.hid hr7
       clear hr7
       go_wp2_with fail
       refine (TR.out _ hx7).mono ?_
       rintro e w8 ⟨rfl,hr8,hx8⟩
       have hx9:ac w w8:=ac.step (ac.step hxw hx7) hx8
       have HR8:=Lib.hid hr8
       have HR9:=Lib.hid (HR7.out.ext hx8)
       clear hr8 hx7 hx8 hx5
       go_wp2
       go_ret2
       exact⟨_,_,_,_,rfl,HR9.out,HR8.out,hx9⟩
   | succ k =>
    have e:(((k+1:Nat):Int)-1)=(k:Int):=by omega
    rw[e]
    clear e
    obtain⟨pre,part,post,rfl,hpre,hpart⟩:=a6l u k (n0+2+1) (by omega)
    obtain⟨hpost,hplt⟩:=PM hpre hpart hVn hinv
    have dpart:ao part:=λx hx=>hinv.du x (List.mem_append_right _ (List.mem_append_left _ hx))
    have PR:=a2W (cap:=m+1-k) hownU dpart (by omega) (by omega)
    rw[hpre] at PR
    have GS:=Lib.hid (a16 part v _ _ _ _ n0 wr PR hvr hpart hvl (by omega) hvtop (by rw[hvv];exact hplt))
    have INV:=Lib.hid hinv
    have HOU:=Lib.hid hownU
    have HOQ:=Lib.hid hownQ
    have HVR:=Lib.hid hvr
    clear hinv hownU hownQ hvr PR
    have hw4:w2.heap.size<=wr.heap.size:=hx.size
    go_wp2_with fail
    rw[show k+(n0+2)+1-k=n0+3 by omega]
    refine GS.out.mono ?_
    rintro e w5 ⟨q,rfl,hq1,hq2,hq3,hx5⟩
    have RD:=Lib.hid (a18 pre part post v gu k (m+1) (n0+2) (m+1-k) (n0+2+1) w2.heap.size q (some ⟨gv,0,none⟩) w5 (wm HOU.out hx5) hpre hpart hvl (HVR.out.ext hx5) (λx hx=>by cases hx;exact hV4) dpart (by omega) (by omega) (by omega) (by omega) (by rw[hvv];exact hVpos) hq1 hq2 hq3)
    have hownQ5:=wm HOQ.out hx5
    have hvr5:=HVR.out.ext hx5
    have hx6:Below w2.heap.size w2 w5:=hx.trans (hx5.mono hw4)
    have hw5:=hx5.size
    clear hx5 hq1 hq2 hq3
    go_wp2_with fail
    refine RD.out.mono ?_
    rintro e w6 ⟨part',hl',hd',hv',rfl,hownU6,hg6⟩
    rw[hvv] at hv' ⊢
    have hownQ6:=World.ownsRow.kept hownQ5 hg6 (.inr (by simp[Value.ownBlock];omega))
    have hvr6:=hvr5.grown (λ_ x hx=>by cases hx;exact hV4) hg6
    have hx7:Below w2.heap.size w2 w6:=hx6.grown hg6 (by omega) (λk hk=>by injection hk with hk;omega)
    have hw6:=hg6.size
    have hdq:val part/V<4294967296:=(Nat.div_lt_iff_lt_mul hVpos).2 hplt
    have STEP:=a0Z hpre hpart hl' hVn hVpos INV.out hd' hv'
    obtain⟨dq,DQ⟩:∃x,Hid (val part/V=x):=⟨_,rfl⟩
    rw[DQ.out] at hdq STEP ⊢
    have hcq:w6.cell? ⟨w3.heap.size,k,none⟩=some (.int .u32 0):=by
     rw[World.ownsRow.cellAt hownQ6 k (by omega)]
     exact Oo k qs
    have hfq:=World.ownsRow.frozenAt hownQ6 k
    obtain⟨hownQ7,_⟩:=World.ownsRow.stored hownQ6 k (.int .u32 (dq:Int))
    rw[Om] at hownQ7
    have hs7:=grownBy_setCell w6 ⟨w3.heap.size,k,none⟩ (.int .u32 (dq:Int))
    have hownU7:=World.ownsRow.kept hownU6 hs7 (.inr (by simp[Value.ownBlock];omega))
    have hvr7:=hvr6.grown (λ_ x hx=>by cases hx;exact Nat.ne_of_lt hv3) hs7
    have hx8:Below w2.heap.size w2 (w6.setCell ⟨w3.heap.size,k,none⟩ (.int .u32 (dq:Int))):=hx7.setCell (by show w2.heap.size<=w3.heap.size;exact HX3.out.size) _
    have A1:=Lib.hid hownU7
    have A2:=Lib.hid hownQ7
    have A3:=Lib.hid hvr7
    have A4:=Lib.hid hx8
    have A5:=Lib.hid STEP
    clear hownU6 hownU7 hownQ6 hownQ7 hownQ5 hvr5 hvr6 hvr7 hx6 hx7 hx8 hs7 hg6 STEP
    go_wp2
    refine⟨⟨k,pre++(part'++post),dq::qs,rfl,by simp;omega,?_,A5.out,A1.out,A2.out,A3.out,A4.out⟩,by simp[intOf]⟩
    rw[<- hul,List.length_append,List.length_append,List.length_append,List.length_append,hl',hpart]
theorem N7:Lp 64:=by
 intro x y px py lx cx ly cy W hx hy h1 h2 tx ty h3 h4 h5;by_cases hlt:val x<val y
 ·exact Qy x y px py lx cx ly cy W hx hy h1 h2 tx ty hlt
 ·by_cases h6 : y.length = 1
  ·exact a14 x y px py lx cx ly cy W hx hy h1 h2 tx ty (by omega) h6
  ·exact a12 x y px py lx cx ly cy (y.length-2) W hx hy h1 h2 tx ty (by omega) (by omega) (by omega)
end
theorem YL(a b:Nm)(r:Nm×Nm×Bool)(na nb:Bool)(pa pb:Option Addr)(la ca lb cb:Nat)(w:World)(ha:NR w na pa la ca a)(hb:NR w nb pb lb cb b)(h:iz a b=r) :
  Calls Tryz.prog 141 #[.agg #[.bool na,.slice pa la ca],.agg #[.bool nb,.slice pb lb cb]] w (tl w r) :=
 h ▸ a1X a b na nb pa pb la ca lb cb w ha hb (λra rb h0 W hx=>N7 a.d b.d pa pb la ca lb cb W (ha.2.2.ext hx) (hb.2.2.ext hx) ha.2.1 hb.2.1 (a.right_iff.1 ra).2.1 (b.right_iff.1 rb).2.1 (a.right_iff.1 ra).1 h0 (b.right_iff.1 rb).1)
theorem Z1(a b:Nm)(r:Nm×Bool)(na nb:Bool)(pa pb:Option Addr)(la ca lb cb:Nat)(w:World)(ha:NR w na pa la ca a)(hb:NR w nb pb lb cb b)(rb:b.right=true)(h:jX a b=r) :
  Calls Tryz.prog 140 #[.agg #[.bool na,.slice pa la ca],.agg #[.bool nb,.slice pb lb cb]] w (jR w r) :=
 h ▸ a1Y a b na nb pa pb la ca lb cb w ha hb 64 (b.right_iff.1 rb).1 N7
theorem uQ(z:Int):val (ai z).d=z.natAbs:=xc _
theorem PH(z:Int):(ai z).d.length=0 <-> z=0:=by
 simp only[ai];constructor
 ·intro h;have:=yo.1 (List.eq_nil_of_length_eq_zero h);omega
 ·rintro rfl;rw[Int.natAbs_zero,ji];rfl
theorem a7v{x:Int}{n:Nat}(hx:small x=true)(hn:small (n:Int)=true)(h0:0<n):iz (ai x) (ai (n:Int))=(ai (x/(n:Int)),ai (x%(n:Int)),true):=by
 have hl:0<(ai (n:Int)).d.length:=by
  rcases Nat.eq_zero_or_pos (ai (n:Int)).d.length with g|g
  ·have:=(PH _).1 g;omega
  ·exact g
 rw[Gk (ic hx) (ic hn) (by simp[ai]) hl,fj,uQ,Int.natAbs_natCast]
theorem un{n:Nat}:(ai (n:Int)).neg=false:=by simp[ai]
theorem a0X:ai 0=⟨false,[]⟩:=by unfold ai;simp[ji]
theorem ZZ{a b:Nm}(ra:a.right=true)(rb:b.right=true):jX a b=(ai ((Nat.gcd (val a.d) (val b.d):Nat):Int),true):=by
 unfold jX;rw[ra,rb];rfl
theorem N8{a:Nm}{g:Nat}(ra:a.right=true)(hg:small (g:Int)=true)(h0:0<g):iz a (ai (g:Int))=(ai (a.z/(g:Int)),ai (a.z%(g:Int)),true):=by
 have hl:0<(ai (g:Int)).d.length:=by
  rcases Nat.eq_zero_or_pos (ai (g:Int)).d.length with k|k
  ·have:=(PH _).1 k;omega
  ·exact k
 rw[Gk ra (ic hg) un hl,uQ,Int.natAbs_natCast]
structure Rt where
 add:Int
 s:Int
 n:Nm
 d:Nm
def Rt.no:Rt:=⟨0,0,zero,zero⟩
def j9(s:Int)(n d:Nm):Bool:=decide (s < -1)||decide (1<s) || !n.right || !d.right||n.neg||decide (d.z<=0)
def yE(n d:Nm):Int:=((Nat.gcd (val n.d) (val d.d):Nat):Int)
def dc(add s:Int)(n d:Nm):Rt×Bool :=
 if j9 s n d then (Rt.no,false)
 else if s=0\/n.z=0 then (⟨add,0,zero,ai 1⟩,true)
 else if 8<max (ai (n.z/yE n d)).d.length (ai (d.z/yE n d)).d.length then (Rt.no,false)
 else (⟨add,s,ai (n.z/yE n d),ai (d.z/yE n d)⟩,true)
def Rt.right(a:Rt):Bool:=(dc a.add a.s a.n a.d).2&&((dc a.add a.s a.n a.d).1.s==a.s&&(ej a.n (dc a.add a.s a.n a.d).1.n==0&&ej a.d (dc a.add a.s a.n a.d).1.d==0))
theorem q9Q{s:Int}{n d:Nm}(h:j9 s n d=false) : -1<=s/\s<=1/\n.right=true/\d.right=true/\n.neg=false/\0<d.z:=by
 simp only[j9,Bool.or_eq_false_iff,decide_eq_false_iff_not,Bool.not_eq_false'] at h;obtain⟨⟨⟨⟨⟨h1,h2⟩,h3⟩,h4⟩,h5⟩,h6⟩:=h;exact⟨by omega,by omega,h3,h4,h5,by omega⟩
theorem IP{s:Int}{n d:Nm}(h1 : -1<=s)(h2:s<=1)(h3:n.right=true)(h4:d.right=true)(h5:n.neg=false)(h6:0<d.z):j9 s n d=false:=by
 simp only[j9,Bool.or_eq_false_iff,decide_eq_false_iff_not,Bool.not_eq_false'];exact⟨⟨⟨⟨⟨by omega,by omega⟩,h3⟩,h4⟩,h5⟩,by omega⟩
theorem Ao{n:Nm}(h:n.neg=false):n.z=(val n.d:Int):=by unfold Nm.z;rw[h];rfl
theorem Gj{d:Nm}(h:0<d.z):d.z=(val d.d:Int)/\0<val d.d:=by
 unfold Nm.z at *;split at h
 ·omega
 ·rename_i g;rw[if_neg g];exact⟨rfl,by omega⟩
theorem T8{x:Nm}(hd:ao x.d)(hr:x.right=true)(g:Nat):small ((val x.d/g:Nat):Int)=true:=by
 refine wU hd hr ?_;rw[Int.natAbs_natCast];exact Nat.div_le_self _ _
theorem IQ{add s:Int}{n d:Nm}(hn:n.neg=false)(hd:0<d.z)(hb:j9 s n d=false)(h0:¬(s=0\/n.z=0)) :
  dc add s n d=if 8<max (ai ((val n.d/Nat.gcd (val n.d) (val d.d):Nat):Int)).d.length (ai ((val d.d/Nat.gcd (val n.d) (val d.d):Nat):Int)).d.length then (Rt.no,false)
   else (⟨add,s,ai ((val n.d/Nat.gcd (val n.d) (val d.d):Nat):Int),ai ((val d.d/Nat.gcd (val n.d) (val d.d):Nat):Int)⟩,true):=by
 unfold dc;rw[hb,if_neg (by simp),if_neg h0,Ao hn,(Gj hd).1];rfl
theorem Nw{a:Nm}(h:a.right=true):ej a a=0:=by
 unfold ej eP;rw[h];simp
theorem Sv{a:Rt}(h:dc a.add a.s a.n a.d=(a,true))(h1:a.n.right=true)(h2:a.d.right=true):a.right=true:=by
 unfold Rt.right;rw[h];simp[Nw h1,Nw h2]
structure Rt.Ok (a:Rt):Prop where
 sl : -1<=a.s
 su:a.s<=1
 nr:a.n.right=true
 dr:a.d.right=true
 nn:a.n.neg=false
 dn:a.d.neg=false
 dp:0<val a.d.d
 nl:a.n.d.length<=8
 dl:a.d.d.length<=8
 n0:a.s=0->val a.n.d=0/\val a.d.d=1
 n1:a.s≠0->0<val a.n.d
 co:Nat.gcd (val a.n.d) (val a.d.d)=1
theorem QM:(ai 1).right=true:=by decide +kernel
theorem K6:val (ai 1).d=1:=by rw[uQ];rfl
theorem UU:zero.right=true:=rfl
theorem a2B:(ai 1).d.length=1:=by
 have:(ai 1).d=[1]:=by simp only[ai];rw[show (1:Int).natAbs=1 from rfl,rL (by decide),show 1/4294967296=0 from rfl,ji]
 rw[this];rfl
theorem IU{add s:Int}{n d:Nm}(hdn:ao n.d)(hdd:ao d.d){a:Rt}(h:dc add s n d=(a,true)):a.Ok/\dc a.add a.s a.n a.d=(a,true)/\a.add=add:=by
 cases hb:j9 s n d with|true=>unfold dc at h;rw[hb] at h;simp at h|false =>
  obtain⟨s1,s2,rn,rd,nn,dp⟩:=q9Q hb;by_cases h0:s=0\/n.z=0
  ·unfold dc at h;rw[hb,if_neg (by simp),if_pos h0] at h;obtain rfl:(⟨add,0,zero,ai 1⟩:Rt)=a:=congrArg Prod.fst h;refine⟨⟨show (-1:Int)<=0 by decide,show (0:Int)<=1 by decide,UU,QM,rfl,by simp[ai],by rw[K6];decide,Nat.zero_le _,by rw[a2B];decide,λ_=>⟨rfl,K6⟩,λg=>absurd rfl g,?_⟩,?_,rfl⟩
   ·show Nat.gcd (val zero.d) (val (ai 1).d) = 1;rw[K6,Nat.gcd_one_right]
   ·unfold dc;rw[IP (show (-1:Int)<=0 by decide) (show (0:Int)<=1 by decide) UU QM rfl (by rw[fj];decide),if_neg (by simp),if_pos (.inl rfl)]
  ·rw [IQ nn dp hb h0] at h;split at h
   ·simp at h
   ·rename_i hl;obtain⟨ed,pd⟩:=Gj dp;have en:=Ao nn;have hn0:0<val n.d:=by
     rcases Nat.eq_zero_or_pos (val n.d) with g|g
     ·exfalso;apply h0;right;rw[en,g];rfl
     ·exact g
    have sN:=T8 hdn rn (Nat.gcd (val n.d) (val d.d));have sD:=T8 hdd rd (Nat.gcd (val n.d) (val d.d));have hg:0<Nat.gcd (val n.d) (val d.d):=Nat.gcd_pos_of_pos_left _ hn0;have hco:Nat.gcd (val n.d/Nat.gcd (val n.d) (val d.d)) (val d.d/Nat.gcd (val n.d) (val d.d))=1:=by
     rw[Nat.gcd_div (Nat.gcd_dvd_left _ _) (Nat.gcd_dvd_right _ _),Nat.div_self hg]
    have pN:0<val n.d/Nat.gcd (val n.d) (val d.d):=Nat.div_pos (Nat.gcd_le_left _ hn0) hg;have pD:0<val d.d/Nat.gcd (val n.d) (val d.d):=Nat.div_pos (Nat.gcd_le_right _ pd) hg;generalize val n.d/Nat.gcd (val n.d) (val d.d)=N at *;generalize val d.d/Nat.gcd (val n.d) (val d.d)=D at *;obtain rfl:(⟨add,s,ai (N:Int),ai (D:Int)⟩:Rt)=a:=congrArg Prod.fst h;have vN:val (ai (N:Int)).d=N:=by rw[uQ];rfl
    have vD:val (ai (D:Int)).d=D:=by rw[uQ];rfl
    refine⟨⟨s1,s2,ic sN,ic sD,un,un,by rw[vD];exact pD,by show (ai (N:Int)).d.length<=8;omega,by show (ai (D:Int)).d.length<=8;omega,λg=>absurd (.inl g) h0,λ_=>by rw[vN];exact pN,by rw[vN,vD];exact hco⟩,?_,rfl⟩;show dc add s (ai (N:Int)) (ai (D:Int))=_;rw[IQ un (by rw[fj];omega) (IP s1 s2 (ic sN) (ic sD) un (by rw[fj];omega)) (by rw[fj];intro g;rcases g with g|g;exact h0 (.inl g);omega),vN,vD,hco,Nat.div_one,Nat.div_one,if_neg hl]
theorem Sz{a:Rt}(hdn:ao a.n.d)(hdd:ao a.d.d)(h:a.right=true):a.Ok/\dc a.add a.s a.n a.d=(a,true):=by
 obtain⟨b,hb⟩:∃b,dc a.add a.s a.n a.d=b:=⟨_,rfl⟩;obtain⟨b,ok⟩:=b;have hr:=h;unfold Rt.right at hr;rw[hb] at hr ⊢;simp only[Bool.and_eq_true,beq_iff_eq] at hr;obtain⟨rfl,h1,h2,h3⟩:=hr;obtain⟨k1,_,k3⟩:=IU hdn hdd hb;have hbad:j9 a.s a.n a.d=false:=by
  cases hq:j9 a.s a.n a.d with|false=>rfl|true=>unfold dc at hb;rw[hq] at hb;simp at hb
 obtain⟨_,_,rn,rd,_,_⟩:=q9Q hbad;have eqz:∀ {x y:Nm},ao x.d->x.right=true->y.right=true->(∃z,y=ai z)->ej x y=0->x=y:=by
  rintro x y hx rx ry ⟨z,rfl⟩ hc;unfold ej eP at hc;rw[rx,ry] at hc;have hz:x.z=(ai z).z:=by
   simp only[Bool.and_self,if_true] at hc;split at hc
   ·omega
   ·split at hc
    ·assumption
    ·omega
  rw[fj] at hz;rw[<- IV hx rx,hz]
 have hform:(∃z,b.n=ai z)/\∃z,b.d=ai z:=by
  unfold dc at hb;rw[hbad,if_neg (by simp)] at hb;split at hb
  ·obtain rfl : (⟨a.add, 0, zero, ai 1⟩ : Rt) = b := congrArg Prod.fst hb;exact⟨⟨0,a0X.symm⟩,⟨1,rfl⟩⟩
  ·split at hb
   ·simp at hb
   ·obtain rfl := congrArg Prod.fst hb;exact⟨⟨_,rfl⟩,⟨_,rfl⟩⟩
 have e1:=eqz hdn rn k1.nr hform.1 h2;have e2:=eqz hdd rd k1.dr hform.2 h3;have:b=a:=by
  cases a;cases b;simp only at *;subst e1 e2 h1 k3;rfl
 subst this;exact⟨k1,rfl⟩
def eE(a b:Rt):Int:=if a.right&&b.right then qd (a.add-b.add) a.s a.n.z a.d.z b.s b.n.z b.d.z else 0
def rv(a:Rt):Re:=lin (a.add*(val a.d.d:Int)) a.s (val a.n.d*val a.d.d)
def mul(z:Int)(x:Re):Re:=(Re.int z).mul x
def df(a b:Rt):Re:=(mul (val b.d.d:Int) (rv a)).add (mul (val a.d.d:Int) (rv b)).neg
theorem Rt.Ok.zs{a:Rt}(h:a.Ok):a.n.z=(val a.n.d:Int)/\a.d.z=(val a.d.d:Int):=⟨Ao h.nn,Ao h.dn⟩
theorem Sg.zero{x:Re}(h:∀k,x.f k=0):Sg 0 x:=.inr (.inl ⟨rfl,IB λk=>by rw[h];exact Rat.le_refl,IB λk=>by show 0 <= -x.f k;rw[h];decide⟩)
end Go.Proofs.YtghemgdfmldoeaaGreat
