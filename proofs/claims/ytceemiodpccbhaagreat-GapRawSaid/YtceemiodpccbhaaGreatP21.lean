import Derived.Test.YtceemiodpccbhaaGreatP20
set_option linter.unusedVariables false
set_option linter.unusedSimpArgs false

namespace Go.Proofs.YtceemiodpccbhaaGreat
open Go.RowKit

set_option maxHeartbeats 4000000
set_option maxRecDepth 100000
section
attribute [local go_sem] Gives givesU
theorem RDiv_simple(a b:Nm)(na:Bool)(pa pb:Option Addr)(la ca lb cb:Nat)(w:World)(ha:NR w na pa la ca a)(hb:NR w false pb lb cb b)(ra:a.right=true)(rb:b.right=true)(hlb:0<lb)(dq dr:List Nat)(X Y:Nm)
  (DV:∀W,Ext w W->Calls Tryz.prog 173 #[.slice pa la ca,.slice pb lb cb] W (RetQR W dq dr)) (hs:na=true->dr=[]) (hX:madeP na dq=(X,true)) (hY:madeP false dr=(Y,true)) :
  Calls Tryz.prog 125 #[.agg #[.bool na,.slice pa la ca],.agg #[.bool false,.slice pb lb cb]] w (RetDiv w (X,Y,true)):=by
 have RA:=Lib.hid (fun w' (hx:Ext w w')=>r01_Right a na pa la ca w' (ha.ext hx))
 have RB:=Lib.hid (fun w' (hx:Ext w w')=>r01_Right b false pb lb cb w' (hb.ext hx))
 rw[ra] at RA
 rw[rb] at RB
 have e0:((lb:Int)==0)=false:=by rw[beq_eq_false_iff_ne];omega
 replace DV:=Lib.hid DV
 clear hlb ra rb
 have MK1:=Lib.hid (fun p c W (h:Row W p c dq)=>by have:=r01_made na dq p dq.length c W h rfl;rw[hX] at this;exact this)
 have MK2:=Lib.hid (fun p c W (h:Row W p c dr)=>by have:=r01_made false dr p dr.length c W h rfl;rw[hY] at this;exact this)
 have HS:=Lib.hid hs
 clear hs hX hY
 go_enter Tryz.func125,Tryz.ntmps125
 go_wp2_with fail
 refine (RA.out _ bxx).mono ?_
 rintro e w1 ⟨rfl,hx⟩
 have hx0:Ext w w1:=Ext.step bxx hx
 obtain⟨_,⟨_,_,_⟩,⟨_,_,_⟩,⟨_,_,_⟩,_,_,_⟩:=keepK4 hx w.heap.size
 go_wp2_with fail
 refine (RB.out _ bxx).mono ?_
 rintro e w2 ⟨rfl,hx2⟩
 have hx1:Ext w w2:=Ext.step bxx hx2
 obtain⟨_,⟨_,_,_⟩,⟨_,_,_⟩,⟨_,_,_⟩,_,_,_⟩:=keepK4 hx2 w.heap.size
 go_wp2_with fail
 refine (DV.out _ bxx).mono ?_
 rintro e w3 ⟨p,c,p2,c2,rfl,hq,hr,hx3⟩
 have hx4:Ext w w3:=Ext.step bxx hx3
 obtain⟨hz_w3,⟨_,_,_⟩,⟨_,_,_⟩,⟨_,_,_⟩,_,_,_⟩:=keepK4 hx3 w.heap.size
 cases na
 all_goals
  try obtain rfl:dr=[]:=HS.out rfl
  go_wp2_with fail
  refine (MK1.out _ _ _ (hq.ext bxx)).mono ?_
  rintro e w5 ⟨n5,p5,l5,c5,rfl,hn5,hnew5,hx5⟩
  have hx6:Ext w w5:=Ext.step bxx hx5
  obtain⟨_,⟨_,_,_⟩,⟨_,_,_⟩,⟨_,_,_⟩,_,_,_⟩:=keepK4 hx5 w.heap.size
  go_wp2_with fail
  refine (MK2.out _ _ _ (hr.ext (hx5.alloc hx5.size _))).mono ?_
  rintro e w6 ⟨n6,p6,l6,c6,rfl,hn6,hnew6,hx7⟩
  have hx8:Ext w w6:=Ext.step bxx hx7
  have k5a:w6.cell? ⟨w5.heap.size,0,none⟩=some (.bool n5):=(hx7.cell (p:=⟨w5.heap.size,0,none⟩) (by simp)).trans (by go_simp)
  have k5b:w6.cell? ⟨w5.heap.size,1,none⟩=some (.slice p5 l5 c5):=(hx7.cell (p:=⟨w5.heap.size,1,none⟩) (by simp)).trans (by go_simp)
  have k5l:w5.heap.size<w6.heap.size:=Nat.lt_of_lt_of_le (by simp) hx7.size
  obtain⟨_,⟨_,_,_⟩,⟨_,_,_⟩,⟨_,_,_⟩,_,_,_⟩:=keepK4 hx7 w.heap.size
  have hn5':NR w6 n5 p5 l5 c5 X:=hn5.ext (Below.trans ((Below.refl _ _).alloc (Nat.le_refl _) _) (hx7.mono (by simp)))
  have hnw5:New w3 p5:=hnew5.mono (Nat.le_refl w3.heap.size)
  have hnw6:New w3 p6:=hnew6.mono (by have:=hx5.size;have:=(Nat.le_refl w3.heap.size);simp;omega)
  have z3:w.heap.size+4<=w3.heap.size:=hz_w3
  go_upto_region 11 with (fail)
  refine wp_some (fun W=>Ext w W/\(W.cell? ⟨w.heap.size+1+1,0,none⟩=some (.bool false)/\W.cell? ⟨w.heap.size+1+1,1,none⟩=some (.slice none 0 0)/\W.cell? ⟨w.heap.size+1+1+1,0,none⟩=some (.bool false)/\W.cell? ⟨w.heap.size+1+1+1,1,none⟩=some (.slice none 0 0)/\W.cell? ⟨w5.heap.size,0,none⟩=some (.bool n5)/\W.cell? ⟨w5.heap.size,1,none⟩=some (.slice p5 l5 c5)/\W.cell? ⟨w6.heap.size,0,none⟩=some (.bool n6)/\W.cell? ⟨w6.heap.size,1,none⟩=some (.slice p6 l6 c6)/\(∀o,W.frozen? ⟨w.heap.size+1+1,o,none⟩=false)/\(∀o,W.frozen? ⟨w.heap.size+1+1+1,o,none⟩=false) )/\w.heap.size+4<=W.heap.size/\NR W n5 p5 l5 c5 X/\NR W n6 p6 l6 c6 Y) ?_ ?_
  ·exact⟨bxx,⟨by go_simp,by go_simp,by go_simp,by go_simp,by go_simp,by go_simp,by go_simp,by go_simp,by intro o;go_simp,by intro o;go_simp⟩,by simp;omega,hn5'.alloc _,hn6.alloc _⟩
  obtain⟨A5,HA5⟩:∃x,Hid (w5.heap.size=x):=⟨_,rfl⟩
  obtain⟨A6,HA6⟩:∃x,Hid (w6.heap.size=x):=⟨_,rfl⟩
  have hne1:w.heap.size+1+1≠A5:=by have:=HA5.out;have:=hx5.size;have:=(Nat.le_refl w3.heap.size);omega
  have hne2:w.heap.size+1+1+1≠A5:=by have:=HA5.out;have:=hx5.size;have:=(Nat.le_refl w3.heap.size);omega
  have hne3:w.heap.size+1+1≠A6:=by have:=HA5.out;have:=HA6.out;omega
  have hne4:w.heap.size+1+1+1≠A6:=by have:=HA5.out;have:=HA6.out;omega
  rw[HA5.out,HA6.out]
  rintro V ⟨hxV,⟨v0,v1,v2,v3,v4,v5,v6,v7,vf1,vf2⟩,hzV,hN5,hN6⟩
  have HN5:=Lib.hid hN5
  have HN6:=Lib.hid hN6
  have HXV:=Lib.hid hxV
  have y2:w.heap.size+1+1<V.heap.size:=by omega
  have y3:w.heap.size+1+1+1<V.heap.size:=by omega
  have Z3:=Lib.hid z3
  have NW5:=Lib.hid hnw5
  have NW6:=Lib.hid hnw6
  clear hN5 hN6 hxV k5a k5b k5l hn5' hn6 hn5 hx8 hx6 hx4 hx7 hx5 hx3 hx0 hx1 hx2 hx hzV z3 hnew5 hnew6 hnw5 hnw6 hq hr
  go_region
  all_goals
   go_wp2
   refine bodyPost_ret (v:=.tuple #[.agg #[.bool n5,.slice p5 l5 c5],.agg #[.bool n6,.slice p6 l6 c6],.bool true]) (by simp only[results,Tryz.results125];go_simp) rfl ?_
   have hN5:=HN5.out
   have hN6:=HN6.out
   have hxV:=HXV.out
   have hnw5:=NW5.out
   have hnw6:=NW6.out
   have z3:=Z3.out
   refine⟨n5,p5,l5,c5,n6,p6,l6,c6,rfl,?_,?_,hnw5.mono (by omega),hnw6.mono (by omega),bxx⟩
   ·(repeat (first|assumption|exact NR.drew (by assumption)|refine NR.set ?_ (w0:=w3) (by assumption) _ omm _|refine NR.drew ?_))
   ·(repeat (first|assumption|exact NR.drew (by assumption)|refine NR.set ?_ (w0:=w3) (by assumption) _ omm _|refine NR.drew ?_))
end

set_option maxHeartbeats 4000000
set_option maxRecDepth 100000
section
attribute [local go_sem] Gives givesU
theorem RDiv_neg(a b:Nm)(pa pb:Option Addr)(la ca lb cb:Nat)(w:World)(ha:NR w true pa la ca a)(hb:NR w false pb lb cb b)(ra:a.right=true)(rb:b.right=true)(hlb:0<lb)(dq dr:List Nat)(X Y:Nm)
  (DV:∀W,Ext w W->Calls Tryz.prog 173 #[.slice pa la ca,.slice pb lb cb] W (RetQR W dq dr)) (hs:0<dr.length) (hX:∀o:List Nat,val o=val dq+1->madeP true o=(X,true)) (hY:∀o:List Nat,val o=val b.d-val dr->madeP false o=(Y,true))
  (lq:dq.length<=64) (lr:dr.length<=64) (hle:val dr<=val b.d) (hbl:dr.length<=b.d.length) :
  Calls Tryz.prog 125 #[.agg #[.bool true,.slice pa la ca],.agg #[.bool false,.slice pb lb cb]] w (RetDiv w (X,Y,true)):=by
 have lb64:b.d.length<=64:=(b.right_iff.1 rb).1
 have PL:=Lib.hid (fun p c g W (h:Row W p c dq) (k:Row W (some ⟨g,0,none⟩) 1 [1])=>r01_plus dq [1] p (some ⟨g,0,none⟩) dq.length c 1 1 W h k rfl rfl (by omega) (by simp))
 have MN:=Lib.hid (fun p c W (k:Ext w W) (h:Row W p c dr)=>r01_minus b.d dr pb p lb cb dr.length c W (hb.2.2.ext k) h hb.2.1 rfl (by omega) hbl hle)
 have RA:=Lib.hid (fun w' (hx:Ext w w')=>r01_Right a true pa la ca w' (ha.ext hx))
 have RB:=Lib.hid (fun w' (hx:Ext w w')=>r01_Right b false pb lb cb w' (hb.ext hx))
 rw[ra] at RA
 rw[rb] at RB
 have e0:((lb:Int)==0)=false:=by rw[beq_eq_false_iff_ne];omega
 replace DV:=Lib.hid DV
 clear hlb ra rb
 have MK1:=Lib.hid (fun o p c W (h:Row W p c o) (hv:val o=val dq+val [1])=>by have:=r01_made true o p o.length c W h rfl;rw[hX o (by rw[hv,val_one])] at this;exact this)
 have MK2:=Lib.hid (fun o p c W (h:Row W p c o) (hv:val o=val b.d-val dr)=>by have:=r01_made false o p o.length c W h rfl;rw[hY o hv] at this;exact this)
 clear hX hY lq lr hle hbl lb64
 go_enter Tryz.func125,Tryz.ntmps125
 go_wp2_with fail
 refine (RA.out _ bxx).mono ?_
 rintro e w1 ⟨rfl,hx⟩
 have hx0:Ext w w1:=Ext.step bxx hx
 obtain⟨_,⟨_,_,_⟩,⟨_,_,_⟩,⟨_,_,_⟩,_,_,_⟩:=keepK4 hx w.heap.size
 go_wp2_with fail
 refine (RB.out _ bxx).mono ?_
 rintro e w2 ⟨rfl,hx2⟩
 have hx1:Ext w w2:=Ext.step bxx hx2
 obtain⟨_,⟨_,_,_⟩,⟨_,_,_⟩,⟨_,_,_⟩,_,_,_⟩:=keepK4 hx2 w.heap.size
 go_wp2_with fail
 refine (DV.out _ bxx).mono ?_
 rintro e w3 ⟨p,c,p2,c2,rfl,hq,hr,hx3⟩
 have hx4:Ext w w3:=Ext.step bxx hx3
 obtain⟨hz_w3,⟨_,_,_⟩,⟨_,_,_⟩,⟨_,_,_⟩,_,_,_⟩:=keepK4 hx3 w.heap.size
 obtain⟨m,HM⟩:∃m,Hid (dr.length=m):=⟨_,rfl⟩
 obtain⟨mq,HMQ⟩:∃m,Hid (dq.length=m):=⟨_,rfl⟩
 rw[HM.out] at hs ⊢
 rw[HMQ.out]
 rw[HM.out] at MN
 rw[HMQ.out] at PL
 go_wp2_with fail
 refine (PL.out p c _ _ (hq.ext bxx) (row_one _ 1 _ _ (by decide) rfl)).mono ?_
 rintro e w3b ⟨q1,k1,rfl,hr1,_,hx3b⟩
 have hy1:Ext w3 w3b:=Ext.step bxx hx3b
 obtain⟨_,⟨_,_,_⟩,⟨_,_,_⟩,⟨_,_,_⟩,_,_,_⟩:=keepK4 hy1 w.heap.size
 obtain⟨lq1,LQ1⟩:∃x,Hid ((digs (val dq+val [1])).length=x):=⟨_,rfl⟩
 rw[LQ1.out]
 go_wp2_with fail
 refine (MN.out p2 c2 _ (hx4.trans (hy1.mono hx4.size)) (hr.ext hy1)).mono ?_
 rintro e w4 ⟨q2,k2,rfl,hr2,_,hx4b⟩
 have hx9:Ext w3 w4:=Ext.step hy1 hx4b
 have hx10:Ext w w4:=Ext.step hx4 hx9
 obtain⟨lq2,LQ2⟩:∃x,Hid ((digs (val b.d-val dr)).length=x):=⟨_,rfl⟩
 rw[LQ2.out]
 have R1:=Lib.hid (hr1.ext hx4b)
 have R2:=Lib.hid hr2
 obtain⟨d1,HD1⟩:∃x,Hid (digs (val dq+val [1])=x):=⟨_,rfl⟩
 obtain⟨d2,HD2⟩:∃x,Hid (digs (val b.d-val dr)=x):=⟨_,rfl⟩
 have hv1:val d1=val dq+val [1]:=by rw[<- HD1.out,val_digs]
 have hv2:val d2=val b.d-val dr:=by rw[<- HD2.out,val_digs]
 rw[HD1.out] at R1 LQ1
 rw[HD2.out] at R2 LQ2
 rw[<- LQ1.out,<- LQ2.out]
 clear hr1 hr2 hq hr hx3b hx4b hy1
 obtain⟨_,⟨_,_,_⟩,⟨_,_,_⟩,⟨_,_,_⟩,_,_,_⟩:=keepK4 hx9 w.heap.size
 go_wp2_with fail
 refine (MK1.out d1 _ _ _ R1.out hv1).mono ?_
 rintro e w5 ⟨n5,p5,l5,c5,rfl,hn5,hnew5,hx5⟩
 have hx6:Ext w w5:=Ext.step hx10 hx5
 obtain⟨_,⟨_,_,_⟩,⟨_,_,_⟩,⟨_,_,_⟩,_,_,_⟩:=keepK4 hx5 w.heap.size
 go_wp2_with fail
 refine (MK2.out d2 _ _ _ (R2.out.ext (hx5.alloc hx5.size _)) hv2).mono ?_
 rintro e w6 ⟨n6,p6,l6,c6,rfl,hn6,hnew6,hx7⟩
 have hx8:Ext w w6:=Ext.step bxx hx7
 have k5a:w6.cell? ⟨w5.heap.size,0,none⟩=some (.bool n5):=(hx7.cell (p:=⟨w5.heap.size,0,none⟩) (by simp)).trans (by go_simp)
 have k5b:w6.cell? ⟨w5.heap.size,1,none⟩=some (.slice p5 l5 c5):=(hx7.cell (p:=⟨w5.heap.size,1,none⟩) (by simp)).trans (by go_simp)
 have k5l:w5.heap.size<w6.heap.size:=Nat.lt_of_lt_of_le (by simp) hx7.size
 obtain⟨_,⟨_,_,_⟩,⟨_,_,_⟩,⟨_,_,_⟩,_,_,_⟩:=keepK4 hx7 w.heap.size
 have hn5':NR w6 n5 p5 l5 c5 X:=hn5.ext (Below.trans ((Below.refl _ _).alloc (Nat.le_refl _) _) (hx7.mono (by simp)))
 have hnw5:New w3 p5:=hnew5.mono hx9.size
 have hnw6:New w3 p6:=hnew6.mono (by have:=hx5.size;have:=hx9.size;simp;omega)
 have z3:w.heap.size+4<=w3.heap.size:=hz_w3
 go_upto_region 11 with (fail)
 refine wp_some (fun W=>Ext w W/\(W.cell? ⟨w.heap.size+1+1,0,none⟩=some (.bool false)/\W.cell? ⟨w.heap.size+1+1,1,none⟩=some (.slice none 0 0)/\W.cell? ⟨w.heap.size+1+1+1,0,none⟩=some (.bool false)/\W.cell? ⟨w.heap.size+1+1+1,1,none⟩=some (.slice none 0 0)/\W.cell? ⟨w5.heap.size,0,none⟩=some (.bool n5)/\W.cell? ⟨w5.heap.size,1,none⟩=some (.slice p5 l5 c5)/\W.cell? ⟨w6.heap.size,0,none⟩=some (.bool n6)/\W.cell? ⟨w6.heap.size,1,none⟩=some (.slice p6 l6 c6)/\(∀o,W.frozen? ⟨w.heap.size+1+1,o,none⟩=false)/\(∀o,W.frozen? ⟨w.heap.size+1+1+1,o,none⟩=false) )/\w.heap.size+4<=W.heap.size/\NR W n5 p5 l5 c5 X/\NR W n6 p6 l6 c6 Y) ?_ ?_
 ·exact⟨bxx,⟨by go_simp,by go_simp,by go_simp,by go_simp,by go_simp,by go_simp,by go_simp,by go_simp,by intro o;go_simp,by intro o;go_simp⟩,by simp;omega,hn5'.alloc _,hn6.alloc _⟩
 obtain⟨A5,HA5⟩:∃x,Hid (w5.heap.size=x):=⟨_,rfl⟩
 obtain⟨A6,HA6⟩:∃x,Hid (w6.heap.size=x):=⟨_,rfl⟩
 have hne1:w.heap.size+1+1≠A5:=by have:=HA5.out;have:=hx5.size;have:=hx9.size;omega
 have hne2:w.heap.size+1+1+1≠A5:=by have:=HA5.out;have:=hx5.size;have:=hx9.size;omega
 have hne3:w.heap.size+1+1≠A6:=by have:=HA5.out;have:=HA6.out;omega
 have hne4:w.heap.size+1+1+1≠A6:=by have:=HA5.out;have:=HA6.out;omega
 rw[HA5.out,HA6.out]
 rintro V ⟨hxV,⟨v0,v1,v2,v3,v4,v5,v6,v7,vf1,vf2⟩,hzV,hN5,hN6⟩
 have HN5:=Lib.hid hN5
 have HN6:=Lib.hid hN6
 have HXV:=Lib.hid hxV
 have y2:w.heap.size+1+1<V.heap.size:=by omega
 have y3:w.heap.size+1+1+1<V.heap.size:=by omega
 have Z3:=Lib.hid z3
 have NW5:=Lib.hid hnw5
 have NW6:=Lib.hid hnw6
 clear hN5 hN6 hxV k5a k5b k5l hn5' hn6 hn5 hx8 hx6 hx4 hx7 hx5 hx3 hx0 hx1 hx2 hx hzV z3 hnew5 hnew6 hnw5 hnw6 hx9 hx10
 go_region
 all_goals
  go_wp2
  refine bodyPost_ret (v:=.tuple #[.agg #[.bool n5,.slice p5 l5 c5],.agg #[.bool n6,.slice p6 l6 c6],.bool true]) (by simp only[results,Tryz.results125];go_simp) rfl ?_
  have hN5:=HN5.out
  have hN6:=HN6.out
  have hxV:=HXV.out
  have hnw5:=NW5.out
  have hnw6:=NW6.out
  have z3:=Z3.out
  refine⟨n5,p5,l5,c5,n6,p6,l6,c6,rfl,?_,?_,hnw5.mono (by omega),hnw6.mono (by omega),bxx⟩
  ·(repeat (first|assumption|exact NR.drew (by assumption)|refine NR.set ?_ (w0:=w3) (by assumption) _ omm _|refine NR.drew ?_))
  ·(repeat (first|assumption|exact NR.drew (by assumption)|refine NR.set ?_ (w0:=w3) (by assumption) _ omm _|refine NR.drew ?_))
end

section
attribute [local go_sem] Gives givesU
theorem r01_DivG(a b:Nm)(na nb:Bool)(pa pb:Option Addr)(la ca lb cb:Nat)(w:World)(ha:NR w na pa la ca a)(hb:NR w nb pb lb cb b)
  (DV:a.right=true->b.right=true->0<b.d.length->∀W,Ext w W->Calls Tryz.prog 173 #[.slice pa la ca,.slice pb lb cb] W (RetQR W (digs (val a.d/val b.d)) (digs (val a.d%val b.d)))) :
  Calls Tryz.prog 125 #[.agg #[.bool na,.slice pa la ca],.agg #[.bool nb,.slice pb lb cb]] w (RetDiv w (divP a b)):=by
 cases ra:a.right with
 | false=>exact RDiv_no a b na nb pa pb la ca lb cb w ha hb (.inl ra)
 | true =>
  cases rb:b.right with
  | false=>exact RDiv_no a b na nb pa pb la ca lb cb w ha hb (.inr (.inl rb))
  | true =>
   cases hn:b.neg with
   | true=>exact RDiv_no a b na nb pa pb la ca lb cb w ha hb (.inr (.inr (.inl hn)))
   | false =>
    by_cases h0:b.d.length=0
    ·exact RDiv_no a b na nb pa pb la ca lb cb w ha hb (.inr (.inr (.inr h0)))
    ·have hnb := hb.1
     rw[hn] at hnb
     subst hnb
     have hlb:=hb.2.1
     have hna:=ha.1
     have da:=ha.2.2.dig
     rw[divP_yes ra rb hn (by omega)]
     have D:=DV ra rb (by omega)
     have vq:val (digs (val a.d/val b.d))=val a.d/val b.d:=val_digs _
     have vr:val (digs (val a.d%val b.d))=val a.d%val b.d:=val_digs _
     have hbp:0<val b.d:=tight_pos (b.right_iff.1 rb).2.1 (by omega)
     have hqle:val a.d/val b.d<=val a.d:=Nat.div_le_self _ _
     have hrle:val a.d%val b.d<=val a.d:=Nat.mod_le _ _
     have l64 (n:Nat) (h:n<=val a.d):(digs n).length<=64:=by
      refine (digs_length_le _ _).2 (Nat.lt_of_le_of_lt h ?_)
      exact Nat.lt_of_lt_of_le (val_lt da) (Nat.pow_le_pow_right (by omega) (a.right_iff.1 ra).1)
     by_cases hs:a.neg=true/\val a.d%val b.d≠0
     ·obtain ⟨hneg, hrest⟩ := hs
      rw[hneg] at hna
      subst hna
      have hrb:val a.d%val b.d<val b.d:=Nat.mod_lt _ hbp
      have z:a.z = -(val a.d:Int):=by unfold Nm.z;rw[hneg];rfl
      refine RDiv_neg a b pa pb la ca lb cb w ha hb ra rb (by omega) _ _ _ _ D ?_ ?_ ?_ (l64 _ hqle) (l64 _ hrle) (by rw[vr];omega) (digs_le hb.2.2.dig (b.right_iff.1 rb).2.1 (by omega))
      ·refine List.length_pos_iff.2 (fun h => hrest ?_)
       exact digs_eq_nil.1 h
      ·intro o ho
       rw[vq] at ho
       have:=made_nat da ra (succ_le hbp hrest) ho true
       simp only[if_true] at this
       rw[this,z,((ediv_neg hbp).2 hrest).1]
      ·intro o ho
       rw[vr] at ho
       rw[madeP_fit,ho,fit_small]
       ·simp only [Bool.false_eq_true, if_false]
        rw[z,((ediv_neg hbp).2 hrest).2]
       ·refine small_of_le hb.2.2.dig rb ?_
        simp only[Bool.false_eq_true,if_false]
        omega
     ·refine RDiv_simple a b na pa pb la ca lb cb w ha hb ra rb (by omega) _ _ _ _ D ?_ ?_ ?_
      ·intro h
       rw[hna] at h
       have:val a.d%val b.d=0:=by
        rcases Nat.eq_zero_or_pos (val a.d%val b.d) with g|g
        ·exact g
        ·exact absurd ⟨h,by omega⟩ hs
       rw[this,digs_zero]
      ·rw [made_nat da ra hqle vq na]
       unfold Nm.z
       rw[hna]
       cases h:a.neg with
       | false=>simp only[Bool.false_eq_true,if_false];rw[ediv_pos.1]
       | true =>
        simp only[if_true]
        have:val a.d%val b.d=0:=by
         rcases Nat.eq_zero_or_pos (val a.d%val b.d) with g|g
         ·exact g
         ·exact absurd ⟨h,by omega⟩ hs
        rw[((ediv_neg hbp).1 this).1]
      ·rw [made_nat da ra hrle vr false]
       simp only[Bool.false_eq_true,if_false]
       unfold Nm.z
       cases h:a.neg with
       | false=>simp only[Bool.false_eq_true,if_false];rw[ediv_pos.2]
       | true =>
        simp only[if_true]
        have:val a.d%val b.d=0:=by
         rcases Nat.eq_zero_or_pos (val a.d%val b.d) with g|g
         ·exact g
         ·exact absurd ⟨h,by omega⟩ hs
        rw[((ediv_neg hbp).1 this).2]
end
theorem r01_Div(a b:Nm)(na nb:Bool)(pa pb:Option Addr)(la ca lb cb:Nat)(w:World)(ha:NR w na pa la ca a)(hb:NR w nb pb lb cb b) :
  Calls Tryz.prog 125 #[.agg #[.bool na,.slice pa la ca],.agg #[.bool nb,.slice pb lb cb]] w (RetDiv w (divP a b)) :=
 r01_DivG a b na nb pa pb la ca lb cb w ha hb (fun ra rb h W k =>
  r01_quotient a.d b.d pa pb la ca lb cb W (ha.2.2.ext k) (hb.2.2.ext k) ha.2.1 hb.2.1 (b.right_iff.1 rb).2.1 (Nat.le_trans (a.right_iff.1 ra).1 (by decide)) (Nat.le_trans (b.right_iff.1 rb).1 (by decide)) (tight_pos (b.right_iff.1 rb).2.1 h))
theorem val_even(d:List Nat):val d%2=d[0]?.getD 0%2:=by
 cases d with
 | nil=>rfl
 | cons x t=>rw[val];simp only[List.getElem?_cons_zero,Option.getD_some];omega
theorem gcd_half_left{x y:Nat}(hx:x%2=0)(hy:y%2=1):Nat.gcd (x/2) y=Nat.gcd x y:=by
 have hc:Nat.Coprime 2 y:=by rw[Nat.Coprime,Nat.gcd_rec,hy];rfl
 have:=Nat.Coprime.gcd_mul_left_cancel (x/2) hc
 rw[<- this,show 2*(x/2)=x by omega]
theorem gcd_half_right{x y:Nat}(hx:x%2=1)(hy:y%2=0):Nat.gcd x (y/2)=Nat.gcd x y:=by
 rw[Nat.gcd_comm,gcd_half_left hy hx,Nat.gcd_comm]
theorem gcd_half_both{x y:Nat}(hx:x%2=0)(hy:y%2=0):Nat.gcd x y=2*Nat.gcd (x/2) (y/2):=by
 have:=Nat.gcd_mul_left 2 (x/2) (y/2)
 rw[<- this,show 2*(x/2)=x by omega,show 2*(y/2)=y by omega]
theorem gcd_minus{x y:Nat}(h:y<=x):Nat.gcd (x-y) y=Nat.gcd x y:=Nat.gcd_sub_self_left h
def TwoInv(A B x y t:Nat):Prop:=2 ^ t*Nat.gcd x y=Nat.gcd A B/\0<x/\0<y/\2 ^ t*x<=A/\2 ^ t*y<=B
theorem two_start{A B:Nat}(ha:0<A)(hb:0<B):TwoInv A B A B 0:=by simp[TwoInv,ha,hb]
theorem two_step{A B x y t:Nat}(h:TwoInv A B x y t)(hx:x%2=0)(hy:y%2=0):TwoInv A B (x/2) (y/2) (t+1):=by
 obtain⟨h1,h2,h3,h4,h5⟩:=h
 have e (z:Nat) (hz:z%2=0):2 ^ (t+1)*(z/2)=2 ^ t*z:=by rw[Nat.pow_succ,Nat.mul_assoc,show 2*(z/2)=z by omega]
 refine⟨?_,by omega,by omega,by rw[e x hx];exact h4,by rw[e y hy];exact h5⟩
 rw[<- h1,gcd_half_both hx hy,Nat.pow_succ,Nat.mul_assoc]
theorem pow_eG(k:Nat){E:Nat}(h:32*k=E):(4294967296:Nat) ^ k=2 ^ E:=by
 subst h
 rw[Nat.pow_mul]
theorem two_small{A B x y t:Nat}(h:TwoInv A B x y t)(hA:A<4294967296 ^ 64):t<2048:=by
 obtain⟨_,h2,_,h4,_⟩:=h
 refine Nat.lt_of_not_le fun ht=>?_
 obtain⟨E,hE⟩:∃E,32*64=E:=⟨_,rfl⟩
 have e:(4294967296:Nat) ^ 64=2 ^ E:=pow_eG 64 hE
 rw[e] at hA
 have h5:2 ^ E<=2 ^ t:=Nat.pow_le_pow_right (by decide) (by omega)
 have h6:2 ^ t<=2 ^ t*x:=Nat.le_mul_of_pos_right _ h2
 exact Nat.lt_irrefl _ (Nat.lt_of_le_of_lt (Nat.le_trans h5 (Nat.le_trans h6 h4)) hA)
def GInv(g x y:Nat):Prop:=Nat.gcd x y=g/\0<y/\(x%2=1\/y%2=1)
theorem g_left{g x y:Nat}(h:GInv g x y)(hx:x%2=0):GInv g (x/2) y:=by
 obtain⟨h1,h2,h3⟩:=h
 have hy:y%2=1:=by omega
 exact⟨by rw[gcd_half_left hx hy,h1],h2,.inr hy⟩
theorem g_right{g x y:Nat}(h:GInv g x y)(hx:x%2=1)(hy:y%2=0):GInv g x (y/2):=by
 obtain⟨h1,h2,h3⟩:=h
 exact⟨by rw[gcd_half_right hx hy,h1],by omega,.inl hx⟩
theorem g_minus{g x y:Nat}(h:GInv g x y)(hx:x%2=1)(hy:y%2=1)(hle:y<=x):GInv g (x-y) y:=by
 obtain⟨h1,h2,h3⟩:=h
 exact⟨by rw[gcd_minus hle,h1],h2,.inr hy⟩
theorem g_swap{g x y:Nat}(h:GInv g x y)(hx:0<x):GInv g y x:=by
 obtain⟨h1,h2,h3⟩:=h
 exact⟨by rw[Nat.gcd_comm,h1],hx,h3.symm⟩
theorem g_end{g y:Nat}(h:GInv g 0 y):y=g:=by rw[<- h.1,Nat.gcd_zero_left]

set_option maxHeartbeats 4000000
set_option maxRecDepth 100000
section
theorem half_digit(x0 x1:Nat)(h0:x0<4294967296):(x1*4294967296+x0)/2%4294967296=2147483648*(x1%2)+x0/2:=by omega
theorem half_or(x0 x1:Nat)(h0:x0<4294967296):bits .or .u32 ((x0/2:Nat):Int) ((x1:Int)*2147483648%4294967296)=((2147483648*(x1%2)+x0/2:Nat):Int):=by
 have e:(x1:Int)*2147483648%4294967296=((2147483648*(x1%2):Nat):Int):=by omega
 rw[e,u32_or_nat (x0/2) (2147483648*(x1%2)) (by omega) (by omega),Nat.or_comm,or_mul 2147483648 (x1%2) (x0/2) 31 (by decide) (by omega)]
theorem half_end{a o:List Nat}(h:ShrInv 2 a o)(hl:o.length=a.length):val o=val a/2:=by
 obtain⟨_,h2⟩:=h
 rw[hl,List.take_of_length_le (Nat.le_refl a.length),List.getElem?_eq_none (Nat.le_refl _)] at h2
 simp only[Option.getD_none,Nat.zero_mod,Nat.mul_zero,Nat.add_zero] at h2
 omega
theorem r01_half(a:List Nat)(pa:Option Addr)(la ca:Nat)(w:World)(ha:Row w pa ca a)(hla:la=a.length)(h0:0<a.length)(h64:a.length<=900) :
  Calls Tryz.prog 170 #[.slice pa la ca] w (RetDigs w (val a/2)):=by
 subst hla
 obtain⟨i,hi,hz0,hz1,hz2⟩:=info_parts info32
 have hla:=ha.le
 have hma:=ha.max
 obtain⟨b,o,rfl,hb,hc⟩:=ha.at h0
 have Hc:=Lib.hid hc
 have R:=Lib.hid ha
 have hdig:=ha.dig
 clear hc ha
 go_enter Tryz.func170,Tryz.ntmps170
 go_wp2_with (at_builtin;refine wpList_append_own _ rfl _ _ 34 rfl w.heap.size 140 i (.int .u32 0) 1 4 Tryz.underlying34 hi hz0 hz1 hz2 rfl (by decide) _ _ _ rfl (World.ownsRow_made w #[] 0 (Nat.le_refl _) (by decide) rfl) ⟨b,o,none⟩ a.length ca (enc a) rfl (by simp[enc]) ?c2 (enc_one a) ?c3 ?c4 ?c5 ?_)
 case c2=>exact row_news (fun i hi=>(cell_later ((Below.refl _ _).alloc (Nat.le_refl _) _) (Hc.out i hi)))
 case c3=>unfold maxLen;omega
 case c4=>omega
 case c5=>simp
 intro v' w2 hown hgr _
 have hown2:w2.ownsRow w.heap.size 140 1 v' a.length (enc a):=by simpa using hown
 have hx2:Ext w w2:=((Below.refl _ _).alloc (Nat.le_refl _) _).grown hgr (by simp) (fun k hk=>by simp[Value.ownBlock] at hk;omega)
 obtain⟨g,cg,rfl,hBg⟩:∃g cg,v'=.slice (some ⟨g,0,none⟩) a.length cg/\w.heap.size<=g:=by
  rcases hown2.2 with⟨_,h⟩|⟨g,cap,cur,h1,h2,_⟩
  ·omega
  ·exact⟨g,cap,h1,h2⟩
 have eNn:(enc a).length=a.length:=enc_length a
 have hown0:w2.ownsRow w.heap.size 140 1 (.slice (some ⟨g,0,none⟩) a.length cg) a.length (enc ([]++([]++a.drop 0))):=by simpa using hown2
 clear hown hown2 hgr
 go_wp2_with fail
 go_loopw [4] (fun k wr=>∃(o':List Nat),o'.length<=a.length/\k=.int .i64 (o'.length:Int)/\ShrInv 2 a o'/\wr.ownsRow w.heap.size 140 1 (.slice (some ⟨g,0,none⟩) a.length cg) a.length (enc ([]++(o'++a.drop o'.length)))/\Ext w wr) (fun k _=>a.length-(intOf k).toNat)
 case atStart=>exact⟨[],Nat.zero_le _,rfl,shr_start (s:=2) (e:=2147483648) rfl a h0,hown0,hx2⟩
 case round =>
  clear hown0 hx2
  obtain⟨o',ho,rfl,hinv,hown,hx⟩:=hrel
  by_cases hlt:o'.length<a.length
  ·rw [drop_at hlt] at hown
   have hd0:=hdig.getD o'.length
   rw[List.getD_eq_getElem?_getD] at hd0
   have STEP:=fun x1 (h1:a[o'.length+1]?.getD 0=x1)=>shr_step (s:=2) (e:=2147483648) rfl hinv rfl h1 hd0
   obtain⟨x0,X0⟩:∃x,Hid (a[o'.length]?.getD 0=x):=⟨_,rfl⟩
   rw[X0.out] at hown hd0
   simp only[X0.out] at STEP
   have hcx:=own_at (i:=o'.length) hown (by simp)
   have hfx:=hown.frozenAt o'.length
   obtain⟨y0,Y0⟩:∃y,Hid (x0/2=y):=⟨_,rfl⟩
   have D0:(x0:Int)/2=(y0:Int):=by have:=Y0.out;omega
   have hown1:=own_put (i:=o'.length) hown (by simp) y0
   by_cases hl2:o'.length+1<a.length
   ·have hx5 : Ext w (wr.setCell ⟨g, o'.length, none⟩ (.int .u32 (y0 : Int))) := Below.setCell hx hBg _
    obtain⟨b2,o2,hp2,hb2,hca⟩:=(R.out.ext hx5).at h0
    have hc1:=hca (o'.length+1) hl2
    obtain⟨x1,X1⟩:∃x,Hid (a[o'.length+1]?.getD 0=x):=⟨_,rfl⟩
    rw[X1.out] at hc1
    have hq:b2=b/\o2=o:=by
     have:=congrArg (fun x=>x.map (fun y=>(y.block,y.off))) hp2
     simp at this
     exact⟨this.1.symm,this.2.symm⟩
    rw[hq.1,hq.2] at hc1
    clear hca hq hp2 hb2
    have S:=STEP x1 X1.out
    rw[half_digit x0 x1 hd0] at S
    have OR:=half_or x0 x1 hd0
    rw[Y0.out] at OR S
    obtain⟨y,Y⟩:∃y,Hid (2147483648*(x1%2)+y0=y):=⟨_,rfl⟩
    rw[Y.out] at OR S
    rw[List.append_assoc o' [y0],List.singleton_append] at hown1
    have SS:=Lib.hid S
    clear S STEP hinv
    go_upto_region 7 with (fail)
    generalize hW5:wr.setCell ⟨g,o'.length,none⟩ (.int .u32 (y0:Int))=w5 at hx5 hown1 hc1 ⊢
    have hcy:=own_at (i:=o'.length) hown1 (by simp)
    have hfy:=hown1.frozenAt o'.length
    have hown5:=own_put (w:=w5.drew) (i:=o'.length) hown1 (by simp) y
    have OWN:=Lib.hid hown5
    have X5:Hid (Ext w (w5.drew.setCell ⟨g,o'.length,none⟩ (.int .u32 (y:Int)))):=(Below.drew hx5).setCell hBg _
    clear hown hown1 hown5 hx hx5 hcx hfx hW5
    have hI1:(o'.length:Int)<(a.length:Int):=by omega
    have hI2:(0:Int)<=(o'.length:Int):=by omega
    have hI3:(o'.length:Int)+1<(a.length:Int):=by omega
    have hI4:(0:Int)<=(o'.length:Int)+1:=by omega
    have hI5:IntKind.i64.wrap ((o'.length:Int)+1)=(o'.length:Int)+1:=IntWalk.i64_in _ (by omega)
    have hI6:((o'.length:Int)+1).toNat=o'.length+1:=by omega
    go_still_tail 14,(by kernel_rfl)
    go_wp2
    refine⟨⟨o'++[y],by rw[List.length_append,List.length_singleton];omega,by rw[List.length_append,List.length_singleton];push_cast;rfl,SS.out,?_,X5.out⟩,by simp[intOf];omega⟩
    rw[List.length_append,List.length_singleton]
    exact OWN.out
   ·have hx5 : Ext w (wr.setCell ⟨g, o'.length, none⟩ (.int .u32 (y0 : Int))) := Below.setCell hx hBg _
    have S:=STEP 0 (by rw[List.getElem?_eq_none (by omega)];rfl)
    rw[half_digit x0 0 hd0,Y0.out,show 2147483648*(0%2)+y0=y0 by omega] at S
    have SS:=Lib.hid S
    have OWN:=Lib.hid hown1
    have X5:=Lib.hid hx5
    clear S STEP hinv hown hown1 hx hx5
    go_wp2
    refine⟨⟨o'++[y0],by rw[List.length_append,List.length_singleton];omega,by rw[List.length_append,List.length_singleton];push_cast;rfl,SS.out,?_,X5.out⟩,by simp[intOf];omega⟩
    rw[List.length_append,List.length_singleton]
    exact OWN.out
  ·have hol : o'.length = a.length := by omega
   have END:=Lib.hid (half_end hinv hol)
   have DO:=Lib.hid hinv.1
   rw[hol,List.drop_of_length_le (Nat.le_refl _),List.append_nil,List.nil_append] at hown
   obtain⟨p',c',hv',hrow,hnew⟩:=row_of_owns hown DO.out
   obtain⟨rfl,rfl⟩:some (⟨g,0,none⟩:Addr)=p'/\cg=c':=by
    simp only[Value.slice.injEq] at hv'
    exact⟨hv'.1,hv'.2.2⟩
   have ROW:=Lib.hid hrow
   clear hinv hown hv' hrow
   rw[hol]
   go_wp2_with fail
   refine (r01_trim o' _ _ _ _ ROW.out hol.symm).mono ?_
   rintro e w4 ⟨rfl,hrow1,hx6⟩
   have hx7:Ext w w4:=Ext.step hx hx6
   have T:trim o'=digs (val a/2):=by rw[<- END.out];rfl
   go_wp2
   go_ret
   rw[T] at hrow1
   exact⟨_,cg,rfl,hrow1,hnew,hx7⟩
end
end Go.Proofs.YtceemiodpccbhaaGreat
