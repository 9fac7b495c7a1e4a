import Derived.Test.YtcfpcafnjgpfdaaGreatK17
import Derived.StillTailTactics
set_option linter.unusedVariables false
set_option linter.unusedSimpArgs false

namespace Go.Proofs.YtcfpcafnjgpfdaaGreat
open Go.RowKit

set_option maxHeartbeats 4000000
set_option maxRecDepth 100000
section
attribute [local go_sem] Gives givesU
theorem F_row{P:Program}{ops:Array Oper}{S:World->Prop}{Q:Act->World->Prop}{o:Oper}{l:List Oper}{a:Act}{own:List Nat}{F:World->Prop}(v:Nat)(hk:fkind o=2)(hw:Region.wanted o (yielded ops a.tmps)=true)
  (hg:∀w,F w->Gives P o a w (fun u w'=>∃d p c,u=.slice p (List.length d) c/\Row w' p c d/\Ext w w'/\val d=v))
  (h:∀d p c,val d=v->WpF P ops S Q l (a.put o.dst (.slice p d.length c)) own (fun w=>F w/\Row w p c d)):WpF P ops S Q (o::l) a own F:=by
 refine F_callE (I:=List Nat×Option Addr×Nat) (fun t=>.slice t.2.1 t.1.length t.2.2) (fun t w=>val t.1=v/\Row w t.2.1 t.2.2 t.1) (fun t w w' h hb=>⟨h.1,h.2.ext hb⟩) hk hw (fun w hf=>?_) ?_
 ·refine (hg w hf).imp ?_
  rintro u w' ⟨d,p,c,rfl,hr,hx,hv⟩
  exact⟨(d,p,c),rfl,hx,hv,hr⟩
 ·rintro ⟨d, p, c⟩ ⟨w, hf, hv, hr⟩
  have e:(fun w=>F w/\val d=v/\Row w p c d)=(fun w=>F w/\Row w p c d):=by
   funext w;exact propext ⟨fun ⟨a,_,b⟩=>⟨a,b⟩,fun ⟨a,b⟩=>⟨a,hv,b⟩⟩
  have:=h d p c hv
  rw[<- e] at this
  exact this
theorem fillD(r:Int):Instr.fill (fun i=>some (i*1,1)) ((Array.range (1*1)).map ((.int .u32 0:Value).cells[·%(.int .u32 0:Value).cells.size]!)) [(0,.int .u32 r)]=some #[.int .u32 r]:=by kernel_rfl
theorem F_digit{ops:Array Oper}{S:World->Prop}{Q:Act->World->Prop}{o:Oper}{l:List Oper}{a:Act}{own:List Nat}{F:World->Prop}(x:Operand)(r:Nat)(hr:r<4294967296)
  (ho:o.op=.buildSlice 30 1 #[(0,x)]) (hk:fkind o=1) (hw:Region.wanted o (yielded ops a.tmps)=true) (hx:a.eval x=.int .u32 (r:Int))
  (h:∀g,WpF Tryz.prog ops S Q l (a.put o.dst (.slice (some ⟨g,0,none⟩) 1 1)) own (fun w=>F w/\Row w (some ⟨g,0,none⟩) 1 [r])):WpF Tryz.prog ops S Q (o::l) a own F:=by
 obtain⟨i,hi,hz0,hz1,hz2⟩:=info_parts info32
 refine F_block 1 (.cells #[.int .u32 (r:Int)] 113) (fun g w=>Row w (some ⟨g,0,none⟩) 1 [r]) hk hw (fun g=>by simp[shp,ho]) (fun w _=>?_) (fun g w _ hb=>?_) h
 ·unfold execOp
  simp only[ho,Sem.run_bind]
  rw[run_buildSlice w 30 113 1 _ i _ (by kernel_rfl) hi hz0 (by rw[hz1];omega) (by rw[hz1];omega) (cells:=#[.int .u32 (r:Int)]) (by rw[hz1];simp only[List.map_toArray,List.map_cons,List.map_nil,hx];exact fillD _)]
  rfl
 ·refine ⟨by simp, by omega, Dig.cons hr Dig.nil, fun _ => ⟨g, 0, rfl, (Array.getElem?_eq_some_iff.1 hb).1, fun i hi => ?_⟩⟩
  simp only[List.length_cons,List.length_nil] at hi
  obtain rfl:i=0:=by omega
  simp[World.cell?,hb]
def divP(a b:Nm):Nm×Nm×Bool:=if a.right&&b.right&&!b.neg&&decide (0<b.d.length) then (ofZ (a.z/(val b.d:Int)),ofZ (a.z%(val b.d:Int)),true) else (zero,zero,false)
def RetDiv(w:World)(r:Nm×Nm×Bool)(e:Ending)(w':World):Prop :=
 ∃n p l c n2 p2 l2 c2,e=.returned (.tuple #[.agg #[.bool n,.slice p l c],.agg #[.bool n2,.slice p2 l2 c2],.bool r.2.2])/\NR w' n p l c r.1/\NR w' n2 p2 l2 c2 r.2.1/\New w p/\New w p2/\Ext w w'
theorem divP_no{a b:Nm}(h:a.right=false\/b.right=false\/b.neg=true\/b.d.length=0):divP a b=(zero,zero,false):=by
 unfold divP
 rw[if_neg]
 rcases h with h|h|h|h<;>simp[h]
theorem divP_yes{a b:Nm}(ha:a.right=true)(hb:b.right=true)(hn:b.neg=false)(h0:0<b.d.length):divP a b=(ofZ (a.z/(val b.d:Int)),ofZ (a.z%(val b.d:Int)),true):=by
 unfold divP
 rw[if_pos]
 simp[ha,hb,hn,h0]
theorem fit_small{z:Int}(h:small z=true):fit z=(ofZ z,true):=by unfold fit;rw[if_pos h]
theorem small_of_le{a:Nm}(hd:Dig a.d)(h:a.right=true){z:Int}(hz:z.natAbs<=val a.d):small z=true:=by
 have h1:=small_of_right hd h
 unfold small at *
 simp only[decide_eq_true_eq] at *
 have h4:a.z.natAbs=val a.d:=by unfold Nm.z;split<;>omega
 omega
theorem ediv_neg{m n:Nat}(hn:0<n):(m%n=0->(-(m:Int))/(n:Int) = -((m/n:Nat):Int)/\(-(m:Int))%(n:Int)=((m%n:Nat):Int)) /\
  (m%n≠0->(-(m:Int))/(n:Int) = -((m/n+1:Nat):Int)/\(-(m:Int))%(n:Int)=((n-m%n:Nat):Int)):=by
 have e:=Nat.div_add_mod m n
 have hr:=Nat.mod_lt m hn
 constructor
 ·intro h
  rw[h] at e ⊢
  refine (Int.ediv_emod_unique (by omega)).2 ⟨?_,by omega,by omega⟩
  rw[Int.mul_neg]
  have:((n*(m/n):Nat):Int)=(m:Int):=by omega
  rw[Int.natCast_mul] at this
  omega
 ·intro h
  refine (Int.ediv_emod_unique (by omega)).2 ⟨?_,by omega,by omega⟩
  have:((n*(m/n+1):Nat):Int)=(m:Int)-((m%n:Nat):Int)+(n:Int):=by rw[Nat.mul_add];omega
  rw[Int.natCast_mul] at this
  rw[Int.mul_neg,this]
  omega
theorem ediv_pos{m n:Nat}:((m:Nat):Int)/(n:Int)=((m/n:Nat):Int)/\((m:Nat):Int)%(n:Int)=((m%n:Nat):Int):=⟨rfl,rfl⟩
theorem made_nat{a:Nm}(hd:Dig a.d)(h:a.right=true){n:Nat}(hn:n<=val a.d){o:List Nat}(ho:val o=n)(neg:Bool):madeP neg o=(ofZ (if neg then -(n:Int) else n),true):=by
 rw[madeP_fit,ho,fit_small]
 exact small_of_le hd h (by split<;>omega)
theorem succ_le{m n:Nat}(hn:0<n)(h:m%n≠0):m/n+1<=m:=by
 have e:=Nat.div_add_mod m n
 have h2:m/n<=n*(m/n):=Nat.le_mul_of_pos_left _ hn
 omega
theorem Div_no(a b:Nm)(na nb:Bool)(pa pb:Option Addr)(la ca lb cb:Nat)(w:World)(ha:NR w na pa la ca a)(hb:NR w nb pb lb cb b)
  (hno:a.right=false\/b.right=false\/b.neg=true\/b.d.length=0):Calls Tryz.prog 87 #[.agg #[.bool na,.slice pa la ca],.agg #[.bool nb,.slice pb lb cb]] w (RetDiv w (divP a b)):=by
 have RA:=Lib.hid (fun w' (hx:Ext w w')=>num_Right a na pa la ca w' (ha.ext hx))
 have RB:=Lib.hid (fun w' (hx:Ext w w')=>num_Right b nb pb lb cb w' (hb.ext hx))
 have NO:∀W',Ext w W'->RetDiv w (divP a b) (.returned (.tuple #[.agg #[.bool false,.slice none 0 0],.agg #[.bool false,.slice none 0 0],.bool false])) W':=by
  intro W' hx
  rw[divP_no hno]
  exact⟨false,none,0,0,false,none,0,0,rfl,⟨rfl,rfl,Row.nil _⟩,⟨rfl,rfl,Row.nil _⟩,New.none _,New.none _,hx⟩
 replace NO:=Lib.hid NO
 have hnb:=hb.1
 have hlb:=hb.2.1
 rw[hnb] at RB ⊢
 rw[hlb] at RB ⊢
 have HNO:=Lib.hid hno
 clear hnb hlb hno ha hb
 cases ra:a.right with
 | false =>
  rw[ra] at RA
  go_enter Tryz.func87,Tryz.ntmps87
  go_wp2_with fail
  refine (RA.out _ bxx).mono ?_
  rintro e w1 ⟨rfl,hx⟩
  have hx0:Ext w w1:=Ext.step bxx hx
  obtain⟨_,⟨_,_,_⟩,⟨_,_,_⟩,⟨_,_,_⟩,_,_,_⟩:=keepK4 hx w.heap.size
  go_wp2
  refine bodyPost_ret (v:=.tuple #[.agg #[.bool false,.slice none 0 0],.agg #[.bool false,.slice none 0 0],.bool false]) (by simp only[results,Tryz.results87];go_simp) rfl ?_
  exact NO.out _ bxx
 | true =>
  rw[ra] at RA
  cases rb:b.right with
  | false =>
   rw[rb] at RB
   go_enter Tryz.func87,Tryz.ntmps87
   go_wp2_with fail
   refine (RA.out _ bxx).mono ?_
   rintro e w1 ⟨rfl,hx⟩
   have hx0:Ext w w1:=Ext.step bxx hx
   obtain⟨_,⟨_,_,_⟩,⟨_,_,_⟩,⟨_,_,_⟩,_,_,_⟩:=keepK4 hx w.heap.size
   go_wp2_with fail
   refine (RB.out _ bxx).mono ?_
   rintro e w2 ⟨rfl,hx2⟩
   have hx1:Ext w w2:=Ext.step bxx hx2
   obtain⟨_,⟨_,_,_⟩,⟨_,_,_⟩,⟨_,_,_⟩,_,_,_⟩:=keepK4 hx2 w.heap.size
   go_wp2
   refine bodyPost_ret (v:=.tuple #[.agg #[.bool false,.slice none 0 0],.agg #[.bool false,.slice none 0 0],.bool false]) (by simp only[results,Tryz.results87];go_simp) rfl ?_
   exact NO.out _ bxx
  | true =>
   rw[rb] at RB
   obtain⟨bn,BN⟩:∃x,Hid (b.neg=x):=⟨_,rfl⟩
   obtain⟨bl,BL⟩:∃x,Hid (b.d.length=x):=⟨_,rfl⟩
   have H3:bn=true\/bl=0:=by
    rcases HNO.out with h|h|h|h
    ·rw[ra] at h;cases h
    ·rw[rb] at h;cases h
    ·exact .inl (BN.out.symm.trans h)
    ·exact .inr (BL.out.symm.trans h)
   rw[BN.out,BL.out] at RB ⊢
   clear ra rb
   cases bn
   ·obtain rfl : bl = 0 := by rcases H3 with h | h; (cases h); exact h
    clear H3
    go_enter Tryz.func87,Tryz.ntmps87
    go_wp2_with fail
    refine (RA.out _ bxx).mono ?_
    rintro e w1 ⟨rfl,hx⟩
    have hx0:Ext w w1:=Ext.step bxx hx
    obtain⟨_,⟨_,_,_⟩,⟨_,_,_⟩,⟨_,_,_⟩,_,_,_⟩:=keepK4 hx w.heap.size
    go_wp2_with fail
    refine (RB.out _ bxx).mono ?_
    rintro e w2 ⟨rfl,hx2⟩
    have hx1:Ext w w2:=Ext.step bxx hx2
    obtain⟨_,⟨_,_,_⟩,⟨_,_,_⟩,⟨_,_,_⟩,_,_,_⟩:=keepK4 hx2 w.heap.size
    go_wp2
    refine bodyPost_ret (v:=.tuple #[.agg #[.bool false,.slice none 0 0],.agg #[.bool false,.slice none 0 0],.bool false]) (by simp only[results,Tryz.results87];go_simp) rfl ?_
    exact NO.out _ bxx
   ·clear H3
    go_enter Tryz.func87,Tryz.ntmps87
    go_wp2_with fail
    refine (RA.out _ bxx).mono ?_
    rintro e w1 ⟨rfl,hx⟩
    have hx0:Ext w w1:=Ext.step bxx hx
    obtain⟨_,⟨_,_,_⟩,⟨_,_,_⟩,⟨_,_,_⟩,_,_,_⟩:=keepK4 hx w.heap.size
    go_wp2_with fail
    refine (RB.out _ bxx).mono ?_
    rintro e w2 ⟨rfl,hx2⟩
    have hx1:Ext w w2:=Ext.step bxx hx2
    obtain⟨_,⟨_,_,_⟩,⟨_,_,_⟩,⟨_,_,_⟩,_,_,_⟩:=keepK4 hx2 w.heap.size
    go_wp2
    refine bodyPost_ret (v:=.tuple #[.agg #[.bool false,.slice none 0 0],.agg #[.bool false,.slice none 0 0],.bool false]) (by simp only[results,Tryz.results87];go_simp) rfl ?_
    exact NO.out _ bxx
theorem NR.drew{w:World}{n:Bool}{p:Option Addr}{l c:Nat}{x:Nm}(h:NR w n p l c x):NR w.drew n p l c x:=h.ext (Below.drew (Below.refl _ _))
theorem wp_some{P:Program}{c:Code}{Q:Exit->Act->World->Prop}{a:Act}{w':World}(R:World->Prop)(h:R w')(k:∀W,R W->Code.wp P c Q a W):Code.wp P c Q a w':=k _ h
theorem Div_simple(a b:Nm)(na:Bool)(pa pb:Option Addr)(la ca lb cb:Nat)(w:World)(ha:NR w na pa la ca a)(hb:NR w false pb lb cb b)(ra:a.right=true)(rb:b.right=true)(hlb:0<lb)(dq dr:List Nat)(X Y:Nm)
  (DV:∀W,Ext w W->Calls Tryz.prog 107 #[.slice pa la ca,.slice pb lb cb] W (RetQR W dq dr)) (hs:na=true->dr=[]) (hX:madeP na dq=(X,true)) (hY:madeP false dr=(Y,true)) :
  Calls Tryz.prog 87 #[.agg #[.bool na,.slice pa la ca],.agg #[.bool false,.slice pb lb cb]] w (RetDiv w (X,Y,true)):=by
 have RA:=Lib.hid (fun w' (hx:Ext w w')=>num_Right a na pa la ca w' (ha.ext hx))
 have RB:=Lib.hid (fun w' (hx:Ext w w')=>num_Right b false pb lb cb w' (hb.ext hx))
 rw[ra] at RA
 rw[rb] at RB
 have e0:((lb:Int)==0)=false:=by rw[beq_eq_false_iff_ne];omega
 replace DV:=Lib.hid DV
 clear hlb ra rb
 have MK1:=Lib.hid (fun p c W (h:Row W p c dq)=>by have:=num_made na dq p dq.length c W h rfl;rw[hX] at this;exact this)
 have MK2:=Lib.hid (fun p c W (h:Row W p c dr)=>by have:=num_made false dr p dr.length c W h rfl;rw[hY] at this;exact this)
 have HS:=Lib.hid hs
 clear hs hX hY
 go_enter Tryz.func87,Tryz.ntmps87
 go_wp2_with fail
 refine (RA.out _ bxx).mono ?_
 rintro e w1 ⟨rfl,hx⟩
 have hx0:Ext w w1:=Ext.step bxx hx
 obtain⟨_,⟨_,_,_⟩,⟨_,_,_⟩,⟨_,_,_⟩,_,_,_⟩:=keepK4 hx w.heap.size
 go_wp2_with fail
 refine (RB.out _ bxx).mono ?_
 rintro e w2 ⟨rfl,hx2⟩
 have hx1:Ext w w2:=Ext.step bxx hx2
 obtain⟨_,⟨_,_,_⟩,⟨_,_,_⟩,⟨_,_,_⟩,_,_,_⟩:=keepK4 hx2 w.heap.size
 go_wp2_with fail
 refine (DV.out _ bxx).mono ?_
 rintro e w3 ⟨p,c,p2,c2,rfl,hq,hr,hx3⟩
 have hx4:Ext w w3:=Ext.step bxx hx3
 obtain⟨hz_w3,⟨_,_,_⟩,⟨_,_,_⟩,⟨_,_,_⟩,_,_,_⟩:=keepK4 hx3 w.heap.size
 cases na
 all_goals
  try obtain rfl:dr=[]:=HS.out rfl
  go_wp2_with fail
  refine (MK1.out _ _ _ (hq.ext bxx)).mono ?_
  rintro e w5 ⟨n5,p5,l5,c5,rfl,hn5,hnew5,hx5⟩
  have hx6:Ext w w5:=Ext.step bxx hx5
  obtain⟨_,⟨_,_,_⟩,⟨_,_,_⟩,⟨_,_,_⟩,_,_,_⟩:=keepK4 hx5 w.heap.size
  go_wp2_with fail
  refine (MK2.out _ _ _ (hr.ext (hx5.alloc hx5.size _))).mono ?_
  rintro e w6 ⟨n6,p6,l6,c6,rfl,hn6,hnew6,hx7⟩
  have hx8:Ext w w6:=Ext.step bxx hx7
  have k5a:w6.cell? ⟨w5.heap.size,0,none⟩=some (.bool n5):=(hx7.cell (p:=⟨w5.heap.size,0,none⟩) (by simp)).trans (by go_simp)
  have k5b:w6.cell? ⟨w5.heap.size,1,none⟩=some (.slice p5 l5 c5):=(hx7.cell (p:=⟨w5.heap.size,1,none⟩) (by simp)).trans (by go_simp)
  have k5l:w5.heap.size<w6.heap.size:=Nat.lt_of_lt_of_le (by simp) hx7.size
  obtain⟨_,⟨_,_,_⟩,⟨_,_,_⟩,⟨_,_,_⟩,_,_,_⟩:=keepK4 hx7 w.heap.size
  have hn5':NR w6 n5 p5 l5 c5 X:=hn5.ext (Below.trans ((Below.refl _ _).alloc (Nat.le_refl _) _) (hx7.mono (by simp)))
  have hnw5:New w3 p5:=hnew5.mono (Nat.le_refl w3.heap.size)
  have hnw6:New w3 p6:=hnew6.mono (by have:=hx5.size;have:=(Nat.le_refl w3.heap.size);simp;omega)
  have z3:w.heap.size+4<=w3.heap.size:=hz_w3
  go_upto_region 10 with (fail)
  refine wp_some (fun W=>Ext w W/\(W.cell? ⟨w.heap.size+1+1,0,none⟩=some (.bool false)/\W.cell? ⟨w.heap.size+1+1,1,none⟩=some (.slice none 0 0)/\W.cell? ⟨w.heap.size+1+1+1,0,none⟩=some (.bool false)/\W.cell? ⟨w.heap.size+1+1+1,1,none⟩=some (.slice none 0 0)/\W.cell? ⟨w5.heap.size,0,none⟩=some (.bool n5)/\W.cell? ⟨w5.heap.size,1,none⟩=some (.slice p5 l5 c5)/\W.cell? ⟨w6.heap.size,0,none⟩=some (.bool n6)/\W.cell? ⟨w6.heap.size,1,none⟩=some (.slice p6 l6 c6)/\(∀o,W.frozen? ⟨w.heap.size+1+1,o,none⟩=false)/\(∀o,W.frozen? ⟨w.heap.size+1+1+1,o,none⟩=false) )/\w.heap.size+4<=W.heap.size/\NR W n5 p5 l5 c5 X/\NR W n6 p6 l6 c6 Y) ?_ ?_
  ·exact⟨bxx,⟨by go_simp,by go_simp,by go_simp,by go_simp,by go_simp,by go_simp,by go_simp,by go_simp,by intro o;go_simp,by intro o;go_simp⟩,by simp;omega,hn5'.alloc _,hn6.alloc _⟩
  obtain⟨A5,HA5⟩:∃x,Hid (w5.heap.size=x):=⟨_,rfl⟩
  obtain⟨A6,HA6⟩:∃x,Hid (w6.heap.size=x):=⟨_,rfl⟩
  have hne1:w.heap.size+1+1≠A5:=by have:=HA5.out;have:=hx5.size;have:=(Nat.le_refl w3.heap.size);omega
  have hne2:w.heap.size+1+1+1≠A5:=by have:=HA5.out;have:=hx5.size;have:=(Nat.le_refl w3.heap.size);omega
  have hne3:w.heap.size+1+1≠A6:=by have:=HA5.out;have:=HA6.out;omega
  have hne4:w.heap.size+1+1+1≠A6:=by have:=HA5.out;have:=HA6.out;omega
  rw[HA5.out,HA6.out]
  rintro V ⟨hxV,⟨v0,v1,v2,v3,v4,v5,v6,v7,vf1,vf2⟩,hzV,hN5,hN6⟩
  have HN5:=Lib.hid hN5
  have HN6:=Lib.hid hN6
  have HXV:=Lib.hid hxV
  have y2:w.heap.size+1+1<V.heap.size:=by omega
  have y3:w.heap.size+1+1+1<V.heap.size:=by omega
  have Z3:=Lib.hid z3
  have NW5:=Lib.hid hnw5
  have NW6:=Lib.hid hnw6
  clear hN5 hN6 hxV k5a k5b k5l hn5' hn6 hn5 hx8 hx6 hx4 hx7 hx5 hx3 hx0 hx1 hx2 hx hzV z3 hnew5 hnew6 hnw5 hnw6 hq hr
  go_region
  all_goals
   go_wp2
   refine bodyPost_ret (v:=.tuple #[.agg #[.bool n5,.slice p5 l5 c5],.agg #[.bool n6,.slice p6 l6 c6],.bool true]) (by simp only[results,Tryz.results87];go_simp) rfl ?_
   have hN5:=HN5.out
   have hN6:=HN6.out
   have hxV:=HXV.out
   have hnw5:=NW5.out
   have hnw6:=NW6.out
   have z3:=Z3.out
   refine⟨n5,p5,l5,c5,n6,p6,l6,c6,rfl,?_,?_,hnw5.mono (by omega),hnw6.mono (by omega),bxx⟩
   ·(repeat (first|assumption|exact NR.drew (by assumption)|refine NR.set ?_ (w0:=w3) (by assumption) _ omm _|refine NR.drew ?_))
   ·(repeat (first|assumption|exact NR.drew (by assumption)|refine NR.set ?_ (w0:=w3) (by assumption) _ omm _|refine NR.drew ?_))
end

set_option maxHeartbeats 4000000
set_option maxRecDepth 100000
section
attribute [local go_sem] Gives givesU
theorem Div_neg(a b:Nm)(pa pb:Option Addr)(la ca lb cb:Nat)(w:World)(ha:NR w true pa la ca a)(hb:NR w false pb lb cb b)(ra:a.right=true)(rb:b.right=true)(hlb:0<lb)(dq dr:List Nat)(X Y:Nm)
  (DV:∀W,Ext w W->Calls Tryz.prog 107 #[.slice pa la ca,.slice pb lb cb] W (RetQR W dq dr)) (hs:0<dr.length) (hX:∀o:List Nat,val o=val dq+1->madeP true o=(X,true)) (hY:∀o:List Nat,val o=val b.d-val dr->madeP false o=(Y,true))
  (lq:dq.length<=64) (lr:dr.length<=64) (hle:val dr<=val b.d) :
  Calls Tryz.prog 87 #[.agg #[.bool true,.slice pa la ca],.agg #[.bool false,.slice pb lb cb]] w (RetDiv w (X,Y,true)):=by
 have lb64:b.d.length<=64:=(b.right_iff.1 rb).1
 have PL:=Lib.hid (fun p c g W (h:Row W p c dq) (k:Row W (some ⟨g,0,none⟩) 1 [1])=>num_plus dq [1] p (some ⟨g,0,none⟩) dq.length c 1 1 W h k rfl rfl (by omega) (by simp))
 have MN:=Lib.hid (fun p c W (k:Ext w W) (h:Row W p c dr)=>num_minus b.d dr pb p lb cb dr.length c W (hb.2.2.ext k) h hb.2.1 rfl (by omega) (by omega) hle)
 have RA:=Lib.hid (fun w' (hx:Ext w w')=>num_Right a true pa la ca w' (ha.ext hx))
 have RB:=Lib.hid (fun w' (hx:Ext w w')=>num_Right b false pb lb cb w' (hb.ext hx))
 rw[ra] at RA
 rw[rb] at RB
 have e0:((lb:Int)==0)=false:=by rw[beq_eq_false_iff_ne];omega
 replace DV:=Lib.hid DV
 clear hlb ra rb
 have MK1:=Lib.hid (fun o p c W (h:Row W p c o) (hv:val o=val dq+val [1])=>by have:=num_made true o p o.length c W h rfl;rw[hX o (by rw[hv,val_one])] at this;exact this)
 have MK2:=Lib.hid (fun o p c W (h:Row W p c o) (hv:val o=val b.d-val dr)=>by have:=num_made false o p o.length c W h rfl;rw[hY o hv] at this;exact this)
 clear hX hY lq lr hle lb64
 go_enter Tryz.func87,Tryz.ntmps87
 go_wp2_with fail
 refine (RA.out _ bxx).mono ?_
 rintro e w1 ⟨rfl,hx⟩
 have hx0:Ext w w1:=Ext.step bxx hx
 obtain⟨_,⟨_,_,_⟩,⟨_,_,_⟩,⟨_,_,_⟩,_,_,_⟩:=keepK4 hx w.heap.size
 go_wp2_with fail
 refine (RB.out _ bxx).mono ?_
 rintro e w2 ⟨rfl,hx2⟩
 have hx1:Ext w w2:=Ext.step bxx hx2
 obtain⟨_,⟨_,_,_⟩,⟨_,_,_⟩,⟨_,_,_⟩,_,_,_⟩:=keepK4 hx2 w.heap.size
 go_wp2_with fail
 refine (DV.out _ bxx).mono ?_
 rintro e w3 ⟨p,c,p2,c2,rfl,hq,hr,hx3⟩
 have hx4:Ext w w3:=Ext.step bxx hx3
 obtain⟨hz_w3,⟨_,_,_⟩,⟨_,_,_⟩,⟨_,_,_⟩,_,_,_⟩:=keepK4 hx3 w.heap.size
 obtain⟨m,HM⟩:∃m,Hid (dr.length=m):=⟨_,rfl⟩
 obtain⟨mq,HMQ⟩:∃m,Hid (dq.length=m):=⟨_,rfl⟩
 rw[HM.out] at hs ⊢
 rw[HMQ.out]
 rw[HM.out] at MN
 rw[HMQ.out] at PL
 go_upto_region 5 with (fail)
 refine wp_FSc (fun W=>W.cell? ⟨w.heap.size,0,none⟩=some (.bool true)/\W.cell? ⟨w.heap.size,1,none⟩=some (.slice pa la ca)/\W.cell? ⟨w.heap.size+1,0,none⟩=some (.bool false)/\W.cell? ⟨w.heap.size+1,1,none⟩=some (.slice pb lb cb)/\W.cell? ⟨w.heap.size+1+1,0,none⟩=some (.bool false)/\W.cell? ⟨w.heap.size+1+1,1,none⟩=some (.slice none 0 0)/\W.cell? ⟨w.heap.size+1+1+1,0,none⟩=some (.bool false)/\W.cell? ⟨w.heap.size+1+1+1,1,none⟩=some (.slice none 0 0)) ?_
 repeat (first|refine F_s ?_|refine F_r ?_)
 refine F_digit _ 1 (by omega) (by rfl) (by rfl) (by rfl) (by rfl) ?_
 intro g
 refine F_put ?_
 repeat (first|refine F_s ?_|refine F_r ?_)
 refine F_row (val dq+val [1]) (by rfl) (by rfl) (by intro W hW;(try dsimp only at hW);go_simp;exact (PL.out _ _ _ _ (hq.ext hW.1.1) hW.2).mono (by rintro e w' ⟨o,p',c',rfl,hr',_,hx',hv'⟩;exact⟨_,rfl,o,p',c',rfl,hr',hx',hv'⟩)) ?_
 intro d1 q1 k1 hv1
 refine F_put ?_
 repeat (first|refine F_s ?_|refine F_r ?_)
 refine F_row (val b.d-val dr) (by rfl) (by rfl) (by intro W hW;(try dsimp only at hW);go_simp;exact (MN.out _ _ _ (hx4.trans (hW.1.1.1.mono hx4.size)) (hr.ext hW.1.1.1)).mono (by rintro e w' ⟨o,p',c',rfl,hr',_,hx',hv'⟩;exact⟨_,rfl,o,p',c',rfl,hr',hx',hv'⟩)) ?_
 intro d2 q2 k2 hv2
 refine F_put ?_
 repeat (first|refine F_s ?_|refine F_r ?_)
 rintro w4 ⟨⟨⟨⟨hx9,hc9⟩,_⟩,hr1⟩,hr2⟩
 have hx10:Ext w w4:=Ext.step hx4 hx9
 have R1:=Lib.hid hr1
 have R2:=Lib.hid hr2
 clear hc9 hr1 hr2 hq hr
 obtain⟨_,⟨_,_,_⟩,⟨_,_,_⟩,⟨_,_,_⟩,_,_,_⟩:=keepK4 hx9 w.heap.size
 go_wp2_with fail
 refine (MK1.out d1 _ _ _ R1.out hv1).mono ?_
 rintro e w5 ⟨n5,p5,l5,c5,rfl,hn5,hnew5,hx5⟩
 have hx6:Ext w w5:=Ext.step hx10 hx5
 obtain⟨_,⟨_,_,_⟩,⟨_,_,_⟩,⟨_,_,_⟩,_,_,_⟩:=keepK4 hx5 w.heap.size
 go_wp2_with fail
 refine (MK2.out d2 _ _ _ (R2.out.ext (hx5.alloc hx5.size _)) hv2).mono ?_
 rintro e w6 ⟨n6,p6,l6,c6,rfl,hn6,hnew6,hx7⟩
 have hx8:Ext w w6:=Ext.step bxx hx7
 have k5a:w6.cell? ⟨w5.heap.size,0,none⟩=some (.bool n5):=(hx7.cell (p:=⟨w5.heap.size,0,none⟩) (by simp)).trans (by go_simp)
 have k5b:w6.cell? ⟨w5.heap.size,1,none⟩=some (.slice p5 l5 c5):=(hx7.cell (p:=⟨w5.heap.size,1,none⟩) (by simp)).trans (by go_simp)
 have k5l:w5.heap.size<w6.heap.size:=Nat.lt_of_lt_of_le (by simp) hx7.size
 obtain⟨_,⟨_,_,_⟩,⟨_,_,_⟩,⟨_,_,_⟩,_,_,_⟩:=keepK4 hx7 w.heap.size
 have hn5':NR w6 n5 p5 l5 c5 X:=hn5.ext (Below.trans ((Below.refl _ _).alloc (Nat.le_refl _) _) (hx7.mono (by simp)))
 have hnw5:New w3 p5:=hnew5.mono hx9.size
 have hnw6:New w3 p6:=hnew6.mono (by have:=hx5.size;have:=hx9.size;simp;omega)
 have z3:w.heap.size+4<=w3.heap.size:=hz_w3
 go_upto_region 10 with (fail)
 refine wp_some (fun W=>Ext w W/\(W.cell? ⟨w.heap.size+1+1,0,none⟩=some (.bool false)/\W.cell? ⟨w.heap.size+1+1,1,none⟩=some (.slice none 0 0)/\W.cell? ⟨w.heap.size+1+1+1,0,none⟩=some (.bool false)/\W.cell? ⟨w.heap.size+1+1+1,1,none⟩=some (.slice none 0 0)/\W.cell? ⟨w5.heap.size,0,none⟩=some (.bool n5)/\W.cell? ⟨w5.heap.size,1,none⟩=some (.slice p5 l5 c5)/\W.cell? ⟨w6.heap.size,0,none⟩=some (.bool n6)/\W.cell? ⟨w6.heap.size,1,none⟩=some (.slice p6 l6 c6)/\(∀o,W.frozen? ⟨w.heap.size+1+1,o,none⟩=false)/\(∀o,W.frozen? ⟨w.heap.size+1+1+1,o,none⟩=false) )/\w.heap.size+4<=W.heap.size/\NR W n5 p5 l5 c5 X/\NR W n6 p6 l6 c6 Y) ?_ ?_
 ·exact⟨bxx,⟨by go_simp,by go_simp,by go_simp,by go_simp,by go_simp,by go_simp,by go_simp,by go_simp,by intro o;go_simp,by intro o;go_simp⟩,by simp;omega,hn5'.alloc _,hn6.alloc _⟩
 obtain⟨A5,HA5⟩:∃x,Hid (w5.heap.size=x):=⟨_,rfl⟩
 obtain⟨A6,HA6⟩:∃x,Hid (w6.heap.size=x):=⟨_,rfl⟩
 have hne1:w.heap.size+1+1≠A5:=by have:=HA5.out;have:=hx5.size;have:=hx9.size;omega
 have hne2:w.heap.size+1+1+1≠A5:=by have:=HA5.out;have:=hx5.size;have:=hx9.size;omega
 have hne3:w.heap.size+1+1≠A6:=by have:=HA5.out;have:=HA6.out;omega
 have hne4:w.heap.size+1+1+1≠A6:=by have:=HA5.out;have:=HA6.out;omega
 rw[HA5.out,HA6.out]
 rintro V ⟨hxV,⟨v0,v1,v2,v3,v4,v5,v6,v7,vf1,vf2⟩,hzV,hN5,hN6⟩
 have HN5:=Lib.hid hN5
 have HN6:=Lib.hid hN6
 have HXV:=Lib.hid hxV
 have y2:w.heap.size+1+1<V.heap.size:=by omega
 have y3:w.heap.size+1+1+1<V.heap.size:=by omega
 have Z3:=Lib.hid z3
 have NW5:=Lib.hid hnw5
 have NW6:=Lib.hid hnw6
 clear hN5 hN6 hxV k5a k5b k5l hn5' hn6 hn5 hx8 hx6 hx4 hx7 hx5 hx3 hx0 hx1 hx2 hx hzV z3 hnew5 hnew6 hnw5 hnw6 hx9 hx10
 go_region
 all_goals
  go_wp2
  refine bodyPost_ret (v:=.tuple #[.agg #[.bool n5,.slice p5 l5 c5],.agg #[.bool n6,.slice p6 l6 c6],.bool true]) (by simp only[results,Tryz.results87];go_simp) rfl ?_
  have hN5:=HN5.out
  have hN6:=HN6.out
  have hxV:=HXV.out
  have hnw5:=NW5.out
  have hnw6:=NW6.out
  have z3:=Z3.out
  refine⟨n5,p5,l5,c5,n6,p6,l6,c6,rfl,?_,?_,hnw5.mono (by omega),hnw6.mono (by omega),bxx⟩
  ·(repeat (first|assumption|exact NR.drew (by assumption)|refine NR.set ?_ (w0:=w3) (by assumption) _ omm _|refine NR.drew ?_))
  ·(repeat (first|assumption|exact NR.drew (by assumption)|refine NR.set ?_ (w0:=w3) (by assumption) _ omm _|refine NR.drew ?_))
end
theorem num_Div(a b:Nm)(na nb:Bool)(pa pb:Option Addr)(la ca lb cb:Nat)(w:World)(ha:NR w na pa la ca a)(hb:NR w nb pb lb cb b)
  (DV:a.right=true->b.right=true->0<b.d.length->∀W,Ext w W->Calls Tryz.prog 107 #[.slice pa la ca,.slice pb lb cb] W (RetQR W (digs (val a.d/val b.d)) (digs (val a.d%val b.d)))) :
  Calls Tryz.prog 87 #[.agg #[.bool na,.slice pa la ca],.agg #[.bool nb,.slice pb lb cb]] w (RetDiv w (divP a b)):=by
 cases ra:a.right with
 | false=>exact Div_no a b na nb pa pb la ca lb cb w ha hb (.inl ra)
 | true =>
  cases rb:b.right with
  | false=>exact Div_no a b na nb pa pb la ca lb cb w ha hb (.inr (.inl rb))
  | true =>
   cases hn:b.neg with
   | true=>exact Div_no a b na nb pa pb la ca lb cb w ha hb (.inr (.inr (.inl hn)))
   | false =>
    by_cases h0:b.d.length=0
    ·exact Div_no a b na nb pa pb la ca lb cb w ha hb (.inr (.inr (.inr h0)))
    ·have hnb := hb.1
     rw[hn] at hnb
     subst hnb
     have hlb:=hb.2.1
     have hna:=ha.1
     have da:=ha.2.2.dig
     rw[divP_yes ra rb hn (by omega)]
     have D:=DV ra rb (by omega)
     have vq:val (digs (val a.d/val b.d))=val a.d/val b.d:=val_digs _
     have vr:val (digs (val a.d%val b.d))=val a.d%val b.d:=val_digs _
     have hbp:0<val b.d:=tight_pos (b.right_iff.1 rb).2.1 (by omega)
     have hqle:val a.d/val b.d<=val a.d:=Nat.div_le_self _ _
     have hrle:val a.d%val b.d<=val a.d:=Nat.mod_le _ _
     have l64 (n:Nat) (h:n<=val a.d):(digs n).length<=64:=by
      refine (digs_length_le _ _).2 (Nat.lt_of_le_of_lt h ?_)
      exact Nat.lt_of_lt_of_le (val_lt da) (Nat.pow_le_pow_right (by omega) (a.right_iff.1 ra).1)
     by_cases hs:a.neg=true/\val a.d%val b.d≠0
     ·obtain ⟨hneg, hrest⟩ := hs
      rw[hneg] at hna
      subst hna
      have hrb:val a.d%val b.d<val b.d:=Nat.mod_lt _ hbp
      have z:a.z = -(val a.d:Int):=by unfold Nm.z;rw[hneg];rfl
      refine Div_neg a b pa pb la ca lb cb w ha hb ra rb (by omega) _ _ _ _ D ?_ ?_ ?_ (l64 _ hqle) (l64 _ hrle) (by rw[vr];omega)
      ·refine List.length_pos_iff.2 (fun h => hrest ?_)
       exact digs_eq_nil.1 h
      ·intro o ho
       rw[vq] at ho
       have:=made_nat da ra (succ_le hbp hrest) ho true
       simp only[if_true] at this
       rw[this,z,((ediv_neg hbp).2 hrest).1]
      ·intro o ho
       rw[vr] at ho
       rw[madeP_fit,ho,fit_small]
       ·simp only [Bool.false_eq_true, if_false]
        rw[z,((ediv_neg hbp).2 hrest).2]
       ·refine small_of_le hb.2.2.dig rb ?_
        simp only[Bool.false_eq_true,if_false]
        omega
     ·refine Div_simple a b na pa pb la ca lb cb w ha hb ra rb (by omega) _ _ _ _ D ?_ ?_ ?_
      ·intro h
       rw[hna] at h
       have:val a.d%val b.d=0:=by
        rcases Nat.eq_zero_or_pos (val a.d%val b.d) with g|g
        ·exact g
        ·exact absurd ⟨h,by omega⟩ hs
       rw[this,digs_zero]
      ·rw [made_nat da ra hqle vq na]
       unfold Nm.z
       rw[hna]
       cases h:a.neg with
       | false=>simp only[Bool.false_eq_true,if_false];rw[ediv_pos.1]
       | true =>
        simp only[if_true]
        have:val a.d%val b.d=0:=by
         rcases Nat.eq_zero_or_pos (val a.d%val b.d) with g|g
         ·exact g
         ·exact absurd ⟨h,by omega⟩ hs
        rw[((ediv_neg hbp).1 this).1]
      ·rw [made_nat da ra hrle vr false]
       simp only[Bool.false_eq_true,if_false]
       unfold Nm.z
       cases h:a.neg with
       | false=>simp only[Bool.false_eq_true,if_false];rw[ediv_pos.2]
       | true =>
        simp only[if_true]
        have:val a.d%val b.d=0:=by
         rcases Nat.eq_zero_or_pos (val a.d%val b.d) with g|g
         ·exact g
         ·exact absurd ⟨h,by omega⟩ hs
        rw[((ediv_neg hbp).1 this).2]
theorem num_divide_small(a b:List Nat)(pa pb:Option Addr)(la ca lb cb:Nat)(w:World)(ha:Row w pa ca a)(hb:Row w pb cb b)(hla:la=a.length)(hlb:lb=b.length)(ta:Tight a)(tb:Tight b)(h64:a.length<=1000)(h1:b.length=1) :
  Calls Tryz.prog 107 #[.slice pa la ca,.slice pb lb cb] w (RetQR w (digs (val a/val b)) (digs (val a%val b))):=by
 by_cases hlt:val a<val b
 ·exact num_divide_less a b pa pb la ca lb cb w ha hb hla hlb ta tb hlt
 ·obtain⟨x,rfl⟩:∃x,b=[x]:=by
   match b,h1 with
   | [x],_=>exact⟨x,rfl⟩
  have h0:=tight_pos tb (by simp)
  rw[val_one] at h0 hlt ⊢
  exact num_divide_one a x pa pb la ca lb cb w ha hb hla (by rw[hlb];rfl) ta h0 h64 (by omega)

set_option maxHeartbeats 4000000
set_option maxRecDepth 100000
section
def rowVal(w:World)(v:Value):Nat :=
 match v with
 | .slice (some ⟨b,o,none⟩) l _=>val ((List.range l).map fun i=>match w.cell? ⟨b,o+i,none⟩ with|some (.int _ n)=>n.toNat|_=>0)
 | _=>0
theorem rowVal_eq{w:World}{p:Option Addr}{c:Nat}{d:List Nat}(h:Row w p c d):rowVal w (.slice p d.length c)=val d:=by
 by_cases h0:0<d.length
 ·obtain ⟨b, o, rfl, _, hc⟩ := h.at h0
  have e:((List.range d.length).map fun i=>match w.cell? ⟨b,o+i,none⟩ with|some (.int _ n)=>n.toNat|_=>0)=d:=by
   refine List.ext_getElem (by rw[List.length_map,List.length_range]) (fun i h1 h2=>?_)
   have:=hc i h2
   simp only[List.getElem_map,List.getElem_range,this,getD_eq h2]
   rfl
  show val ((List.range d.length).map fun i=>match w.cell? ⟨b,o+i,none⟩ with|some (.int _ n)=>n.toNat|_=>0)=val d
  rw[e]
 ·have : d = [] := List.eq_nil_of_length_eq_zero (by omega)
  subst this
  unfold rowVal
  split
  ·rename_i e;injection e with _ e2 _;subst e2;rfl
  ·rfl
def gcdP(a b:Nm):Nm×Bool:=if a.right&&b.right then (ofZ (Nat.gcd (val a.d) (val b.d)),true) else (zero,false)
def DivOn(N:Nat):Prop:=∀(x y:List Nat) (px py:Option Addr) (lx cx ly cy:Nat) (W:World),Row W px cx x->Row W py cy y->lx=x.length->ly=y.length->Tight x->Tight y->x.length<=64->0<y.length->y.length<=N ->
 Calls Tryz.prog 107 #[.slice px lx cx,.slice py ly cy] W (RetQR W (digs (val x/val y)) (digs (val x%val y)))
theorem made_gcd{a b:Nm}(da:Dig a.d)(db:Dig b.d)(ra:a.right=true)(rb:b.right=true){o:List Nat}(ho:val o=Nat.gcd (val a.d) (val b.d)):madeP false o=(ofZ (Nat.gcd (val a.d) (val b.d)),true):=by
 rw[madeP_fit,ho,fit_small]
 ·rfl
 ·simp only [Bool.false_eq_true, if_false]
  by_cases h:val a.d=0
  ·rw [h, Nat.gcd_zero_left]
   exact small_of_le db rb (by omega)
  ·exact small_of_le da ra (by have:=Nat.gcd_le_left (val b.d) (Nat.pos_of_ne_zero h);omega)
theorem digs_le{y:List Nat}(dy:Dig y)(ty:Tight y){n:Nat}(h:n<=val y):(digs n).length<=y.length:=by
 refine (digs_length_le _ _).2 (Nat.lt_of_le_of_lt h (val_lt dy))
theorem num_Gcd(a b:Nm)(na nb:Bool)(pa pb:Option Addr)(la ca lb cb:Nat)(w:World)(ha:NR w na pa la ca a)(hb:NR w nb pb lb cb b)(N:Nat)(hN:b.d.length<=N)(DV:DivOn N) :
  Calls Tryz.prog 86 #[.agg #[.bool na,.slice pa la ca],.agg #[.bool nb,.slice pb lb cb]] w (RetNum w (gcdP a b)):=by
 have RA:=Lib.hid (fun w' (hx:Ext w w')=>num_Right a na pa la ca w' (ha.ext hx))
 have RB:=Lib.hid (fun w' (hx:Ext w w')=>num_Right b nb pb lb cb w' (hb.ext hx))
 have NO:(a.right=false\/b.right=false)->∀W',Ext w W'->RetNum w (gcdP a b) (.returned (.tuple #[.agg #[.bool false,.slice none 0 0],.bool false])) W':=by
  intro h W' hx
  have:gcdP a b=(zero,false):=by unfold gcdP;rw[if_neg];rcases h with h|h<;>simp[h]
  rw[this]
  exact⟨false,none,0,0,rfl,⟨rfl,rfl,Row.nil _⟩,New.none _,hx⟩
 replace NO:=Lib.hid NO
 cases ra:a.right with
 | false =>
  rw[ra] at RA
  go_enter Tryz.func86,Tryz.ntmps86
  go_wp2_with fail
  refine (RA.out _ bxx).mono ?_
  rintro e w1 ⟨rfl,hx⟩
  have hx0:Ext w w1:=Ext.step bxx hx
  obtain⟨_,⟨_,_,_⟩,⟨_,_,_⟩,_,_,_⟩:=keepK3 hx w.heap.size
  go_wp2
  refine bodyPost_ret (v:=.tuple #[.agg #[.bool false,.slice none 0 0],.bool false]) (by simp only[results,Tryz.results86];go_simp) rfl ?_
  exact NO.out (.inl ra) _ bxx
 | true =>
  rw[ra] at RA
  cases rb:b.right with
  | false =>
   rw[rb] at RB
   go_enter Tryz.func86,Tryz.ntmps86
   go_wp2_with fail
   refine (RA.out _ bxx).mono ?_
   rintro e w1 ⟨rfl,hx⟩
   have hx0:Ext w w1:=Ext.step bxx hx
   obtain⟨_,⟨_,_,_⟩,⟨_,_,_⟩,_,_,_⟩:=keepK3 hx w.heap.size
   go_wp2_with fail
   refine (RB.out _ bxx).mono ?_
   rintro e w2 ⟨rfl,hx2⟩
   have hx1:Ext w w2:=Ext.step bxx hx2
   obtain⟨_,⟨_,_,_⟩,⟨_,_,_⟩,_,_,_⟩:=keepK3 hx2 w.heap.size
   go_wp2
   refine bodyPost_ret (v:=.tuple #[.agg #[.bool false,.slice none 0 0],.bool false]) (by simp only[results,Tryz.results86];go_simp) rfl ?_
   exact NO.out (.inr rb) _ bxx
  | true =>
   rw[rb] at RB
   have hP:gcdP a b=(ofZ (Nat.gcd (val a.d) (val b.d)),true):=by unfold gcdP;rw[ra,rb];rfl
   have MG:=Lib.hid (fun o (h:val o=Nat.gcd (val a.d) (val b.d))=>made_gcd ha.2.2.dig hb.2.2.dig ra rb h)
   have TA:=(a.right_iff.1 ra).2.1
   have TB:=(b.right_iff.1 rb).2.1
   have L64:a.d.length<=64:=(a.right_iff.1 ra).1
   have B64:b.d.length<=64:=(b.right_iff.1 rb).1
   have HA:=Lib.hid ha
   have HB:=Lib.hid hb
   have HP:=Lib.hid hP
   have DVH:=Lib.hid DV
   clear hP ha hb NO ra rb DV
   go_enter Tryz.func86,Tryz.ntmps86
   go_wp2_with fail
   refine (RA.out _ bxx).mono ?_
   rintro e w1 ⟨rfl,hx⟩
   have hx0:Ext w w1:=Ext.step bxx hx
   obtain⟨_,⟨_,_,_⟩,⟨_,_,_⟩,_,_,_⟩:=keepK3 hx w.heap.size
   go_wp2_with fail
   refine (RB.out _ bxx).mono ?_
   rintro e w2 ⟨rfl,hx2⟩
   have hx1:Ext w w2:=Ext.step bxx hx2
   obtain⟨_,⟨_,_,_⟩,⟨_,_,_⟩,_,_,_⟩:=keepK3 hx2 w.heap.size
   go_wp2_with fail
   refine wp_FSc (fun W=>W.cell? ⟨w.heap.size,1,none⟩=some (.slice pa la ca)/\W.cell? ⟨w.heap.size+1,1,none⟩=some (.slice pb lb cb)/\W.cell? ⟨w.heap.size+1+1,0,none⟩=some (.bool false)/\W.cell? ⟨w.heap.size+1+1,1,none⟩=some (.slice none 0 0)) ?_
   repeat (first|refine F_s ?_|refine F_r ?_)
   rintro w3 ⟨hx3,hc3⟩
   have hx4:Ext w w3:=Ext.step hx1 hx3
   obtain⟨_,⟨_,_,_⟩,⟨_,_,_⟩,_,_,_⟩:=keepK3 hx3 w.heap.size
   have HX4:=Lib.hid hx4
   clear hx4 hx3 hx1 hx2 hx0 hx hc3
   go_wp2_with fail
   go_loopw [6,7] (fun xs ys wr=>∃(dx dy:List Nat) (px py:Option Addr) (cx cy:Nat),xs=.slice px dx.length cx/\ys=.slice py dy.length cy/\Row wr px cx dx/\Row wr py cy dy/\Tight dx/\Tight dy/\dx.length<=64/\dy.length<=N/\dy.length<=64/\Nat.gcd (val dx) (val dy)=Nat.gcd (val a.d) (val b.d)/\Ext w3 wr) (fun _ ys wr=>rowVal wr ys)
   case atStart =>
    refine⟨a.d,b.d,pa,pb,ca,cb,?_,?_,HA.out.2.2.ext HX4.out,HB.out.2.2.ext HX4.out,TA,TB,L64,hN,B64,rfl,Below.refl _ _⟩
    ·rw[HA.out.2.1]
    ·rw[HB.out.2.1]
   case round =>
    obtain⟨dx,dy,px,py,cx,cy,rfl,rfl,hrx,hry,tx,ty,lx,ly,ly64,hg,hxr⟩:=hrel
    have G:=Lib.hid hg
    have TX:=Lib.hid tx
    have TY:=Lib.hid ty
    clear hg tx ty TA TB hN
    by_cases h0:dy.length=0
    ·obtain rfl : dy = [] := List.eq_nil_of_length_eq_zero h0
     have MK:=num_made false dx px dx.length cx wr hrx rfl
     rw[MG.out dx (by rw[<- G.out];show val dx=Nat.gcd (val dx) 0;rw[Nat.gcd_zero_right])] at MK
     have MKH:=Lib.hid MK
     have hx5:Ext w wr:=Ext.step HX4.out hxr
     obtain⟨_,⟨_,_,_⟩,⟨_,_,_⟩,_,_,_⟩:=keepK3 hxr w.heap.size
     clear h0 hrx hry MK
     go_wp2_with fail
     refine MKH.out.mono ?_
     rintro e w5 ⟨n5,p5,l5,c5,rfl,hn5,hnew5,hx6⟩
     have hx7:Ext w w5:=Ext.step hx5 hx6
     obtain⟨_,⟨_,_,_⟩,⟨_,_,_⟩,_,_,_⟩:=keepK3 hx6 w.heap.size
     go_wp2
     refine bodyPost_ret (v:=.tuple #[.agg #[.bool n5,.slice p5 l5 c5],.bool true]) (by simp only[results,Tryz.results86];go_simp) rfl ?_
     rw[HP.out]
     exact⟨n5,p5,l5,c5,rfl,(by repeat (first|assumption|refine NR.set ?_ (by assumption) _ (by first|(simp;done)|(simp;omega)|omega) _|refine NR.alloc ?_ _)),hnew5.mono hx5.size,bxx⟩
    ·have hpos : 0 < dy.length := Nat.pos_of_ne_zero h0
     have CL:=Lib.hid (DVH.out dx dy px py dx.length cx dy.length cy wr hrx hry rfl rfl TX.out TY.out lx hpos ly)
     have VB:=Lib.hid (tight_pos TY.out hpos)
     have RV:=Lib.hid (rowVal_eq hry)
     have HRY:=Lib.hid hry
     have HXR:=Lib.hid hxr
     have hn0:dy ≠ []:=List.length_pos_iff.1 hpos
     obtain⟨m,M⟩:∃m,Hid (dy.length=m):=⟨_,rfl⟩
     rw[M.out] at hpos CL RV ⊢
     clear h0 hrx hry hxr
     go_wp2_with fail
     refine CL.out.mono ?_
     rintro e w5 ⟨p,c,p2,c2,rfl,hq,hr,hx6⟩
     have HR:=Lib.hid hr
     have HX6:=Lib.hid hx6
     clear hq hr hx6
     go_wp2
     have hv:val (digs (val dx%val dy))=val dx%val dy:=val_digs _
     have hlt:=Nat.mod_lt (val dx) VB.out
     have hl:=digs_le HRY.out.dig TY.out (Nat.le_of_lt hlt)
     refine⟨⟨dy,digs (val dx%val dy),py,p2,cy,c2,by rw[M.out],rfl,HRY.out.ext HX6.out,HR.out,TY.out,tight_digs _,ly64,by omega,by omega,?_,Ext.step HXR.out HX6.out⟩,?_⟩
     ·rw [hv, <- G.out]
      exact ((Nat.gcd_comm _ _).trans (Nat.gcd_rec (val dy) (val dx)).symm).trans (Nat.gcd_comm _ _)
     ·rw [rowVal_eq HR.out, hv, RV.out]
      exact hlt
end
theorem ownsRow_extT{w w':World}{B e size:Nat}{v:Value}{n:Nat}{xs:List Value}(h:w.ownsRow B e size v n xs)(hx:Ext w w'):w'.ownsRow B e size v n xs:=by
 refine⟨h.1,?_⟩
 rcases h.2 with h|⟨g,cap,cur,h1,h2,h3,h4⟩
 ·exact .inl h
 ·exact .inr ⟨g,cap,cur,h1,h2,by rw[hx.block g (Array.getElem?_eq_some_iff.1 h3).1];exact h3,h4⟩
end Go.Proofs.YtcfpcafnjgpfdaaGreat
