import Derived.Test.YtcfpcafnjgpfdaaGreatK22
set_option linter.unusedVariables false
set_option linter.unusedSimpArgs false

namespace Go.Proofs.YtcfpcafnjgpfdaaGreat
open Go.RowKit

set_option maxHeartbeats 4000000
set_option maxRecDepth 100000
section
theorem half_digit(x0 x1:Nat)(h0:x0<4294967296):(x1*4294967296+x0)/2%4294967296=2147483648*(x1%2)+x0/2:=by omega
theorem half_or(x0 x1:Nat)(h0:x0<4294967296):bits .or .u32 ((x0/2:Nat):Int) ((x1:Int)*2147483648%4294967296)=((2147483648*(x1%2)+x0/2:Nat):Int):=by
 have e:(x1:Int)*2147483648%4294967296=((2147483648*(x1%2):Nat):Int):=by omega
 rw[e,u32_or_nat (x0/2) (2147483648*(x1%2)) (by omega) (by omega),Nat.or_comm,or_mul 2147483648 (x1%2) (x0/2) 31 (by decide) (by omega)]
theorem half_end{a o:List Nat}(h:ShrInv 2 a o)(hl:o.length=a.length):val o=val a/2:=by
 obtain⟨_,h2⟩:=h
 rw[hl,List.take_of_length_le (Nat.le_refl a.length),List.getElem?_eq_none (Nat.le_refl _)] at h2
 simp only[Option.getD_none,Nat.zero_mod,Nat.mul_zero,Nat.add_zero] at h2
 omega
theorem r01_half(a:List Nat)(pa:Option Addr)(la ca:Nat)(w:World)(ha:Row w pa ca a)(hla:la=a.length)(h0:0<a.length)(h64:a.length<=900) :
  Calls Tryz.prog 102 #[.slice pa la ca] w (RetDigs w (val a/2)):=by
 subst hla
 obtain⟨i,hi,hz0,hz1,hz2⟩:=info_parts info32
 have hla:=ha.le
 have hma:=ha.max
 obtain⟨b,o,rfl,hb,hc⟩:=ha.at h0
 have Hc:=Lib.hid hc
 have R:=Lib.hid ha
 have hdig:=ha.dig
 clear hc ha
 go_enter Tryz.func102,Tryz.ntmps102
 go_wp2_with (at_builtin;refine wpList_append_own _ rfl _ _ 30 rfl w.heap.size 113 i (.int .u32 0) 1 4 Tryz.underlying30 hi hz0 hz1 hz2 rfl (by decide) _ _ _ rfl (World.ownsRow_made w #[] 0 (Nat.le_refl _) (by decide) rfl) ⟨b,o,none⟩ a.length ca (enc a) rfl (by simp[enc]) ?c2 (enc_one a) ?c3 ?c4 ?c5 ?_)
 case c2=>exact row_news (fun i hi=>(cell_later ((Below.refl _ _).alloc (Nat.le_refl _) _) (Hc.out i hi)))
 case c3=>unfold maxLen;omega
 case c4=>omega
 case c5=>simp
 intro v' w2 hown hgr _
 have hown2:w2.ownsRow w.heap.size 113 1 v' a.length (enc a):=by simpa using hown
 have hx2:Ext w w2:=((Below.refl _ _).alloc (Nat.le_refl _) _).grown hgr (by simp) (fun k hk=>by simp[Value.ownBlock] at hk;omega)
 obtain⟨g,cg,rfl,hBg⟩:∃g cg,v'=.slice (some ⟨g,0,none⟩) a.length cg/\w.heap.size<=g:=by
  rcases hown2.2 with⟨_,h⟩|⟨g,cap,cur,h1,h2,_⟩
  ·omega
  ·exact⟨g,cap,h1,h2⟩
 have eNn:(enc a).length=a.length:=enc_length a
 have hown0:w2.ownsRow w.heap.size 113 1 (.slice (some ⟨g,0,none⟩) a.length cg) a.length (enc ([]++([]++a.drop 0))):=by simpa using hown2
 clear hown hown2 hgr
 go_wp2_with fail
 go_loopw [4] (fun k wr=>∃(o':List Nat),o'.length<=a.length/\k=.int .i64 (o'.length:Int)/\ShrInv 2 a o'/\wr.ownsRow w.heap.size 113 1 (.slice (some ⟨g,0,none⟩) a.length cg) a.length (enc ([]++(o'++a.drop o'.length)))/\Ext w wr) (fun k _=>a.length-(intOf k).toNat)
 case atStart=>exact⟨[],Nat.zero_le _,rfl,shr_start (s:=2) (e:=2147483648) rfl a h0,hown0,hx2⟩
 case round =>
  clear hown0 hx2
  obtain⟨o',ho,rfl,hinv,hown,hx⟩:=hrel
  by_cases hlt:o'.length<a.length
  ·rw [drop_at hlt] at hown
   have hd0:=hdig.getD o'.length
   rw[List.getD_eq_getElem?_getD] at hd0
   have STEP:=fun x1 (h1:a[o'.length+1]?.getD 0=x1)=>shr_step (s:=2) (e:=2147483648) rfl hinv rfl h1 hd0
   obtain⟨x0,X0⟩:∃x,Hid (a[o'.length]?.getD 0=x):=⟨_,rfl⟩
   rw[X0.out] at hown hd0
   simp only[X0.out] at STEP
   have hcx:=own_at (i:=o'.length) hown (by simp)
   have hfx:=hown.frozenAt o'.length
   obtain⟨y0,Y0⟩:∃y,Hid (x0/2=y):=⟨_,rfl⟩
   have D0:(x0:Int)/2=(y0:Int):=by have:=Y0.out;omega
   have hown1:=own_put (i:=o'.length) hown (by simp) y0
   by_cases hl2:o'.length+1<a.length
   ·have hx5 : Ext w (wr.setCell ⟨g, o'.length, none⟩ (.int .u32 (y0 : Int))) := Below.setCell hx hBg _
    obtain⟨b2,o2,hp2,hb2,hca⟩:=(R.out.ext hx5).at h0
    have hc1:=hca (o'.length+1) hl2
    obtain⟨x1,X1⟩:∃x,Hid (a[o'.length+1]?.getD 0=x):=⟨_,rfl⟩
    rw[X1.out] at hc1
    have hq:b2=b/\o2=o:=by
     have:=congrArg (fun x=>x.map (fun y=>(y.block,y.off))) hp2
     simp at this
     exact⟨this.1.symm,this.2.symm⟩
    rw[hq.1,hq.2] at hc1
    clear hca hq hp2 hb2
    have S:=STEP x1 X1.out
    rw[half_digit x0 x1 hd0] at S
    have OR:=half_or x0 x1 hd0
    rw[Y0.out] at OR S
    obtain⟨y,Y⟩:∃y,Hid (2147483648*(x1%2)+y0=y):=⟨_,rfl⟩
    rw[Y.out] at OR S
    rw[List.append_assoc o' [y0],List.singleton_append] at hown1
    have SS:=Lib.hid S
    clear S STEP hinv
    go_upto_region 7 with (fail)
    generalize hW5:wr.setCell ⟨g,o'.length,none⟩ (.int .u32 (y0:Int))=w5 at hx5 hown1 hc1 ⊢
    have hcy:=own_at (i:=o'.length) hown1 (by simp)
    have hfy:=hown1.frozenAt o'.length
    have hown5:=own_put (w:=w5.drew) (i:=o'.length) hown1 (by simp) y
    have OWN:=Lib.hid hown5
    have X5:Hid (Ext w (w5.drew.setCell ⟨g,o'.length,none⟩ (.int .u32 (y:Int)))):=(Below.drew hx5).setCell hBg _
    clear hown hown1 hown5 hx hx5 hcx hfx hW5
    have hI1:(o'.length:Int)<(a.length:Int):=by omega
    have hI2:(0:Int)<=(o'.length:Int):=by omega
    have hI3:(o'.length:Int)+1<(a.length:Int):=by omega
    have hI4:(0:Int)<=(o'.length:Int)+1:=by omega
    have hI5:IntKind.i64.wrap ((o'.length:Int)+1)=(o'.length:Int)+1:=IntWalk.i64_in _ (by omega)
    have hI6:((o'.length:Int)+1).toNat=o'.length+1:=by omega
    go_still_tail 14,(by kernel_rfl)
    go_wp2
    refine⟨⟨o'++[y],by rw[List.length_append,List.length_singleton];omega,by rw[List.length_append,List.length_singleton];push_cast;rfl,SS.out,?_,X5.out⟩,by simp[intOf];omega⟩
    rw[List.length_append,List.length_singleton]
    exact OWN.out
   ·have hx5 : Ext w (wr.setCell ⟨g, o'.length, none⟩ (.int .u32 (y0 : Int))) := Below.setCell hx hBg _
    have S:=STEP 0 (by rw[List.getElem?_eq_none (by omega)];rfl)
    rw[half_digit x0 0 hd0,Y0.out,show 2147483648*(0%2)+y0=y0 by omega] at S
    have SS:=Lib.hid S
    have OWN:=Lib.hid hown1
    have X5:=Lib.hid hx5
    clear S STEP hinv hown hown1 hx hx5
    go_wp2
    refine⟨⟨o'++[y0],by rw[List.length_append,List.length_singleton];omega,by rw[List.length_append,List.length_singleton];push_cast;rfl,SS.out,?_,X5.out⟩,by simp[intOf];omega⟩
    rw[List.length_append,List.length_singleton]
    exact OWN.out
  ·have hol : o'.length = a.length := by omega
   have END:=Lib.hid (half_end hinv hol)
   have DO:=Lib.hid hinv.1
   rw[hol,List.drop_of_length_le (Nat.le_refl _),List.append_nil,List.nil_append] at hown
   obtain⟨p',c',hv',hrow,hnew⟩:=row_of_owns hown DO.out
   obtain⟨rfl,rfl⟩:some (⟨g,0,none⟩:Addr)=p'/\cg=c':=by
    simp only[Value.slice.injEq] at hv'
    exact⟨hv'.1,hv'.2.2⟩
   have ROW:=Lib.hid hrow
   clear hinv hown hv' hrow
   rw[hol]
   go_wp2_with fail
   refine (r01_trim o' _ _ _ _ ROW.out hol.symm).mono ?_
   rintro e w4 ⟨rfl,hrow1,hx6⟩
   have hx7:Ext w w4:=Ext.step hx hx6
   have T:trim o'=digs (val a/2):=by rw[<- END.out];rfl
   go_wp2
   go_ret
   rw[T] at hrow1
   exact⟨_,cg,rfl,hrow1,hnew,hx7⟩
end

set_option maxHeartbeats 4000000
set_option maxRecDepth 100000
section
theorem tmod2(d:Nat):Int.tmod (d:Int) 2=(d:Int)%2:=rfl
attribute [local go_sem] tmod2
theorem r01_Gcd(a b:Nm)(na nb:Bool)(pa pb:Option Addr)(la ca lb cb:Nat)(w:World)(ha:NR w na pa la ca a)(hb:NR w nb pb lb cb b) :
    Calls Tryz.prog 82 #[.agg #[.bool na,.slice pa la ca],.agg #[.bool nb,.slice pb lb cb]] w (RetNum w (gcdP a b)):=by
  have RA:=Lib.hid (fun w' (hx:Ext w w')=>r01_Right a na pa la ca w' (ha.ext hx))
  have RB:=Lib.hid (fun w' (hx:Ext w w')=>r01_Right b nb pb lb cb w' (hb.ext hx))
  have NO:(a.right=false\/b.right=false)->∀W',Ext w W'->RetNum w (gcdP a b) (.returned (.tuple #[.agg #[.bool false,.slice none 0 0],.bool false])) W':=by
    intro h W' hx
    have:gcdP a b=(zero,false):=by unfold gcdP;rw[if_neg];rcases h with h|h<;>simp[h]
    rw[this]
    exact⟨false,none,0,0,rfl,⟨rfl,rfl,Row.nil _⟩,New.none _,hx⟩
  replace NO:=Lib.hid NO
  cases ra:a.right with
  | false =>
    rw[ra] at RA
    go_enter Tryz.func82,Tryz.ntmps82
    go_wp2_with fail
    refine (RA.out _ bxx).mono ?_
    rintro e w1 ⟨rfl,hx⟩
    have hx0:Ext w w1:=Ext.step bxx hx
    obtain⟨_,⟨_,_,_⟩,⟨_,_,_⟩,_,_,_⟩:=keepK3 hx w.heap.size
    go_wp2
    refine bodyPost_ret (v:=.tuple #[.agg #[.bool false,.slice none 0 0],.bool false]) (by simp only[results,Tryz.results82];go_simp) rfl ?_
    exact NO.out (.inl ra) _ bxx
  | true =>
    rw[ra] at RA
    cases rb:b.right with
    | false =>
      rw[rb] at RB
      go_enter Tryz.func82,Tryz.ntmps82
      go_wp2_with fail
      refine (RA.out _ bxx).mono ?_
      rintro e w1 ⟨rfl,hx⟩
      have hx0:Ext w w1:=Ext.step bxx hx
      obtain⟨_,⟨_,_,_⟩,⟨_,_,_⟩,_,_,_⟩:=keepK3 hx w.heap.size
      go_wp2_with fail
      refine (RB.out _ bxx).mono ?_
      rintro e w2 ⟨rfl,hx2⟩
      have hx1:Ext w w2:=Ext.step bxx hx2
      obtain⟨_,⟨_,_,_⟩,⟨_,_,_⟩,_,_,_⟩:=keepK3 hx2 w.heap.size
      go_wp2
      refine bodyPost_ret (v:=.tuple #[.agg #[.bool false,.slice none 0 0],.bool false]) (by simp only[results,Tryz.results82];go_simp) rfl ?_
      exact NO.out (.inr rb) _ bxx
    | true =>
      rw[rb] at RB
      have hP:gcdP a b=(ofZ (Nat.gcd (val a.d) (val b.d)),true):=by unfold gcdP;rw[ra,rb];rfl
      have MG:=Lib.hid (fun o (h:val o=Nat.gcd (val a.d) (val b.d))=>made_gcd ha.2.2.dig hb.2.2.dig ra rb h)
      have TA:=(a.right_iff.1 ra).2.1
      have TB:=(b.right_iff.1 rb).2.1
      have L64:a.d.length<=64:=(a.right_iff.1 ra).1
      have B64:b.d.length<=64:=(b.right_iff.1 rb).1
      have HA:=Lib.hid ha
      have HB:=Lib.hid hb
      have HP:=Lib.hid hP
      clear hP ha hb NO ra rb
      go_enter Tryz.func82,Tryz.ntmps82
      go_wp2_with fail
      refine (RA.out _ bxx).mono ?_
      rintro e w1 ⟨rfl,hx⟩
      have hx0:Ext w w1:=Ext.step bxx hx
      obtain⟨_,⟨_,_,_⟩,⟨_,_,_⟩,_,_,_⟩:=keepK3 hx w.heap.size
      go_wp2_with fail
      refine (RB.out _ bxx).mono ?_
      rintro e w2 ⟨rfl,hx2⟩
      have hx1:Ext w w2:=Ext.step bxx hx2
      obtain⟨_,⟨_,_,_⟩,⟨_,_,_⟩,_,_,_⟩:=keepK3 hx2 w.heap.size
      have hla0:=HA.out.2.1
      have hlb0:=HB.out.2.1
      by_cases h1:la=0
      . have hd : a.d = [] := List.eq_nil_of_length_eq_zero (by omega)
        have e0:((la:Int)==0)=true:=by rw[beq_iff_eq];omega
        clear hla0 hlb0
        have MK:=r01_made false b.d pb lb cb w2 (HB.out.2.2.ext hx1) HB.out.2.1
        rw[MG.out b.d (by rw[hd];exact (Nat.gcd_zero_left _).symm)] at MK
        have MKH:=Lib.hid MK
        clear MK MG TA TB L64 B64
        go_wp2_with fail
        refine MKH.out.mono ?_
        rintro e w5 ⟨n5,p5,l5,c5,rfl,hn5,hnew5,hx6⟩
        have hx7:Ext w w5:=Ext.step hx1 hx6
        obtain⟨_,⟨_,_,_⟩,⟨_,_,_⟩,_,_,_⟩:=keepK3 hx6 w.heap.size
        go_wp2
        refine bodyPost_ret (v:=.tuple #[.agg #[.bool n5,.slice p5 l5 c5],.bool true]) (by simp only[results,Tryz.results82];go_simp) rfl ?_
        rw[HP.out]
        exact⟨n5,p5,l5,c5,rfl,(by repeat (first|assumption|refine NR.set ?_ (by assumption) _ (by first|(simp;done)|(simp;omega)|omega) _|refine NR.alloc ?_ _)),hnew5.mono hx1.size,bxx⟩
      have e0:((la:Int)==0)=false:=by rw[beq_eq_false_iff_ne];omega
      by_cases h2:lb=0
      . have hd : b.d = [] := List.eq_nil_of_length_eq_zero (by omega)
        have e1:((lb:Int)==0)=true:=by rw[beq_iff_eq];omega
        clear hla0 hlb0
        have MK:=r01_made false a.d pa la ca w2 (HA.out.2.2.ext hx1) HA.out.2.1
        rw[MG.out a.d (by rw[hd];exact (Nat.gcd_zero_right _).symm)] at MK
        have MKH:=Lib.hid MK
        clear MK MG TA TB L64 B64
        go_wp2_with fail
        refine MKH.out.mono ?_
        rintro e w5 ⟨n5,p5,l5,c5,rfl,hn5,hnew5,hx6⟩
        have hx7:Ext w w5:=Ext.step hx1 hx6
        obtain⟨_,⟨_,_,_⟩,⟨_,_,_⟩,_,_,_⟩:=keepK3 hx6 w.heap.size
        go_wp2
        refine bodyPost_ret (v:=.tuple #[.agg #[.bool n5,.slice p5 l5 c5],.bool true]) (by simp only[results,Tryz.results82];go_simp) rfl ?_
        rw[HP.out]
        exact⟨n5,p5,l5,c5,rfl,(by repeat (first|assumption|refine NR.set ?_ (by assumption) _ (by first|(simp;done)|(simp;omega)|omega) _|refine NR.alloc ?_ _)),hnew5.mono hx1.size,bxx⟩
      have e1:((lb:Int)==0)=false:=by rw[beq_eq_false_iff_ne];omega
      have VA:=tight_pos TA (by omega)
      have VB:=tight_pos TB (by omega)
      have VAH:=Lib.hid VA
      have LTA:=Lib.hid (Nat.lt_of_lt_of_le (val_lt HA.out.2.2.dig) (Nat.pow_le_pow_right (show 0<4294967296 by omega) L64))
      clear hla0 hlb0
      go_wp2_with fail
      go_loopw [6,7,8] (fun xs ys k wr=>∃(dx dy:List Nat) (px py:Option Addr) (cx cy t:Nat),xs=.slice px dx.length cx/\ys=.slice py dy.length cy/\k=.int .i64 (t:Int)/\Row wr px cx dx/\Row wr py cy dy/\Tight dx/\Tight dy/\dx.length<=64/\dy.length<=64/\TwoInv (val a.d) (val b.d) (val dx) (val dy) t/\Ext w2 wr) (fun xs _ _ wr=>rowVal wr xs)
      case atStart =>
        refine⟨a.d,b.d,pa,pb,ca,cb,0,?_,?_,rfl,HA.out.2.2.ext hx1,HB.out.2.2.ext hx1,TA,TB,L64,B64,two_start VA VB,Below.refl _ _⟩
        . rw[HA.out.2.1]
        . rw[HB.out.2.1]
      case round =>
        clear VA VB
        obtain⟨dx,dy,px,py,cx,cy,t,rfl,rfl,rfl,hrx,hry,tx,ty,lx,ly,hinv,hxr⟩:=hrel
        have hpx:0<dx.length:=by
          rcases Nat.eq_zero_or_pos dx.length with h|h
          . have:=hinv.2.1;rw[List.eq_nil_of_length_eq_zero h] at this;simp[val] at this
          . exact h
        have hpy:0<dy.length:=by
          rcases Nat.eq_zero_or_pos dy.length with h|h
          . have:=hinv.2.2.1;rw[List.eq_nil_of_length_eq_zero h] at this;simp[val] at this
          . exact h
        obtain⟨bx,ox,rfl,hbx,hcx⟩:=hrx.at hpx
        obtain⟨by',oy,rfl,hby,hcy⟩:=hry.at hpy
        have hc0:=hcx 0 hpx
        have hc1:=hcy 0 hpy
        have ex:=val_even dx
        have ey:=val_even dy
        obtain⟨x0,X0⟩:∃x,Hid (dx[0]?.getD 0=x):=⟨dx[0]?.getD 0,Lib.hid rfl⟩
        obtain⟨y0,Y0⟩:∃x,Hid (dy[0]?.getD 0=x):=⟨dy[0]?.getD 0,Lib.hid rfl⟩
        rw[X0.out] at hc0 ex
        rw[Y0.out] at hc1 ey
        rw[Nat.add_zero] at hc0 hc1
        have mx:=hrx.max
        have my:=hry.max
        have RX:=Lib.hid hrx
        have RY:=Lib.hid hry
        have INV:=Lib.hid hinv
        have TX:=Lib.hid tx
        have TY:=Lib.hid ty
        have EX:=Lib.hid ex
        have EY:=Lib.hid ey
        have RV:=Lib.hid (rowVal_eq hrx)
        clear hcx hcy hrx hry hinv tx ty TA TB ex ey
        by_cases hev:x0%2=0/\y0%2=0
        . have f0 : ((x0 : Int) % 2 == 0) = true := by rw [beq_iff_eq]; omega
          have f1:((y0:Int)%2==0)=true:=by rw[beq_iff_eq];omega
          go_wp2_with fail
          have HLX:=Lib.hid (r01_half dx (some ⟨bx,ox,none⟩) dx.length cx wr RX.out rfl hpx (by omega))
          refine HLX.out.mono ?_
          rintro e w4 ⟨p4,c4,rfl,hr4,hnew4,hx4⟩
          have HLY:=Lib.hid (r01_half dy (some ⟨by',oy,none⟩) dy.length cy w4 (RY.out.ext hx4) rfl hpy (by omega))
          have X4:=Lib.hid hx4
          have R4:=Lib.hid hr4
          clear hr4 hnew4 hx4
          go_wp2_with fail
          refine HLY.out.mono ?_
          rintro e w5 ⟨p5,c5,rfl,hr5,hnew5,hx5⟩
          have X5:=Lib.hid hx5
          have R5:=Lib.hid hr5
          clear hr5 hnew5 hx5
          have ht:t<2048:=two_small INV.out LTA.out
          go_wp2
          have S:=two_step INV.out (EX.out.trans hev.1) (EY.out.trans hev.2)
          refine⟨⟨digs (val dx/2),digs (val dy/2),p4,p5,c4,c5,t+1,rfl,rfl,rfl,R4.out.ext X5.out,R5.out,tight_digs _,tight_digs _,?_,?_,by rw[val_digs,val_digs];exact S,(Ext.step hxr X4.out).trans (X5.out.mono (Nat.le_trans hxr.size X4.out.size))⟩,?_⟩
          . exact Nat.le_trans (digs_le RX.out.dig TX.out (by omega)) lx
          . exact Nat.le_trans (digs_le RY.out.dig TY.out (by omega)) ly
          . rw [rowVal_eq (R4.out.ext X5.out), val_digs, RV.out]
            have:=INV.out.2.1
            omega
        . have GI : Hid (GInv (Nat.gcd (val dx) (val dy)) (val dx) (val dy)) := ⟨rfl, INV.out.2.2.1, by have := EX.out; have := EY.out; omega⟩
          by_cases hxe:x0%2=0
          all_goals
            first
              | (have f0 : ((x0 : Int) % 2 == 0) = true := (by rw [beq_iff_eq]; omega)
                 have f1:((y0:Int)%2==0)=false:=(by rw[beq_eq_false_iff_ne];omega))
              | have f0:((x0:Int)%2==0)=false:=(by rw[beq_eq_false_iff_ne];omega)
            rename World=>w9
            go_wp2_with fail
            go_loopw [6,7] (fun xs ys wr'=>∃(ex ey:List Nat) (px py:Option Addr) (cx cy:Nat),xs=.slice px ex.length cx/\ys=.slice py ey.length cy/\Row wr' px cx ex/\Row wr' py cy ey/\Tight ex/\Tight ey/\ex.length<=64/\ey.length<=64/\GInv (Nat.gcd (val dx) (val dy)) (val ex) (val ey)/\Ext w9 wr') (fun xs ys wr'=>rowVal wr' xs+rowVal wr' ys)
            case atStart=>exact⟨dx,dy,_,_,cx,cy,rfl,rfl,RX.out,RY.out,TX.out,TY.out,lx,ly,GI.out,Below.refl _ _⟩
            case round =>
              obtain⟨ex,ey,px',py',cx',cy',rfl,rfl,hrx,hry,tx,ty,lx',ly',hg,hxr'⟩:=hrel
              rename World=>w8
              obtain⟨gg,HGG⟩:∃g,Hid (Nat.gcd (val dx) (val dy)=g):=⟨_,rfl⟩
              rw[HGG.out] at hg ⊢
              by_cases hz:ex.length=0
              . obtain rfl : ex = [] := List.eq_nil_of_length_eq_zero hz
                simp only[List.length_nil]
                have hyg:val ey=gg:=g_end hg
                have TG:=Lib.hid (show 2 ^ t*gg=Nat.gcd (val a.d) (val b.d) by rw[<- HGG.out];exact INV.out.1)
                have ht:t<2048:=two_small INV.out LTA.out
                have HXR':=Lib.hid (Ext.step hxr hxr')
                have REY:=Lib.hid hry
                have TEY:=Lib.hid ty
                have LG:=Lib.hid (show ∀k,k<=t->2 ^ k*gg<=val a.d from fun k hk=>Nat.le_trans (Nat.mul_le_mul_right _ (Nat.pow_le_pow_right (by decide) hk)) (by rw[TG.out];exact Nat.gcd_le_left _ VAH.out))
                clear hry hg hrx tx ty hxr'
                go_wp2_with fail
                go_loopw [7,9] (fun ys ks wr2=>∃(d:List Nat) (p:Option Addr) (c k:Nat),ys=.slice p d.length c/\ks=.int .i64 (k:Int)/\k<=t/\Row wr2 p c d/\Tight d/\val d=2 ^ k*gg/\Ext w2 wr2) (fun _ ks _=>t-(intOf ks).toNat)
                case atStart=>exact⟨ey,_,cy',0,rfl,rfl,Nat.zero_le _,REY.out,TEY.out,by rw[hyg,Nat.pow_zero,Nat.one_mul],HXR'.out⟩
                case round =>
                  obtain⟨d,p,c,k,rfl,rfl,hkt,hr,td,hv,hx2⟩:=hrel
                  rename World=>w7
                  have hdl:d.length<=64:=Nat.le_trans (tight_len HA.out.2.2.dig td (by rw[hv];exact LG.out k hkt)) L64
                  have RD:=Lib.hid hr
                  have HV:=Lib.hid hv
                  have HX2:=Lib.hid hx2
                  clear hr td hv hx2
                  by_cases hk:k<t
                  . have PL := Lib.hid (r01_plus d d p p d.length c d.length c w7 RD.out RD.out rfl rfl (by omega) (by omega))
                    go_wp2_with fail
                    refine PL.out.mono ?_
                    rintro e w6 ⟨p6,c6,rfl,hr6,hnew6,hx6⟩
                    have R6:=Lib.hid hr6
                    have X6:=Lib.hid hx6
                    clear hr6 hnew6 hx6
                    have KT:=Lib.hid (show k+1<=t from hk)
                    have hkb:k<2048:=by omega
                    clear hk hkt
                    go_wp2
                    have:=KT.out
                    exact⟨⟨_,p6,c6,k+1,rfl,rfl,KT.out,R6.out,tight_digs _,by rw[val_digs,HV.out,Nat.pow_succ,Nat.mul_right_comm,Nat.mul_two],Ext.step HX2.out X6.out⟩,by simp[intOf];omega⟩
                  . have hke : k = t := by omega
                    have MK:=r01_made false d p d.length c w7 RD.out rfl
                    rw[MG.out d (by rw[HV.out,hke,TG.out])] at MK
                    have MKH:=Lib.hid MK
                    have hx5:Ext w w7:=Ext.step hx1 HX2.out
                    have hx2w:=HX2.out
                    obtain⟨_,⟨_,_,_⟩,⟨_,_,_⟩,_,_,_⟩:=keepK3 hx2w w.heap.size
                    clear MK
                    go_wp2_with fail
                    refine MKH.out.mono ?_
                    rintro e w5 ⟨n5,p5,l5,c5,rfl,hn5,hnew5,hx6⟩
                    have hx7:Ext w w5:=Ext.step hx5 hx6
                    obtain⟨_,⟨_,_,_⟩,⟨_,_,_⟩,_,_,_⟩:=keepK3 hx6 w.heap.size
                    go_wp2
                    refine bodyPost_ret (v:=.tuple #[.agg #[.bool n5,.slice p5 l5 c5],.bool true]) (by simp only[results,Tryz.results82];go_simp) rfl ?_
                    rw[HP.out]
                    exact⟨n5,p5,l5,c5,rfl,(by repeat (first|assumption|refine NR.set ?_ (by assumption) _ (by first|(simp;done)|(simp;omega)|omega) _|refine NR.alloc ?_ _)),hnew5.mono hx5.size,bxx⟩
              . have hex : 0 < ex.length := by omega
                have VX:=tight_pos tx hex
                have TEY:=Lib.hid ty
                have REY:=Lib.hid hry
                have REX:=Lib.hid hrx
                have TEX:=Lib.hid tx
                have VXH:=Lib.hid VX
                have HG:=Lib.hid hg
                have HXR':=Lib.hid hxr'
                clear hry hg hrx tx ty hxr' VX
                go_wp2_with fail
                go_loopw [6] (fun xs wr2=>∃(d:List Nat) (p:Option Addr) (c:Nat),xs=.slice p d.length c/\Row wr2 p c d/\Tight d/\d.length<=64/\0<val d/\val d<=val ex/\GInv gg (val d) (val ey)/\Ext w8 wr2) (fun xs wr2=>rowVal wr2 xs)
                case atStart=>exact⟨ex,_,cx',rfl,REX.out,TEX.out,lx',VXH.out,Nat.le_refl _,HG.out,Below.refl _ _⟩
                case round =>
                  obtain⟨d,p,c,rfl,hr,td,ld,vd,le,hg2,hx2⟩:=hrel
                  rename World=>w7
                  have hpd:0<d.length:=by
                    rcases Nat.eq_zero_or_pos d.length with h|h
                    . rw[List.eq_nil_of_length_eq_zero h] at vd;simp[val] at vd
                    . exact h
                  obtain⟨bd,od,rfl,hbd,hcd⟩:=hr.at hpd
                  have hd0:=hcd 0 hpd
                  have ed:=val_even d
                  obtain⟨d0,D0⟩:∃x,Hid (d[0]?.getD 0=x):=⟨d[0]?.getD 0,Lib.hid rfl⟩
                  rw[D0.out] at hd0 ed
                  rw[Nat.add_zero] at hd0
                  have md:=hr.max
                  have RD:=Lib.hid hr
                  have TD:=Lib.hid td
                  have ED:=Lib.hid ed
                  have VD:=Lib.hid vd
                  have G2:=Lib.hid hg2
                  have HX2:=Lib.hid hx2
                  have RVD:=Lib.hid (rowVal_eq hr)
                  clear hcd hr td ed vd hg2 hx2
                  by_cases hev2:d0%2=0
                  . have f2 : ((d0 : Int) % 2 == 0) = true := by rw [beq_iff_eq]; omega
                    have HLD:=Lib.hid (r01_half d (some ⟨bd,od,none⟩) d.length c w7 RD.out rfl hpd (by omega))
                    go_wp2_with fail
                    refine HLD.out.mono ?_
                    rintro e w6 ⟨p6,c6,rfl,hr6,hnew6,hx6⟩
                    have R6:=Lib.hid hr6
                    have X6:=Lib.hid hx6
                    clear hr6 hnew6 hx6
                    go_wp2
                    have hvd:=VD.out
                    have hed:=ED.out
                    refine⟨⟨digs (val d/2),p6,c6,rfl,R6.out,tight_digs _,Nat.le_trans (digs_le RD.out.dig TD.out (by omega)) ld,by rw[val_digs];omega,by rw[val_digs];omega,by rw[val_digs];exact g_left G2.out (ED.out.trans hev2),Ext.step HX2.out X6.out⟩,?_⟩
                    rw[rowVal_eq R6.out,val_digs,RVD.out]
                    omega
                  . have f2 : ((d0 : Int) % 2 == 0) = false := by rw [beq_eq_false_iff_ne]; omega
                    have REY2:=Lib.hid (REY.out.ext HX2.out)
                    go_wp2_with fail
                    go_loopw [7] (fun ys wr2=>∃(f:List Nat) (p:Option Addr) (c:Nat),ys=.slice p f.length c/\Row wr2 p c f/\Tight f/\f.length<=64/\0<val f/\val f<=val ey/\GInv gg (val d) (val f)/\Ext w7 wr2) (fun ys wr2=>rowVal wr2 ys)
                    case atStart=>exact⟨ey,_,cy',rfl,REY2.out,TEY.out,ly',HG.out.2.1,Nat.le_refl _,G2.out,Below.refl _ _⟩
                    case round =>
                      obtain⟨f,p,cf,rfl,hr,tf,lf,vf,lef,hg3,hx3⟩:=hrel
                      rename World=>w6
                      have hpf:0<f.length:=by
                        rcases Nat.eq_zero_or_pos f.length with h|h
                        . rw[List.eq_nil_of_length_eq_zero h] at vf;simp[val] at vf
                        . exact h
                      obtain⟨bf,of',rfl,hbf,hcf⟩:=hr.at hpf
                      have hf0:=hcf 0 hpf
                      have ef:=val_even f
                      obtain⟨g0,D1⟩:∃x,Hid (f[0]?.getD 0=x):=⟨f[0]?.getD 0,Lib.hid rfl⟩
                      rw[D1.out] at hf0 ef
                      rw[Nat.add_zero] at hf0
                      have mf:=hr.max
                      have RF:=Lib.hid hr
                      have TF:=Lib.hid tf
                      have EF:=Lib.hid ef
                      have VF:=Lib.hid vf
                      have G3:=Lib.hid hg3
                      have HX3:=Lib.hid hx3
                      have RVF:=Lib.hid (rowVal_eq hr)
                      clear hcf hr tf ef vf hg3 hx3
                      by_cases hev3:g0%2=0
                      . have f3 : ((g0 : Int) % 2 == 0) = true := by rw [beq_iff_eq]; omega
                        have HLF:=Lib.hid (r01_half f (some ⟨bf,of',none⟩) f.length cf w6 RF.out rfl hpf (by omega))
                        go_wp2_with fail
                        refine HLF.out.mono ?_
                        rintro e w5 ⟨p5,c5,rfl,hr5,hnew5,hx5⟩
                        have R5:=Lib.hid hr5
                        have X5:=Lib.hid hx5
                        clear hr5 hnew5 hx5
                        go_wp2
                        have hvf:=VF.out
                        have hef:=EF.out
                        refine⟨⟨digs (val f/2),p5,c5,rfl,R5.out,tight_digs _,Nat.le_trans (digs_le RF.out.dig TF.out (by omega)) lf,by rw[val_digs];omega,by rw[val_digs];omega,by rw[val_digs];exact g_right G3.out (by have:=ED.out;omega) (EF.out.trans hev3),Ext.step HX3.out X5.out⟩,?_⟩
                        rw[rowVal_eq R5.out,val_digs,RVF.out]
                        omega
                      . have f3 : ((g0 : Int) % 2 == 0) = false := by rw [beq_eq_false_iff_ne]; omega
                        have hod1:val d%2=1:=by have:=ED.out;omega
                        have hod2:val f%2=1:=by have:=EF.out;omega
                        have CPR:=Lib.hid (r01_compare d f (some ⟨bd,od,none⟩) (some ⟨bf,of',none⟩) d.length c f.length cf w6 (RD.out.ext HX3.out) RF.out rfl rfl)
                        have CN:=cmpL_neg RD.out.dig RF.out.dig TD.out TF.out
                        obtain⟨cc,C⟩:∃x,Hid (cmpL d f=x):=⟨cmpL d f,Lib.hid rfl⟩
                        rw[C.out] at CPR CN
                        by_cases hlt:val d<val f
                        . have D1 : decide (cc < 0) = true := by rw [decide_eq_true_eq]; exact CN.2 hlt
                          have hle:=Nat.le_of_lt hlt
                          clear CN
                          go_wp2_with fail
                          refine CPR.out.mono ?_
                          rintro e w5 ⟨rfl,hx5⟩
                          have X5:=Lib.hid hx5
                          clear hx5
                          have MN:=Lib.hid (r01_minus f d (some ⟨bf,of',none⟩) (some ⟨bd,od,none⟩) f.length cf d.length c w5 (RF.out.ext X5.out) (RD.out.ext (HX3.out.trans (X5.out.mono HX3.out.size))) rfl rfl (by omega) (tight_len (RF.out.ext X5.out).dig TD.out hle) hle)
                          go_wp2_with fail
                          refine MN.out.mono ?_
                          rintro e w4 ⟨p4,c4,rfl,hr4,hnew4,hx4⟩
                          have R4:=Lib.hid hr4
                          have X4:=Lib.hid hx4
                          clear hr4 hnew4 hx4
                          go_wp2
                          have hvf:=VF.out
                          have hvd:=VD.out
                          have hve:=VXH.out
                          refine⟨⟨digs (val f-val d),d,p4,_,c4,c,rfl,rfl,R4.out,(RD.out.ext (HX3.out.trans (X5.out.mono HX3.out.size))).ext X4.out,tight_digs _,TD.out,Nat.le_trans (digs_le (RF.out.ext X5.out).dig TF.out (by omega)) lf,ld,by rw[val_digs];exact g_minus (g_swap G3.out VD.out) hod2 hod1 hle,Ext.step (Ext.step (Ext.step (Ext.step HXR'.out HX2.out) HX3.out) X5.out) X4.out⟩,?_⟩
                          rw[rowVal_eq R4.out,rowVal_eq ((RD.out.ext (HX3.out.trans (X5.out.mono HX3.out.size))).ext X4.out),rowVal_eq REX.out,rowVal_eq REY.out,val_digs]
                          omega
                        . have D1 : decide (cc < 0) = false := by rw [decide_eq_false_iff_not, CN]; exact hlt
                          have hle:=Nat.le_of_not_lt hlt
                          clear CN
                          go_wp2_with fail
                          refine CPR.out.mono ?_
                          rintro e w5 ⟨rfl,hx5⟩
                          have X5:=Lib.hid hx5
                          clear hx5
                          have MN:=Lib.hid (r01_minus d f (some ⟨bd,od,none⟩) (some ⟨bf,of',none⟩) d.length c f.length cf w5 (RD.out.ext (HX3.out.trans (X5.out.mono HX3.out.size))) (RF.out.ext X5.out) rfl rfl (by omega) (tight_len (RD.out.ext (HX3.out.trans (X5.out.mono HX3.out.size))).dig TF.out hle) hle)
                          go_wp2_with fail
                          refine MN.out.mono ?_
                          rintro e w4 ⟨p4,c4,rfl,hr4,hnew4,hx4⟩
                          have R4:=Lib.hid hr4
                          have X4:=Lib.hid hx4
                          clear hr4 hnew4 hx4
                          go_wp2
                          have hvf:=VF.out
                          have hvd:=VD.out
                          have hve:=VXH.out
                          refine⟨⟨digs (val d-val f),f,p4,_,c4,cf,rfl,rfl,R4.out,(RF.out.ext X5.out).ext X4.out,tight_digs _,TF.out,Nat.le_trans (digs_le (RD.out.ext (HX3.out.trans (X5.out.mono HX3.out.size))).dig TD.out (by omega)) ld,lf,by rw[val_digs];exact g_minus G3.out hod1 hod2 hle,Ext.step (Ext.step (Ext.step (Ext.step HXR'.out HX2.out) HX3.out) X5.out) X4.out⟩,?_⟩
                          rw[rowVal_eq R4.out,rowVal_eq ((RF.out.ext X5.out).ext X4.out),rowVal_eq REX.out,rowVal_eq REY.out,val_digs]
                          omega
end

set_option maxHeartbeats 1000000
set_option maxRecDepth 100000
section
def sameB(a b:Nm):Bool:=a.neg==b.neg&&cmpL a.d b.d==0
theorem r01_Same(a b:Nm)(na nb:Bool)(pa pb:Option Addr)(la ca lb cb:Nat)(w:World)(ha:NR w na pa la ca a)(hb:NR w nb pb lb cb b) :
  Calls Tryz.prog 45 #[.agg #[.bool na,.slice pa la ca],.agg #[.bool nb,.slice pb lb cb]] w fun e w'=>e=.returned (.bool (sameB a b))/\Ext w w':=by
 have CP:=Lib.hid (fun w' (hx:Ext w w')=>r01_compare a.d b.d pa pb la ca lb cb w' (ha.2.2.ext hx) (hb.2.2.ext hx) ha.2.1 hb.2.1)
 have hna:=ha.1
 have hnb:=hb.1
 unfold sameB
 obtain⟨c,C⟩:∃c,Hid (cmpL a.d b.d=c):=⟨_,rfl⟩
 rw[C.out] at CP ⊢
 rw[<- hna,<- hnb]
 clear hna hnb ha hb
 by_cases h:na=nb
 ·subst h
  have e0:(na==na)=true:=by simp
  go_enter Tryz.func45,Tryz.ntmps45
  go_wp2_with fail
  refine (CP.out _ bxx).mono ?_
  rintro e w1 ⟨rfl,hx⟩
  have hx0:Ext w w1:=Ext.step bxx hx
  go_wp2
  go_ret
  exact⟨by simp,hx0⟩
 ·have e0 : (na == nb) = false := by simpa using h
  go_enter Tryz.func45,Tryz.ntmps45
  go_wp2
  go_ret
  exact⟨by rw[e0];rfl,bxx⟩
end

set_option maxRecDepth 100000
section
def d01Right:Con:=nRightC 79 fun a _ _ _ _ w h=>r01_Right a _ _ _ _ w h
def d01Cmp:Con:=nCmpC 80 fun a b _ _ _ _ _ _ _ _ w h1 h2=>r01_Cmp a b _ _ _ _ _ _ _ _ w h1 h2
def d01Of:Con:=nOfC 47 fun z w h1 h2=>r01_Of z w h1 h2
def d01Gcd:Con:=nBinC 82 gcdP (fun _ _=>[]) fun a b _ _ _ _ _ _ _ _ w _ h1 h2=>r01_Gcd a b _ _ _ _ _ _ _ _ w h1 h2
def d01Div:Con:=nDivC 83 fun a b _ _ _ _ _ _ _ _ w h1 h2=>r01_Div a b _ _ _ _ _ _ _ _ w h1 h2
def K2O:List Con:=[d01Right,d01Cmp,d01Of,d01Gcd,d01Div]
theorem neg_iff{a:Nm}(h:a.right=true):a.neg=decide (a.z<0):=by
 obtain⟨_,ht,h0⟩:=a.right_iff.1 h
 rw[Bool.eq_iff_iff,decide_eq_true_iff]
 constructor
 ·intro hn
  have hne:a.d ≠ []:=fun e=>by rw[h0 e] at hn;cases hn
  have:=tight_pos ht (List.length_pos_iff.2 hne)
  unfold Nm.z
  rw[hn,if_pos rfl]
  omega
 ·intro hz
  unfold Nm.z at hz
  split at hz
  ·assumption
  ·omega
theorem lz:ofZ 0=zero:=lit_0
theorem cmp0{a:Nm}(h:a.right=true):cmpP a (ofZ 0)=sgn a.z:=by
 rw[lz]
 exact cmpP_zero h
theorem g01:(gcdP (ofZ 0) (ofZ 1)).1=ofZ 1:=by
 rw[lz,gcdP_right zero_right0 one_right,val_one_ofZ]
 rfl
theorem d01:(divP (ofZ 0) (gcdP (ofZ 0) (ofZ 1)).1).1=zero/\(divP (ofZ 1) (gcdP (ofZ 0) (ofZ 1)).1).1=ofZ 1:=by
 have h1:=divP_nm (a:=zero) (g:=1) zero_right0 small_one (by decide)
 have h2:=divP_nm (a:=ofZ 1) (g:=1) one_right small_one (by decide)
 rw[show ((1:Nat):Int)=1 from rfl] at h1 h2
 rw[g01,lz,h1,h2,zero_z,ofZ_z]
 exact⟨lz,rfl⟩
theorem len8{x:Nm}{y:Nm}(h:x=y)(h8:y.d.length<=8):decide ((x.d.length:Int)>8)=false:=by
 subst h
 simp only[decide_eq_false_iff_not]
 omega
theorem gt8{l:List Nat}(b:Bool)(h:decide (8<l.length)=b):decide ((l.length:Int)>8)=b:=by
 rw[<- h,decide_eq_decide]
 omega
theorem r2Of_fok(add s:Int)(n d:Nm)(dd:Dig d.d):Fok Tryz.prog 46 [inV add lim,inV s lim,nmV n,nmV d] (rtA (ofP add s n d)):=by
 cases h1:decide (s < -1) with
 | true =>
  rw[ofP_bad (by rw[bad_iff,h1];rfl)]
  exact fok K2O [true] [pT h1] (by kernel_rfl)
 | false =>
 cases h2:decide (s>1) with
 | true =>
  rw[ofP_bad (by rw[bad_iff,h1,h2];rfl)]
  exact fok K2O [false,true] [pF h1,pT h2] (by kernel_rfl)
 | false =>
 cases h3:n.right with
 | false =>
  rw[ofP_bad (by rw[bad_iff,h1,h2,h3];rfl)]
  exact fok K2O [false,false,true] [pF h1,pF h2,pT (nt_T h3)] (by kernel_rfl)
 | true =>
 cases h4:d.right with
 | false =>
  rw[ofP_bad (by rw[bad_iff,h1,h2,h3,h4];rfl)]
  exact fok K2O [false,false,false,true] [pF h1,pF h2,pF (nt_F h3),pT (nt_T h4)] (by kernel_rfl)
 | true =>
 have e5:decide (cmpP n (ofZ 0)<0)=n.neg:=by
  rw[cmp0 h3,neg_iff h3,decide_eq_decide]
  rcases sgn_cases n.z with⟨h,g⟩|⟨h,g⟩|⟨h,g⟩<;>omega
 cases h5:n.neg with
 | true =>
  rw[ofP_bad (by rw[bad_iff,h1,h2,h3,h4,h5];rfl)]
  exact fok K2O [false,false,false,false,true] [pF h1,pF h2,pF (nt_F h3),pF (nt_F h4),pT (e5.trans h5)] (by kernel_rfl)
 | false =>
 have e6:decide (cmpP d (ofZ 0)<=0)=decide (d.z<=0):=by rw[cmp0 h4];exact sgn_le _ rfl
 cases h6:decide (d.z<=0) with
 | true =>
  rw[ofP_bad (by rw[bad_iff,h1,h2,h3,h4,h5,h6];rfl)]
  exact fok K2O [false,false,false,false,false,true] [pF h1,pF h2,pF (nt_F h3),pF (nt_F h4),pF (e5.trans h5),pT (e6.trans h6)] (by kernel_rfl)
 | false =>
 have hb:ofBad s n d=false:=by rw[bad_iff,h1,h2,h3,h4,h5,h6];rfl
 have z1:=len8 d01.1 (Nat.zero_le 8)
 have z2:=len8 d01.2 (by rw[ofZ_one_len];decide)
 cases h7:(s==0) with
 | true =>
  rw[ofP_zero hb (.inl (by simpa using h7)),<- d01.1,<- d01.2]
  exact fok K2O [false,false,false,false,false,false,true,false,false] [pF h1,pF h2,pF (nt_F h3),pF (nt_F h4),pF (e5.trans h5),pF (e6.trans h6),pT h7,pF z1,pF z2] (by kernel_rfl)
 | false =>
 have e8:(cmpP n (ofZ 0)==0)=(n.z==0):=by rw[cmp0 h3];exact sgn_z _ rfl
 cases h8:(n.z==0) with
 | true =>
  rw[ofP_zero hb (.inr (by simpa using h8)),<- d01.1,<- d01.2]
  exact fok K2O [false,false,false,false,false,false,false,true,false,false] [pF h1,pF h2,pF (nt_F h3),pF (nt_F h4),pF (e5.trans h5),pF (e6.trans h6),pF h7,pT (e8.trans h8),pF z1,pF z2] (by kernel_rfl)
 | false =>
 rw[ofP_div dd hb (fun h=>h.elim (fun h=>by rw[h] at h7;cases h7) (fun h=>by rw[h] at h8;cases h8))]
 cases h9:decide (8<(divP n (gcdP n d).1).1.d.length) with
 | true =>
  rw[if_pos (by have:=of_decide_eq_true h9;omega)]
  exact fok K2O [false,false,false,false,false,false,false,false,true] [pF h1,pF h2,pF (nt_F h3),pF (nt_F h4),pF (e5.trans h5),pF (e6.trans h6),pF h7,pF (e8.trans h8),pT (gt8 _ h9)] (by kernel_rfl)
 | false =>
 cases h10:decide (8<(divP d (gcdP n d).1).1.d.length) with
 | true =>
  rw[if_pos (by have:=of_decide_eq_true h10;omega)]
  exact fok K2O [false,false,false,false,false,false,false,false,false,true] [pF h1,pF h2,pF (nt_F h3),pF (nt_F h4),pF (e5.trans h5),pF (e6.trans h6),pF h7,pF (e8.trans h8),pF (gt8 _ h9),pT (gt8 _ h10)] (by kernel_rfl)
 | false =>
  rw[if_neg (by have:=of_decide_eq_false h9;have:=of_decide_eq_false h10;omega)]
  exact fok K2O [false,false,false,false,false,false,false,false,false,false] [pF h1,pF h2,pF (nt_F h3),pF (nt_F h4),pF (e5.trans h5),pF (e6.trans h6),pF h7,pF (e8.trans h8),pF (gt8 _ h9),pF (gt8 _ h10)] (by kernel_rfl)
def d02Of:Con:=ofC 46 r2Of_fok
def sameR(a b:Rt):Bool:=a.add==b.add&&(a.s==b.s&&(sameB a.n b.n&&sameB a.d b.d))
def d01Same:Con where
 f:=45
 g:=fun | [⟨true,[.d (.num a)]⟩,⟨true,[.d (.num b)]⟩]=>some (.one (blV (sameB a b)),[])|_=>none
 ok:=by
  intro args res ps h _
  split at h<;>cases h
  intro W vals hv
  simp only[rvs_cons,rvs_nil,rv_t,rl_num,rl_nil] at hv
  obtain⟨_,⟨_,⟨n,p,l,c,h1,_,rfl,rfl⟩,rfl⟩,_,rfl,_,⟨_,⟨m,q,k,d,h2,_,rfl,rfl⟩,rfl⟩,_,rfl,rfl⟩:=hv
  exact (r01_Same _ _ _ _ _ _ _ _ _ _ W h1 h2).mono fun _ _ h=>gv_bl h
theorem dsame_ok(a b:Rt):Fok Tryz.prog 17 [rtV a,rtV b] (.one (blV (sameR a b))):=by
 unfold sameR
 cases h1:(a.add==b.add) with
 | false=>exact fok [d01Same] [false] [pF h1] (by kernel_rfl)
 | true =>
  cases h2:(a.s==b.s) with
  | false=>exact fok [d01Same] [true,false] [pT h1,pF h2] (by kernel_rfl)
  | true =>
   cases h3:sameB a.n b.n with
   | false=>exact fok [d01Same] [true,true,false] [pT h1,pT h2,pF h3] (by kernel_rfl)
   | true=>exact fok [d01Same] [true,true,true] [pT h1,pT h2,pT h3] (by kernel_rfl)
def d02Same:Con where
 f:=17
 g:=fun | [⟨true,[.i a _,.i s _,.d (.num n),.d (.num d)]⟩,⟨true,[.i b _,.i t _,.d (.num m),.d (.num e)]⟩]=>some (.one (blV (sameR ⟨a,s,n,d⟩ ⟨b,t,m,e⟩)),[])|_=>none
 ok:=by
  intro args res ps h hp
  split at h<;>cases h
  rename_i a A s S n d b B t T m e
  exact (dsame_ok ⟨a,s,n,d⟩ ⟨b,t,m,e⟩).pre fun W=>rvs_1 (fun _ h=>(rt_at h).1) (rvs_1 (fun _ h=>(rt_at h).1) fun _ h=>h)
end
def IsN(w0 W:World)(x:Nm)(v:Value)(w':World):Prop:=∃n p l c,v=.agg #[.bool n,.slice p l c]/\NR w' n p l c x/\New w0 p/\Ext W w'
theorem RetN.isN{w0 W:World}{x:Nm}{e:Ending}{w':World}(hz:w0.heap.size<=W.heap.size)(h:RetN W x e w'):∃v,e=.returned v/\IsN w0 W x v w':=by
 obtain⟨n,p,l,c,rfl,h1,h2,h3⟩:=h
 exact⟨_,rfl,n,p,l,c,rfl,h1,h2.mono hz,h3⟩
theorem F_num{P:Program}{ops:Array Oper}{S:World->Prop}{Q:Act->World->Prop}{o:Oper}{l:List Oper}{a:Act}{own:List Nat}{F:World->Prop}(w0:World)(x:Nm)(hk:fkind o=2)(hw:Region.wanted o (yielded ops a.tmps)=true)
  (hg:∀w,F w->Gives P o a w (IsN w0 w x))
  (h:∀n p l' c,New w0 p->WpF P ops S Q l (a.put o.dst (.agg #[.bool n,.slice p l' c])) own (fun w=>F w/\NR w n p l' c x)):WpF P ops S Q (o::l) a own F :=
 F_callN w0 x hk hw hg h

set_option maxHeartbeats 2000000
set_option maxRecDepth 100000
section
attribute [local go_sem] Gives givesU
theorem subP_small{x y:Int}(hx:small x=true)(hy:small y=true)(hs:small (x-y)=true):subP (ofZ x) (ofZ y)=(ofZ (x-y),true):=by
 unfold subP fit
 rw[ofZ_right hx,ofZ_right hy,ofZ_z,ofZ_z,hs]
 rfl
theorem mulP_small'{x y:Int}(hx:small x=true)(hy:small y=true)(hs:small (x*y)=true):mulP (ofZ x) (ofZ y)=(ofZ (x*y),true) :=
 mulP_small (ofZ_right hx) (ofZ_right hy) (by rw[ofZ_z,ofZ_z]) hs
theorem meet_of(n:Int)(w:World)(h : -9223372036854775808<=n/\n<=9223372036854775807) :
  Calls Tryz.prog 97 #[.int .i64 n] w (RetN w (ofZ n)):=by
 go_enter Tryz.func97,Tryz.ntmps97
 go_wp2_with fail
 refine (num_Of n _ h.1 h.2).mono ?_
 rintro e w1 ⟨n1,p1,l1,c1,rfl,hnr,hnew,hx⟩
 have hx0:Ext w w1:=Ext.step bxx hx
 obtain⟨_,_,_,_⟩:=keepK1 hx w.heap.size
 go_wp2_with fail
 refine bodyPost_ret (v:=.agg #[.bool n1,.slice p1 l1 c1]) (by simp[results,Tryz.results97,go_sem, *]) rfl ?_
 exact⟨n1,p1,l1,c1,rfl,(by repeat (first|assumption|refine NR.set ?_ (by assumption) _ (by first|(simp;done)|(simp;omega)|omega) _|refine NR.alloc ?_ _)),hnew.mono (by simp),bxx⟩
theorem meet_mul(x y:Int)(na nb:Bool)(pa pb:Option Addr)(la ca lb cb:Nat)(w:World)(ha:NR w na pa la ca (ofZ x))(hb:NR w nb pb lb cb (ofZ y))(hx:small x=true)(hy:small y=true)(z:Int)(hz:x*y=z)(hs:small z=true) :
  Calls Tryz.prog 99 #[.agg #[.bool na,.slice pa la ca],.agg #[.bool nb,.slice pb lb cb]] w (RetN w (ofZ z)):=by
 subst hz
 have MP:=Lib.hid (mulP_small' hx hy hs)
 clear hx hy hs
 go_enter Tryz.func99,Tryz.ntmps99
 go_wp2_with fail
 refine (num_Mul (ofZ x) (ofZ y) _ _ _ _ _ _ _ _ _ (ha.ext bxx) (hb.ext bxx)).mono ?_
 rintro e w1 ⟨n1,p1,l1,c1,rfl,hnr,hnew,hx⟩
 rw[MP.out] at hnr ⊢
 have hx0:Ext w w1:=Ext.step bxx hx
 obtain⟨_,⟨_,_,_⟩,⟨_,_,_⟩,_,_,_⟩:=keepK3 hx w.heap.size
 go_wp2_with fail
 refine bodyPost_ret (v:=.agg #[.bool n1,.slice p1 l1 c1]) (by simp[results,Tryz.results99,go_sem, *]) rfl ?_
 exact⟨n1,p1,l1,c1,rfl,(by repeat (first|assumption|refine NR.set ?_ (by assumption) _ (by first|(simp;done)|(simp;omega)|omega) _|refine NR.alloc ?_ _)),hnew.mono (by simp;omega),bxx⟩
end
end Go.Proofs.YtcfpcafnjgpfdaaGreat
