import Derived.Test.YteajakbpmeebnaaGreatH26
set_option linter.unusedVariables false
set_option linter.unusedSimpArgs false

namespace Go.Proofs.YteajakbpmeebnaaGreat
open Go.RowKit

set_option maxHeartbeats 4000000
set_option maxRecDepth 100000
section
open Go.RowKit Go.Shelf
attribute [local go_sem] Oper.semAt_some
attribute [local go_sem] Gives givesU
abbrev Dg:={ x:Nat // x<4294967296 }
def KR(B:Nat)(p:Option Addr)(n:Nat)(W W':World):Prop:=(∀o,W'.cell? ⟨B,o,none⟩=W.cell? ⟨B,o,none⟩)/\(0<n->∀a,p=some a->∀o,W'.cell? ⟨a.block,o,none⟩=W.cell? ⟨a.block,o,none⟩)
theorem down_stops(n:Nat)(hn:1<=n)(Bc c:Nat)(d:List Nat)(p:Option Addr)(w:World)(hB:Bc<w.heap.size)(c0:w.cell? ⟨Bc,0,none⟩=some (.slice p d.length c))(hr:Row w p c d) :
  SeqStopsK Fence.wide n Tryz.prog 209 #[.pointer (some ⟨Bc,0,none⟩)] (fun x:Dg=>#[.int .u32 (x.1:Int)]) (KR Bc p d.length) (fun xs=>xs.map (·.1)=d.reverse) (fun _=>True) d.length w:=fun L J Jx W hW _ _ hY h0=>by
 have k0:W.cell? ⟨Bc,0,none⟩=some (.slice p d.length c):=(hW.cell (p:=⟨Bc,0,none⟩) hB).trans c0
 have hrW:Row W p c d:=hr.ext hW
 have hma:=hr.max
 have hle:=hr.le
 clear c0 hr
 refine callsIn_of_wp Tryz.func209 rfl trivial ?_ rfl
 simp only[Tryz.ntmps209,List.size_toArray,List.length_cons,List.length_nil,Nat.reduceAdd,Nat.reduceSub,Array.replicate_succ,Array.replicate_zero,List.push_toArray,List.append_toArray,List.nil_append,List.cons_append]
 gi_wp2
 gi_loopw [3] (fun i wr=>∃(k:Nat) (pre:List Dg),i=.int .i64 ((k:Int)-1)/\pre.length+k=d.length/\pre.map (·.1)=(d.drop k).reverse/\J pre wr/\KR Bc p d.length W wr) (fun i _=>(intOf i+1).toNat)
 case atStart=>exact⟨d.length,[],rfl,by simp,by rw[List.drop_eq_nil_of_le (Nat.le_refl _)];rfl,h0,fun _=>rfl,fun _ _ _ _=>rfl⟩
 case round =>
  obtain⟨k,pre,rfl,hk,hpre,hJ,hK1,hK2⟩:=hrel
  have m0:wr.cell? ⟨Bc,0,none⟩=some (.slice p d.length c):=(hK1 0).trans k0
  cases k with
  | zero =>
   have HJ:=Lib.hid hJ
   have HP:=Lib.hid hpre
   clear hJ hpre hK1 hK2 hk
   have e:(((0:Nat):Int)-1) = -1:=by omega
   rw[e]
   clear e
   gi_wp2
   go_end0
   exact⟨⟨_,rfl⟩,.inl ⟨pre,by rw[HP.out,List.drop_zero],HJ.out⟩⟩
  | succ j =>
   have e:(((j+1:Nat):Int)-1)=(j:Int):=by omega
   rw[e]
   clear e
   obtain⟨ba,oa,rfl,hba,hca⟩:=hrW.at (by omega)
   have ca1:wr.cell? ⟨ba,oa+j,none⟩=some (.int .u32 ((d[j]?.getD 0:Nat):Int)):=(hK2 (by omega) _ rfl _).trans (hca j (by omega))
   have hxd:=hrW.dig.getD j
   rw[List.getD_eq_getElem?_getD] at hxd
   have hjd:j<d.length:=by omega
   have hdrop:d.drop j=d[j]?.getD 0::d.drop (j+1):=by rw[List.drop_eq_getElem_cons hjd,getD_eq hjd]
   obtain⟨x,X⟩:∃x,Hid (d[j]?.getD 0=x):=⟨_,rfl⟩
   rw[X.out] at ca1 hxd hdrop
   obtain⟨f1,t1,a1,b1,hy1,hR1⟩:=hY pre ⟨x,hxd⟩ wr hJ (by omega)
   dsimp only at hy1
   have HP:=Lib.hid hpre
   have HD:=Lib.hid hdrop
   have HK1:=Lib.hid hK1
   have HK2:=Lib.hid hK2
   clear hca hpre hJ hdrop hK1 hK2
   gi_wp2
   refine hR1.mono ?_
   rintro e W1 (⟨rfl,hJ1,hkk1,hkk2⟩|⟨rfl,hx1⟩)
   ·have HJ1 := Lib.hid hJ1
    have HL1:=Lib.hid hkk1
    have HL2:=Lib.hid hkk2
    clear hJ1 hkk1 hkk2
    gi_wp2
    refine⟨⟨j,pre++[⟨x,hxd⟩],rfl,by simp;omega,?_,HJ1.out,fun o=>(HL1.out o).trans (HK1.out o),fun h a ha o=>(HL2.out h a ha o).trans (HK2.out h a ha o)⟩,by simp[intOf]⟩
    rw[List.map_append,HP.out,HD.out,List.reverse_cons]
    rfl
   ·gi_wp2
    refine bodyPost_ret (results_none rfl _ _ _) rfl ?_
    exact⟨⟨_,rfl⟩,.inr ⟨_,trivial,hx1⟩⟩
theorem num_down(p:Option Addr)(l c:Nat)(w:World) :
  Calls Tryz.prog 152 #[.slice p l c] w fun e w'=>e=.returned (.func (.func 209) #[] #[.pointer (some ⟨w.heap.size,0,none⟩)])/\Ext w w'/\w'.cell? ⟨w.heap.size,0,none⟩=some (.slice p l c)/\w.heap.size<w'.heap.size:=by
 go_enter Tryz.func152,Tryz.ntmps152
 go_wp2
 go_ret
 exact⟨rfl,bxx,by go_simp,by simp⟩
theorem tight_posD{b:List Nat}(tb:Tight b)(h:0<b.length):0<val b:=by
 rcases Nat.eq_zero_or_pos (val b) with h0|h0
 ·exfalso
  rcases List.eq_nil_or_concat b with rfl|⟨c,x,rfl⟩
  ·simp at h
  ·have hx : x ≠ 0 := by have := tb (by simp); simpa using this
   rw[List.concat_eq_append,val_append,show val [x]=x from (by simp[val])] at h0
   have h1:0<4294967296 ^ c.length:=Nat.pow_pos (by omega)
   have h2:=Nat.mul_pos h1 (show 0<x by omega)
   omega
 ·exact h0
theorem wrapI{n:Int}(h1 : -9223372036854775808<=n)(h2:n<=9223372036854775807):IntKind.i64.wrap n=n:=IntWalk.i64_in _ ⟨h1,h2⟩
def intP(a:Nm):Int×Bool:=if a.right&&decide (a.d.length<=2)&&decide (-9223372036854775808<=a.z)&&decide (a.z<=9223372036854775807) then (a.z,true) else (0,false)
def RetInt(w:World)(r:Int×Bool)(e:Ending)(w':World):Prop:=e=.returned (.tuple #[.int .i64 r.1,.bool r.2])/\Ext w w'
def accD(pre:List Dg):Nat:=pre.foldl (fun m x=>m*4294967296+x.1) 0
theorem accD_snoc(pre:List Dg)(x:Dg):accD (pre++[x])=accD pre*4294967296+x.1:=by simp[accD]
theorem accD_val:∀(pre:List Dg),accD pre=val (pre.map (·.1)).reverse:=by
 intro pre
 have h:∀(l:List Dg) (m:Nat),l.foldl (fun m x=>m*4294967296+x.1) m=val (l.map (·.1)).reverse+4294967296 ^ l.length*m:=by
  intro l
  induction l with
  | nil=>intro m;simp[val]
  | cons x l ih =>
   intro m
   rw[List.foldl_cons,ih,List.map_cons,List.reverse_cons,val_append,show val [x.1]=x.1 from (by simp[val]),List.length_reverse,List.length_map,List.length_cons,Nat.pow_succ]
   rw[Nat.mul_add,Nat.mul_assoc,Nat.mul_comm m]
   omega
 rw[accD,h,Nat.mul_zero,Nat.add_zero]
theorem accD_lt(pre:List Dg):accD pre<4294967296 ^ pre.length:=by
 rw[accD_val]
 have:=val_lt (d:=(pre.map (·.1)).reverse) (by intro y hy;rw[List.mem_reverse,List.mem_map] at hy;obtain⟨z,_,rfl⟩:=hy;exact z.2)
 rwa [List.length_reverse,List.length_map] at this
theorem num_Int(a:Nm)(na:Bool)(pa:Option Addr)(la ca:Nat)(w:World)(ha:NR w na pa la ca a) :
  Calls Tryz.prog 94 #[.agg #[.bool na,.slice pa la ca]] w (RetInt w (intP a)):=by
 have RA:=Lib.hid (fun w' (hx:Ext w w')=>num_Right a na pa la ca w' (ha.ext hx))
 cases ra:a.right with
 | false =>
  rw[ra] at RA
  have hP:intP a=(0,false):=by unfold intP;rw[ra];rfl
  rw[hP]
  go_enter Tryz.func94,Tryz.ntmps94
  go_wp2_with fail
  refine (RA.out _ bxx).mono ?_
  rintro e w1 ⟨rfl,hx⟩
  have hx0:Ext w w1:=Ext.step bxx hx
  go_wp2
  go_ret2
  exact⟨rfl,hx0⟩
 | true =>
  rw[ra] at RA
  by_cases hl:2<la
  ·have hP:intP a=(0,false):=by
    have:=ha.2.1
    unfold intP;rw[if_neg];simp;intros;omega
   rw[hP]
   go_enter Tryz.func94,Tryz.ntmps94
   go_wp2_with fail
   refine (RA.out _ bxx).mono ?_
   rintro e w1 ⟨rfl,hx⟩
   have hx0:Ext w w1:=Ext.step bxx hx
   obtain⟨_,_,hk_w1_0,hf_w1_0⟩:=keepK1 hx w.heap.size
   go_wp2
   go_ret2
   exact⟨rfl,hx0⟩
  ·have dl : decide (2 < (la : Int)) = false := by rw [decide_eq_false_iff_not]; omega
   obtain rfl:la=a.d.length:=ha.2.1
   have hlen:a.d.length<=2:=by omega
   clear hl
   refine (callsIn_wide (n:=6)).1 ?_
   have RA':=Lib.hid (fun w' (hx:Ext w w')=>(callsIn_wide (n:=5)).2 (RA.out w' hx))
   have HA:=Lib.hid ha
   have HLEN:=Lib.hid hlen
   have hrow0:=ha.2.2
   clear ha RA hlen
   refine callsIn_of_wp_marks Tryz.func94 rfl trivial ?_ rfl
   simp only[Tryz.ntmps94,List.size_toArray,List.length_cons,List.length_nil,Nat.reduceAdd,Nat.reduceSub,Array.replicate_succ,Array.replicate_zero,List.push_toArray,List.append_toArray,List.nil_append,List.cons_append]
   gi_wp2
   refine⟨trivial,(RA'.out _ bxx).mono ?_⟩
   rintro e w1 ⟨rfl,hx⟩
   have hx0:Ext w w1:=Ext.step bxx hx
   obtain⟨_,_,hk_w1_0,hf_w1_0⟩:=keepK1 hx w.heap.size
   have g0:w1.cell? ⟨w.heap.size,0,none⟩=some (.bool na):=by go_simp
   have g1:w1.cell? ⟨w.heap.size,1,none⟩=some (.slice pa a.d.length ca):=by go_simp
   clear hk_w1_0 hf_w1_0
   gi_wp2
   refine⟨trivial,(callsIn_wide.2 (num_down pa a.d.length ca _)).mono ?_⟩
   rintro e w2 ⟨rfl,hx2,b0,hb⟩
   have hs2:=hx2.size
   simp at hs2 b0 hb
   have hx3:Ext w w2:=Ext.step bxx hx2
   have e0:w2.cell? ⟨w.heap.size,0,none⟩=some (.bool na):=(hx2.cell (p:=⟨w.heap.size,0,none⟩) (by simp;omega)).trans (by go_simp)
   have e1:w2.cell? ⟨w.heap.size,1,none⟩=some (.slice pa a.d.length ca):=(hx2.cell (p:=⟨w.heap.size,1,none⟩) (by simp;omega)).trans (by go_simp)
   have e2:w2.cell? ⟨w1.heap.size,0,none⟩=some (.int .u64 0):=(hx2.cell (p:=⟨w1.heap.size,0,none⟩) (by simp)).trans (by go_simp)
   have e3:w2.frozen? ⟨w1.heap.size,0,none⟩=false:=(hx2.frozen (p:=⟨w1.heap.size,0,none⟩) (by simp)).trans (by go_simp)
   have hrow:=hrow0.ext hx3
   have hpb:∀x,pa=some x->0<a.d.length->x.block<w.heap.size:=by
    intro x hp h0
    obtain⟨b',o',hp',hlt,_⟩:=hrow0.at h0
    rw[hp] at hp'
    cases hp'
    exact hlt
   clear hx2
   gi_wp2
   refine wpIn_rangeFunc_ownF rfl (by omega) (gf:=209) (lb:=#[.pointer (some ⟨w1.heap.size+1,0,none⟩)]) rfl trivial (enters_of Tryz.func209 (by kernel_rfl) rfl)
    (down_stops 5 (by omega) (w1.heap.size+1) ca a.d pa w2 hb b0 hrow) (fun h k=>⟨fun o=>(k.1 o).trans (h.1 o),fun z x hx o=>(k.2 z x hx o).trans (h.2 z x hx o)⟩)
    (fun W L o o' hL hW ho _=>⟨fun q=>World.cell?_of_block (World.putObj_heap_other (by show w1.heap.size+1≠L;omega)),fun z x hx q=>World.cell?_of_block (World.putObj_heap_other (by have:=hpb x hx z;show x.block≠L;omega))⟩) (Below.refl _ _) (fun _=>rfl)
    (fun pre W=>((W.cell? ⟨w.heap.size,0,none⟩=some (.bool na)/\W.cell? ⟨w.heap.size,1,none⟩=some (.slice pa a.d.length ca)/\W.cell? ⟨w1.heap.size,0,none⟩=some (.int .u64 ((accD pre:Nat):Int))/\W.frozen? ⟨w1.heap.size,0,none⟩=false)/\Below w.heap.size w W)/\w2.heap.size<=W.heap.size)
    (fun _ _ _=>False)
    (OwnFrom.and (OwnFrom.and (Own.from (fun s A B row hs hg hr=>⟨cell_kept hs.1 hg hr,cell_kept hs.2.1 hg hr,cell_kept hs.2.2.1 hg hr,(frozen_kept hs.2.2.1 hg hr).trans hs.2.2.2⟩) _) (ownFrom_below (Nat.le_refl _) (by omega))) (fun s A B row hs hg hr=>Nat.le_trans hs hg.size))
    (fun _ _ _ _ _ hs _ _=>hs)
    ⟨⟨⟨e0,e1,e2,e3⟩,hx3⟩,Nat.le_refl _⟩
    (fun x=>{ tmps:=#[.agg #[.bool na,.slice pa a.d.length ca],.pointer (some ⟨w.heap.size,0,none⟩),.int .i64 0,.bool false,.pointer (some ⟨w1.heap.size,0,none⟩),.int .u32 (x.1:Int),.agg #[.bool na,.slice pa a.d.length ca],.bool true,.bool false,.bool false,.pointer (some ⟨w.heap.size,1,none⟩),.slice pa a.d.length ca,.int .i64 (a.d.length:Int),.bool false,.bool false,.pointer (some ⟨w.heap.size,1,none⟩),.slice pa a.d.length ca,.func (.func 209) #[] #[.pointer (some ⟨w1.heap.size+1,0,none⟩)],.int .u32 (x.1:Int),undef,undef,undef,undef,undef,undef,undef,undef,undef,undef,undef,undef,undef,undef,undef,undef,undef,undef,undef,undef,undef,undef,undef,undef,undef],defers:=[] }) ?assign ?body ?done ?stop
   case assign =>
    intro L x W K hK
    gi_wp2
    exact hK
   case body =>
    rintro L pre x W ⟨⟨⟨c0,c1,c2,c3⟩,hB⟩,hz⟩ hpl
    have hx1:=x.2
    have hac:accD pre<4294967296:=by
     have:=accD_lt pre
     have h1:pre.length<=1:=by have:=HLEN.out;omega
     exact Nat.lt_of_lt_of_le this (Nat.pow_le_pow_right (n:=4294967296) (i:=pre.length) (j:=1) (by omega) h1)
    have OR:=or_u64 (accD pre) x.1 hac hx1
    have SN:=Lib.hid (accD_snoc pre x)
    have hWl:w.heap.size<W.heap.size:=by omega
    have hWm:w1.heap.size<W.heap.size:=by omega
    have hne:w.heap.size≠w1.heap.size:=by omega
    have hne':w1.heap.size≠w.heap.size:=by omega
    clear hpl
    gi_wp2
    refine⟨KeepsOthers.setCell _ _ _,⟨fun o=>?_,fun z y hy o=>?_⟩,⟨⟨?_,?_,?_,?_⟩,?_⟩,?_⟩
    ·go_simp
    ·have hn : w1.heap.size ≠ y.block := by have := hpb y hy z; omega
     have hn':=Ne.symm hn
     go_simp
    ·go_simp
    ·go_simp
    ·rw[SN.out];go_simp
    ·go_simp
    ·exact bxx
    ·simp;omega
   case done =>
    rintro D xs W hD hS ⟨⟨⟨c0,c1,c2,c3⟩,hB⟩,hz⟩ hK
    have hacc:accD xs=val a.d:=by rw[accD_val,hS,List.reverse_reverse]
    have hM64:val a.d<18446744073709551616:=by
     have:=val_lt hrow0.dig
     exact Nat.lt_of_lt_of_le this (Nat.pow_le_pow_right (n:=4294967296) (i:=a.d.length) (j:=2) (by omega) HLEN.out)
    have hsgn:na=a.neg:=HA.out.1
    have hzv:a.z=if na then -(val a.d:Int) else val a.d:=by unfold Nm.z;rw[hsgn]
    have hpos:na=true->0<val a.d:=by
     intro h
     refine tight_posD (a.right_iff.1 ra).2.1 ?_
     rcases Nat.eq_zero_or_pos a.d.length with g|g
     ·have := (a.right_iff.1 ra).2.2 (List.eq_nil_of_length_eq_zero g)
      rw[hsgn,this] at h;cases h
     ·exact g
    have hP:intP a=if decide (-9223372036854775808<=a.z)&&decide (a.z<=9223372036854775807) then (a.z,true) else (0,false):=by
     unfold intP
     rw[ra,show decide (a.d.length<=2)=true by simpa using HLEN.out]
     rfl
    rw[hzv] at hP
    rw[hacc] at c2
    obtain⟨M,HM⟩:∃M,Hid (val a.d=M):=⟨_,rfl⟩
    rw[HM.out] at c2 hM64 hpos hP
    have HP:=Lib.hid hP
    have HK:=Lib.hid hK
    clear hP hzv hsgn hacc hS hpb hrow0 hrow dl
    cases na
    ·by_cases h63 : M < 9223372036854775808
     ·have d1 : decide ((M : Int) < 9223372036854775808) = true := by rw [decide_eq_true_eq]; omega
      have w0:IntKind.i64.wrap (M:Int)=(M:Int):=wrapI (by omega) (by omega)
      have r:(if (decide (-9223372036854775808<=(if false=true then -(M:Int) else (M:Int)))&&decide ((if false=true then -(M:Int) else (M:Int))<=9223372036854775807))=true then ((if false=true then -(M:Int) else (M:Int)),true) else (0,false))=(((M:Int),true):Int×Bool):=by
       rw[if_pos];rfl;simp;omega
      have RES:=Lib.hid (HP.out.trans r)
      clear r HP
      gi_wp2
      refine⟨by simp,.inl ⟨_,_,rfl,run_takeDeferred HK.out,?_⟩⟩
      refine⟨_,results_tmp2 rfl _ _ _,?_,hB.trans (belowK_b (w:=w) (Nat.le_refl _) W D _ _ (by omega) HK.out rfl rfl)⟩
      rw[RES.out]
      rfl
     ·have d1 : decide ((M : Int) < 9223372036854775808) = false := by rw [decide_eq_false_iff_not]; omega
      have r:(if (decide (-9223372036854775808<=(if false=true then -(M:Int) else (M:Int)))&&decide ((if false=true then -(M:Int) else (M:Int))<=9223372036854775807))=true then ((if false=true then -(M:Int) else (M:Int)),true) else (0,false))=((0,false):Int×Bool):=by
       rw[if_neg];simp;omega
      have RES:=Lib.hid (HP.out.trans r)
      clear r HP
      gi_wp2
      refine⟨by simp,.inl ⟨_,_,rfl,run_takeDeferred HK.out,?_⟩⟩
      refine⟨_,results_tmp2 rfl _ _ _,?_,hB.trans (belowK_b (w:=w) (Nat.le_refl _) W D _ _ (by omega) HK.out rfl rfl)⟩
      rw[RES.out]
      rfl
    ·by_cases h63 : M <= 9223372036854775808
     ·have d1 : decide ((M : Int) <= 9223372036854775808) = true := by rw [decide_eq_true_eq]; omega
      have hp:=hpos rfl
      have w1:IntKind.u64.wrap (-(M:Int))=18446744073709551616-(M:Int):=by rw[u64_neg _ (by omega)];omega
      have w2:wrap64 (18446744073709551616-(M:Int)) = -(M:Int):=by
       unfold wrap64
       omega
      have HW:=Lib.hid w1
      have HW2:=Lib.hid w2
      clear w1 w2
      have r:(if (decide (-9223372036854775808<=(if true=true then -(M:Int) else (M:Int)))&&decide ((if true=true then -(M:Int) else (M:Int))<=9223372036854775807))=true then ((if true=true then -(M:Int) else (M:Int)),true) else (0,false))=((-(M:Int),true):Int×Bool):=by
       rw[if_pos];rfl;simp;omega
      have RES:=Lib.hid (HP.out.trans r)
      clear r HP
      gi_wp2
      refine⟨by simp,.inl ⟨_,_,rfl,run_takeDeferred HK.out,?_⟩⟩
      refine⟨_,results_tmp2 rfl _ _ _,?_,hB.trans (belowK_b (w:=w) (Nat.le_refl _) W D _ _ (by omega) HK.out rfl rfl)⟩
      have e:wrap64 (IntKind.u64.wrap (-(M:Int))) = -(M:Int):=by rw[HW.out,HW2.out]
      rw[RES.out]
      exact congrArg (fun z=>Ending.returned (.tuple #[.int .i64 z,.bool true])) e
     ·have d1 : decide ((M : Int) <= 9223372036854775808) = false := by rw [decide_eq_false_iff_not]; omega
      have r:(if (decide (-9223372036854775808<=(if true=true then -(M:Int) else (M:Int)))&&decide ((if true=true then -(M:Int) else (M:Int))<=9223372036854775807))=true then ((if true=true then -(M:Int) else (M:Int)),true) else (0,false))=((0,false):Int×Bool):=by
       rw[if_neg];simp;omega
      have RES:=Lib.hid (HP.out.trans r)
      clear r HP
      gi_wp2
      refine⟨by simp,.inl ⟨_,_,rfl,run_takeDeferred HK.out,?_⟩⟩
      refine⟨_,results_tmp2 rfl _ _ _,?_,hB.trans (belowK_b (w:=w) (Nat.le_refl _) W D _ _ (by omega) HK.out rfl rfl)⟩
      rw[RES.out]
      rfl
   case stop =>
    rintro D c' pre W _ _ h _
    exact h.elim
end
def inI(z:Int):Bool:=decide (-9223372036854775808<=z)&&decide (z<=9223372036854775807)
theorem inI_iff{z:Int}:inI z=true <-> -9223372036854775808<=z/\z<=9223372036854775807:=by
 unfold inI
 rw[Bool.and_eq_true,decide_eq_true_eq,decide_eq_true_eq]
def plusR(a:Rt)(n:Int):Rt×Bool:=if a.right&&inI (a.add+n) then (⟨a.add+n,a.s,a.n,a.d⟩,true) else (Rt.no,false)
theorem ofP_plus{a:Rt}(h:ofP a.add a.s a.n a.d=(a,true))(z:Int):ofP z a.s a.n a.d=(⟨z,a.s,a.n,a.d⟩,true):=by
 obtain⟨add,s,n,d⟩:=a
 simp only at h ⊢
 unfold ofP at h ⊢
 split at h
 ·simp at h
 ·rename_i h1
  rw[if_neg h1]
  split at h
  ·rename_i h2
   rw[if_pos h2]
   simp only[Prod.mk.injEq,Rt.mk.injEq,and_true,true_and] at h ⊢
   exact h
  ·rename_i h2
   rw[if_neg h2]
   split at h
   ·simp at h
   ·rename_i h3
    rw[if_neg h3]
    simp only[Prod.mk.injEq,Rt.mk.injEq,and_true,true_and] at h ⊢
    exact h
theorem plusR_of{a:Rt}(hd:Dig a.n.d/\Dig a.d.d)(hr:a.right=true){n:Int}(hi:inI (a.add+n)=true):plusR a n=ofP (a.add+n) a.s a.n a.d:=by
 rw[ofP_plus (right_ok hd.1 hd.2 hr).2]
 unfold plusR
 rw[hr,hi]
 rfl
def wide(z:Int):Prop := -18446744073709551616<=z/\z<18446744073709551616

set_option maxRecDepth 100000
section
theorem intP_le{z:Int}(h:z.natAbs<=18446744073709551616):intP (ofZ z)=if inI z then (z,true) else (0,false):=by
 have hs:small z=true:=by
  refine small_of_lt (k:=3) ?_ (by decide)
  have:(18446744073709551617:Nat)<4294967296 ^ 3:=by decide +kernel
  omega
 unfold intP
 rw[ofZ_right hs,ofZ_z]
 cases hi:inI z with
 | true =>
  obtain⟨h1,h2⟩:=inI_iff.1 hi
  have hl:(ofZ z).d.length<=2:=by
   simp only[ofZ]
   refine (digs_length_le _ _).2 ?_
   have:(9223372036854775809:Nat)<4294967296 ^ 2:=by decide +kernel
   omega
  rw[if_pos (by simp[hl,h1,h2])]
  rfl
 | false =>
  rw[if_neg]
  ·rfl
  ·intro g
   simp only[Bool.and_eq_true,decide_eq_true_eq] at g
   rw[inI_iff.2 ⟨g.1.2,g.2⟩] at hi
   cases hi
def intV(z:Int):Int:=if inI z then z else 0
theorem intV_i{z:Int}:I64 (intV z):=by
 unfold intV
 split
 ·rename_i h;obtain⟨h1,h2⟩:=inI_iff.1 h;unfold I64;omega
 ·unfold I64;omega
def zIntC(f:FuncId)(H:∀(a:Nm) (na:Bool) (pa:Option Addr) (la ca:Nat) (w:World),NR w na pa la ca a->Calls Tryz.prog f #[.agg #[.bool na,.slice pa la ca]] w fun e w'=>e=.returned (.tuple #[.int .i64 (intP a).1,.bool (intP a).2])/\Ext w w'):Con where
 f:=f
 g:=fun | [⟨true,l⟩]=>(match toZi l with|some (z,B)=>if B<=18446744073709551616 then some (.tup [inV (intV z) lim,blV (inI z)],[]) else none|none=>none)|_=>none
 ok:=by
  intro args res ps h _
  split at h<;>try cases h
  split at h<;>try cases h
  split at h<;>cases h
  rename_i z B hz hB _
  intro W vals hv
  obtain⟨v,hv1,l1,rfl,hv2⟩:=rvs_cons.1 hv
  cases hv2
  obtain⟨b1,n,p,m,c,rfl,h1⟩:=toZi_rep hz hv1
  refine (H _ _ _ _ _ W h1).mono ?_
  rintro e w' ⟨rfl,hx⟩
  have e1:intP (ofZ z)=(intV z,inI z):=by rw[intP_le (by omega)];unfold intV;split<;>simp_all
  rw[e1]
  exact⟨_,rfl,⟨[_,_],rfl,rvs_cons.2 ⟨_,rv_i.2 ⟨lim64 intV_i,rfl⟩,_,rfl,rvs_cons.2 ⟨_,RepI.val (i:=.v (.bool (inI z))) ⟨rfl,rfl⟩,_,rfl,rfl⟩⟩⟩,hx⟩
def cZInt:Con:=zIntC 94 num_Int
def KPl:List Con:=[cZOf,cZAdd,cZInt,cRight,cRtOf]
theorem rtPlus_no(a:Rt)(z:Int)(h:(a.right&&inI (a.add+z))=false):Fok Tryz.prog 44 [rtV a,inV z lim] (rtA (Rt.no,false)):=by
 cases h1:inI (a.add+z) with
 | false=>exact fok KPl [true] [pT (nt_T h1)] (by kernel_rfl)
 | true =>
  have h2:a.right=false:=by rw[h1,Bool.and_true] at h;exact h
  exact fok KPl [false,true] [pF (nt_F h1),pT (nt_T h2)] (by kernel_rfl)
theorem rtPlus_yes(a:Rt)(z:Int)(h1:inI (a.add+z)=true)(h2:a.right=true):Fok Tryz.prog 44 [rtV a,inV z lim] (rtA (ofP (intV (a.add+z)) a.s a.n a.d)) :=
 fok KPl [false,false] [pF (nt_F h1),pF (nt_F h2)] (by kernel_rfl)
theorem rtPlus_fok(a:Rt)(hd:Dig a.n.d/\Dig a.d.d)(z:Int):Fok Tryz.prog 44 [rtV a,inV z lim] (rtA (plusR a z)):=by
 cases h:(a.right&&inI (a.add+z)) with
 | false =>
  rw[show plusR a z=(Rt.no,false) by unfold plusR;rw[h];rfl]
  exact rtPlus_no a z h
 | true =>
  simp only[Bool.and_eq_true] at h
  rw[plusR_of hd h.1 h.2,show a.add+z=intV (a.add+z) by unfold intV;rw[if_pos h.2]]
  exact rtPlus_yes a z h.2 h.1
def plusC(f:FuncId)(H:∀(a:Rt),Dig a.n.d/\Dig a.d.d->∀z,Fok Tryz.prog f [rtV a,inV z lim] (rtA (plusR a z))):Con where
 f:=f
 g:=fun | [⟨true,[.i a _,.i s _,.d (.num n),.d (.num d)]⟩,⟨false,[.i z _]⟩]=>some (rtA (plusR ⟨a,s,n,d⟩ z),[])|_=>none
 ok:=by
  intro args res ps h hp
  split at h<;>cases h
  rename_i a _ s _ n d z _
  intro W vals hv
  obtain⟨_,hx,_,rfl,hw⟩:=rvs_cons.1 hv
  obtain⟨k1,k2,k3,_⟩:=rt_at hx
  exact H ⟨a,s,n,d⟩ ⟨k2,k3⟩ z W _ (rvs_cons.2 ⟨_,k1,_,rfl,rvs_1 in_lim (fun _ h=>h) _ hw⟩)
def cPlus:Con:=plusC 44 rtPlus_fok
end

set_option maxRecDepth 100000
section
def Gp.no:Gp:=⟨false,Rt.no,Sp.no,Sp.no⟩
def Pr.gp(p:Pr):Gp:=⟨false,p.d,p.a,p.b⟩
def gapK(c:Nat->Pr):Nat->Gp
 | 0=>Gp.no
 | k+1=>if (k==0||decide (cmpRt (c k).d (gapK c k).d<0))=true then (c k).gp else gapK c k
def ints64(g:Gp):Prop:=(I64 g.d.add/\I64 g.d.s)/\(I64 g.a.x/\I64 g.a.y/\I64 g.a.dx/\I64 g.a.dy/\I64 g.a.p/\I64 g.a.q/\I64 g.a.len)/\I64 g.b.x/\I64 g.b.y/\I64 g.b.dx/\I64 g.b.dy/\I64 g.b.p/\I64 g.b.q/\I64 g.b.len
def GpC(W:World)(g:Gp)(cs:List Value):Prop:=∃n p l c m q k d,cs=[.bool g.m,.int .i64 g.d.add,.int .i64 g.d.s,.bool n,.slice p l c,.bool m,.slice q k d,.int .i64 g.a.x,.int .i64 g.a.y,.int .i64 g.a.dx,.int .i64 g.a.dy,.int .i64 g.a.p,.int .i64 g.a.q,.int .i64 g.a.len,.int .i64 g.b.x,.int .i64 g.b.y,.int .i64 g.b.dx,.int .i64 g.b.dy,.int .i64 g.b.p,.int .i64 g.b.q,.int .i64 g.b.len]/\NR W n p l c g.d.n/\NR W m q k d g.d.d/\ints64 g
theorem GpC.ext{W W':World}{g:Gp}{cs:List Value}(h:GpC W g cs)(hx:Ext W W'):GpC W' g cs:=by
 obtain⟨n,p,l,c,m,q,k,d,e,h1,h2,h3⟩:=h
 exact⟨n,p,l,c,m,q,k,d,e,h1.ext hx,h2.ext hx,h3⟩
theorem nr_kp{X:List Nat}{W W':World}{n:Bool}{p:Option Addr}{l c:Nat}{x:Nm}(hX:∀g∈X,∃xs T,W.heap[g]? = some (.cells xs T)/\∀v∈xs.toList,nd v)(hk:KpP X W W')(h:NR W n p l c x):NR W' n p l c x:=by
 refine⟨h.1,h.2.1,h.2.2.1,h.2.2.2.1,h.2.2.2.2.1,fun h0=>?_⟩
 obtain⟨b,o,e,hb,hc⟩:=h.2.2.at h0
 have hbX:b∉X:=fun hx=>by
  obtain⟨xs,T,h1,h2⟩:=hX b hx
  have:=hc 0 h0
  obtain⟨xs⟩:=xs
  rw[cell_of_row _ _ _ _ _ _ h1] at this
  exact h2 _ (List.mem_of_getElem? (by simpa using this)) _ rfl
 exact⟨b,o,e,Nat.lt_of_lt_of_le hb hk.size,fun i hi=>hk.cell (hc i hi) hbX⟩
theorem GpC.kp{X:List Nat}{W W':World}{g:Gp}{cs:List Value}(hX:∀g∈X,∃xs T,W.heap[g]? = some (.cells xs T)/\∀v∈xs.toList,nd v)(hk:KpP X W W')(h:GpC W g cs):GpC W' g cs:=by
 obtain⟨n,p,l,c,m,q,k,d,e,h1,h2,h3⟩:=h
 exact⟨n,p,l,c,m,q,k,d,e,nr_kp hX hk h1,nr_kp hX hk h2,h3⟩
theorem GpC.nd{W:World}{g:Gp}{cs:List Value}(h:GpC W g cs):∀v∈cs,Go.Proofs.YteajakbpmeebnaaGreat.nd v:=by
 obtain⟨n,p,l,c,m,q,k,d,rfl,_⟩:=h
 intro v hv
 simp only[List.mem_cons,List.not_mem_nil,or_false] at hv
 rcases hv with rfl|rfl|rfl|rfl|rfl|rfl|rfl|rfl|rfl|rfl|rfl|rfl|rfl|rfl|rfl|rfl|rfl|rfl|rfl|rfl|rfl<;>exact fun z h=>nomatch h
def GpAt(W:World)(B:Nat)(g:Gp):Prop:=∃cs,W.heap[B]? = some (.cells cs.toArray 53)/\GpC W g cs
theorem GpAt.ext{W W':World}{B:Nat}{g:Gp}(h:GpAt W B g)(hx:Ext W W'):GpAt W' B g:=by
 obtain⟨cs,h1,h2⟩:=h
 exact⟨cs,heap_ext h1 hx,h2.ext hx⟩
theorem gp_rt{W:World}{g:Gp}{n m:Bool}{p q:Option Addr}{l c k d:Nat}(h1:NR W n p l c g.d.n)(h2:NR W m q k d g.d.d)(h3:ints64 g):RepV W W (fun _=>0) 0 (rtV g.d) (.agg #[.int .i64 g.d.add,.int .i64 g.d.s,.bool n,.slice p l c,.bool m,.slice q k d]) :=
 rv_t.2 ⟨_,rl_i.2 ⟨lim64 h3.1.1,_,rfl,rl_i.2 ⟨lim64 h3.1.2,_,rfl,rl_num.2 ⟨_,_,_,_,h1,_,rfl,rl_num.2 ⟨_,_,_,_,h2,_,rfl,rfl⟩⟩⟩⟩,rfl⟩
theorem keep_gp(Bs Bl:Nat)(g h:Gp)(ys:List Value)(sm:Bool)(w:World)(hs:w.heap[Bs]? = some (.cells #[.bool sm] 4))(hl:GpAt w Bl h)(hne:Bs≠Bl)(hy:GpC w g ys) :
  Calls Tryz.prog 79 #[.agg ys.toArray,.pointer (some ⟨Bs,0,none⟩),.pointer (some ⟨Bl,0,none⟩)] w fun e W'=>(∃v,e=.returned v)/\But2 Bs Bl w W'/\W'.heap[Bs]? = some (.cells #[.bool true] 4)/\GpAt W' Bl (if (!sm||decide (cmpRt g.d h.d<0))=true then g else h):=by
 obtain⟨cs,hc,hcs⟩:=hl
 have ndx:=hcs.nd
 obtain⟨n,p,l,c,m,q,k,d,rfl,h1,h2,h3⟩:=id hcs
 obtain⟨n',p',l',c',m',q',k',d',rfl,y1,y2,y3⟩:=id hy
 have hcmp:∀W,Ext w W->Calls Tryz.prog 46 #[.agg #[.int .i64 g.d.add,.int .i64 g.d.s,.bool n',.slice p' l' c',.bool m',.slice q' k' d'],.agg #[.int .i64 h.d.add,.int .i64 h.d.s,.bool n,.slice p l c,.bool m,.slice q k d]] W fun e W'=>e=.returned (.int .i64 (cmpRt g.d h.d))/\Ext W W':=fun W hW=>by
  have f:=cCmp.ok (args:=[rtV g.d,rtV h.d]) (res:=_) (ps:=_) rfl (by trivial)
  refine (f W _ (rvs_cons.2 ⟨_,gp_rt (y1.ext hW) (y2.ext hW) y3,_,rfl,rvs_cons.2 ⟨_,gp_rt (h1.ext hW) (h2.ext hW) h3,_,rfl,rfl⟩⟩)).mono ?_
  rintro e W' ⟨v,rfl,hv,hx⟩
  exact⟨congrArg _ (rv_i.1 hv).2,hx⟩
 have one:∀v ∈ [.bool g.m,.int .i64 g.d.add,.int .i64 g.d.s,.bool n',.slice p' l' c',.bool m',.slice q' k' d',.int .i64 g.a.x,.int .i64 g.a.y,.int .i64 g.a.dx,.int .i64 g.a.dy,.int .i64 g.a.p,.int .i64 g.a.q,.int .i64 g.a.len,.int .i64 g.b.x,.int .i64 g.b.y,.int .i64 g.b.dx,.int .i64 g.b.dy,.int .i64 g.b.p,.int .i64 g.b.q,.int .i64 g.b.len],Value.oneCell' v=true:=fun v hv=>by
  simp only[List.mem_cons,List.not_mem_nil,or_false] at hv
  rcases hv with rfl|rfl|rfl|rfl|rfl|rfl|rfl|rfl|rfl|rfl|rfl|rfl|rfl|rfl|rfl|rfl|rfl|rfl|rfl|rfl|rfl<;>rfl
 refine (keep_ok Bs Bl _ _ _ _ _ _ _ _ _ _ _ _ _ _ _ _ _ _ _ _ _ _ _ _ _ _ _ _ _ _ _ _ _ _ _ _ _ _ _ _ _ _ sm (cmpRt g.d h.d) w hs hc hne one hcmp).mono ?_
 rintro e W' ⟨h4,h5,h6⟩
 refine⟨h4,h5,?_⟩
 split at h6
 ·rename_i hif
  rw[if_pos hif]
  have hk:KpP [Bs,Bl] w W':=⟨h5.size,fun i o hi _ hx=>by
   simp only[List.mem_cons,List.not_mem_nil,or_false,not_or] at hx
   exact (h5.block i (Array.getElem?_eq_some_iff.1 hi).1 hx.1 hx.2).trans hi⟩
  refine⟨h6.1,_,h6.2,hy.kp (X:=[Bs,Bl]) (fun x hx=>?_) hk⟩
  simp only[List.mem_cons,List.not_mem_nil,or_false] at hx
  rcases hx with rfl|rfl
  ·exact⟨_,_,hs,fun v hv=>by rw[List.mem_singleton.1 hv];exact fun z h=>nomatch h⟩
  ·exact⟨_,_,hc,ndx⟩
 ·rename_i hif
  rw[if_neg hif]
  have hsm:sm=true:=by cases sm with|true=>rfl|false=>exact absurd rfl hif
  subst hsm
  exact⟨heap_ext hs h6,_,heap_ext hc h6,hcs.ext h6⟩
end

set_option maxHeartbeats 1000000
set_option maxRecDepth 100000
section
open Go.RowKit Go.Shelf
attribute [local go_sem] Oper.semAt_some
attribute [local go_sem] Gives givesU
def zGp:List Value:=[.bool false,.int .i64 0,.int .i64 0,.bool false,.slice none 0 0,.bool false,.slice none 0 0,.int .i64 0,.int .i64 0,.int .i64 0,.int .i64 0,.int .i64 0,.int .i64 0,.int .i64 0,.int .i64 0,.int .i64 0,.int .i64 0,.int .i64 0,.int .i64 0,.int .i64 0,.int .i64 0]
theorem gap_nearest(w:World) :
  Calls Tryz.prog 38 #[] w fun e w'=>e=.returned (.tuple #[.func (.func 79) #[] #[.pointer (some ⟨w.heap.size+1,0,none⟩),.pointer (some ⟨w.heap.size,0,none⟩)],.func (.func 80) #[] #[.pointer (some ⟨w.heap.size,0,none⟩)]])/\Ext w w'/\w'.heap[w.heap.size+1]? = some (.cells #[.bool false] 4)/\w'.heap[w.heap.size]? = some (.cells zGp.toArray 53):=by
 have h0:∀w:World,(w.alloc (.cells zGp.toArray 53)).heap[w.heap.size]? = some (.cells zGp.toArray 53):=fun w=>World.alloc_heap_new _ _
 have H0:=Lib.hid h0
 clear h0
 go_enter Tryz.func38,Tryz.ntmps38
 go_wp2
 refine bodyPost_ret (results_tmp2 rfl _ _ _) rfl ?_
 refine⟨rfl,bxx,?_,?_⟩
 ·go_simp
  have:=World.alloc_heap_new (w.alloc (.cells zGp.toArray 53)) (.cells #[.bool false] 4)
  simpa[zGp] using this
 ·have := H0.out w
  exact heap_ext this (below_alloc _ _)
theorem gap_pairs(k r k' r':Int)(p p':Option Addr)(n c n' c':Nat)(w:World) :
  Calls Tryz.prog 39 #[.agg #[.int .i64 k,.slice p n c,.int .i64 r],.agg #[.int .i64 k',.slice p' n' c',.int .i64 r']] w fun e w'=>e=.returned (.func (.func 81) #[] #[.pointer (some ⟨w.heap.size,0,none⟩),.pointer (some ⟨w.heap.size+1,0,none⟩)])/\Ext w w'/\w'.cell? ⟨w.heap.size,1,none⟩=some (.slice p n c)/\w'.cell? ⟨w.heap.size+1,1,none⟩=some (.slice p' n' c')/\w.heap.size+1<w'.heap.size:=by
 go_enter Tryz.func39,Tryz.ntmps39
 go_wp2
 go_ret
 exact⟨rfl,bxx,by go_simp,by go_simp,by simp⟩
end

set_option maxRecDepth 100000
section
def regG(id:Nat):Code->Option Code
 | .region k ops d=>if k=id then some (.region k ops d) else none
 | .seq a b=>match regG id a with|some c=>some c|none=>regG id b
 | .cond _ a b=>match regG id a with|some c=>some c|none=>regG id b
 | .block _ c=>regG id c
 | .loop c=>regG id c
 | .scope c=>regG id c
 | .rangeFunc _ _ a c=>match regG id a with|some c=>some c|none=>regG id c
 | _=>none
noncomputable def gR(k:Nat):List Oper:=match regG k (bodyF Tryz.prog 15) with|some (.region _ ops _)=>ops.toList|_=>[]
noncomputable def gO (k i : Nat) : Oper := ((gR k)[i]?).getD ⟨none, .move (.tmp 0), 0, "", #[], none⟩
theorem off_t{l m:List Oper}{t:Nat}(h:offT (l++m) t=true):offT l t=true/\offT m t=true:=by
 unfold offT at *
 rwa [List.all_append,Bool.and_eq_true] at h
def edL(e:Ed):List Value:=[.int .i64 e.k,.int .i64 e.ax,.int .i64 e.ay,.int .i64 e.bx,.int .i64 e.by',.int .i64 e.cx,.int .i64 e.cy]
def EdI(e:Ed):Prop:=I64 e.k/\I64 e.ax/\I64 e.ay/\I64 e.bx/\I64 e.by'/\I64 e.cx/\I64 e.cy
theorem EdI.rep{e:Ed}(h:EdI e)(W:World):RepF W (edI e) (edL e):=by
 obtain⟨a0,a1,a2,a3,a4,a5,a6⟩:=h
 exact⟨[_],_,rfl,⟨rfl,lim64 a0⟩,[_],_,rfl,⟨rfl,lim64 a1⟩,[_],_,rfl,⟨rfl,lim64 a2⟩,[_],_,rfl,⟨rfl,lim64 a3⟩,[_],_,rfl,⟨rfl,lim64 a4⟩,[_],_,rfl,⟨rfl,lim64 a5⟩,[_],[],rfl,⟨rfl,lim64 a6⟩,rfl⟩
def fpV(l:List It):V1:=⟨false,[.fp l]⟩
theorem rv_fp0{W:World}{l:List It}{cs:List Value}{b:Nat}{T:TypeId}(hg:W.heap[b]? = some (.cells cs.toArray T))(h:RepF W l cs):RepV W W (fun _=>0) 0 (fpV l) (.pointer (some ⟨b,0,none⟩)):=rv_fp (cs:=cs) (ds:=[]) hg (Nat.zero_le _) (by simp) h
theorem J_at{V W:World}{n:Nat}{d:Ds}{a:Act}(h:JJ V (mkS n d) a W):Ext V W/\a.tmps.size=n/\∃r,∀t v,(mkS n d).t.get t=some (.one v)->RepV V W r d.m.length v (a.tmps.getD t undef):=by
 obtain⟨r,cm,⟨hM,_⟩,hT⟩:=h
 exact⟨hM.ext,hT.1,r,fun t v hv=>hT.2 t _ hv⟩
def ptrA(b:Nat):Value:=.pointer (some ⟨b,0,none⟩)
theorem r8(a:Act)(W:World)(m:Bool)(x y:Ed)(B6 P9 P10:Nat)(Q:Act->World->Prop)(hsz:a.tmps.size=94)(h6:a.tmps.getD 6 undef=ptrA B6)(h9:a.tmps.getD 9 undef=ptrA P9)(h10:a.tmps.getD 10 undef=ptrA P10)
  (g6:W.heap[B6]? = some (.cells #[.bool m] 4)) (g9:W.heap[P9]? = some (.cells (edL x).toArray 37)) (g10:W.heap[P10]? = some (.cells (edL y).toArray 37)) (hx:EdI x) (hy:EdI y)
  (hQ:∀a' W1 W',a'.tmps.size=94->a'.defers=a.defers->(∀t,offT (gR 8) t=true->a'.tmps.getD t undef=a.tmps.getD t undef)->Ext W W1->OnlyB B6 W1 W'->W'.heap[B6]? = some (.cells #[.bool (m || !(countE x y==0))] 4)->Q a' W'):WpS Tryz.prog (gR 8).toArray Q (gR 8) a W:=by
 have es:gR 8=(gR 8).take 6++[gO 8 6]:=by kernel_rfl
 have key:∀a' W1,Ext W W1->a'.tmps.size=94->(∀t,offT ((gR 8).take 6) t=true->a'.tmps.getD t undef=a.tmps.getD t undef)->a'.tmps.getD 48 undef=.bool (m || !(countE x y==0))->WpS Tryz.prog (gR 8).toArray Q [gO 8 6] (dfA a.defers a') W1:=fun a' W1 hE hs hoff h48=>by
  have g6':=heap_ext g6 hE
  obtain⟨o1,o2⟩:=onlyB_setRow (cs':=(([.bool m]:List Value).take 0++(([.bool (m || !(countE x y==0))]:List Value)++([.bool m]:List Value).drop (0+1))).toArray) g6'
  refine wpS_skip (W:=W1.setRow B6 (([.bool m]:List Value).take 0++(([.bool (m || !(countE x y==0))]:List Value)++([.bool m]:List Value).drop (0+1))).toArray) (by kernel_rfl) ?_ ?_
  ·exact ex_store (x:=.tmp 6) (y:=.tmp 48) (t:=4) (j:=0) (n:=1) (by kernel_rfl) (show a'.tmps.getD 6 undef=_ by rw[hoff 6 (by kernel_rfl)];exact h6) g6' (by rw[show (dfA a.defers a').eval (.tmp 48)=a'.tmps.getD 48 undef from rfl,h48];rfl) (by kernel_rfl) rfl (by simp) (fun v hv=>by rw[List.mem_singleton.1 hv];rfl)
  ·refine hQ _ _ _ (show (Act.put (dfA a.defers a') _ undef).tmps.size = 94 by rw [show Act.put (dfA a.defers a') (gO 8 6).dst undef = dfA a.defers a' by kernel_rfl]; exact hs) ?_ (fun t ht => ?_) hE o1 o2
   ·rw[show Act.put (dfA a.defers a') (gO 8 6).dst undef=dfA a.defers a' by kernel_rfl];rfl
   ·rw [show Act.put (dfA a.defers a') (gO 8 6).dst undef = dfA a.defers a' by kernel_rfl]
    rw[es] at ht
    exact hoff t (off_t ht).1
 rw[show WpS Tryz.prog (gR 8).toArray Q (gR 8) a W=WpS Tryz.prog (gR 8).toArray Q ((gR 8).take 6++[gO 8 6]) a W by rw[<- es]]
 refine wpS_app ?_
 cases m with
 | true =>
  refine runS_ok (X:=[]) (K:=[cMeet]) (n:=94) (d:=⟨[(6,.eq (fpV [.b true])),(9,.eq (fpV (edI x))),(10,.eq (fpV (edI y)))],[]⟩) (d':=⟨[(48,.eq ⟨false,[.b true]⟩)],[]⟩) (q:=[]) [pR ⟨false,[.b true]⟩] (by kernel_rfl) (old_J hsz fun z hz=>?_) fun a' W1 hJ hoff=>?_
  ·simp only [List.mem_cons, List.not_mem_nil, or_false] at hz
   rcases hz with rfl|rfl|rfl
   ·rw[h6];exact rv_fp0 (cs:=[.bool true]) g6 ⟨[_],[],rfl,rfl,rfl⟩
   ·rw[h9];exact rv_fp0 g9 (hx.rep W)
   ·rw[h10];exact rv_fp0 g10 (hy.rep W)
  ·obtain ⟨h1, h2, r, h3⟩ := J_at hJ
   exact key a' W1 h1 h2 hoff (List.cons.inj (show _=[Value.bool true] from (h3 48 ⟨false,[.b true]⟩ (by kernel_rfl)).scal)).1
 | false =>
  refine runS_ok (X:=[]) (K:=[cMeet]) (n:=94) (d:=⟨[(6,.eq (fpV [.b false])),(9,.eq (fpV (edI x))),(10,.eq (fpV (edI y)))],[]⟩) (d':=⟨[(48,.eq (blV (!(countE x y==0))))],[]⟩) (q:=[]) [pR (blV (!(countE x y==0)))] (by kernel_rfl) (old_J hsz fun z hz=>?_) fun a' W1 hJ hoff=>?_
  ·simp only [List.mem_cons, List.not_mem_nil, or_false] at hz
   rcases hz with rfl|rfl|rfl
   ·rw[h6];exact rv_fp0 (cs:=[.bool false]) g6 ⟨[_],[],rfl,rfl,rfl⟩
   ·rw[h9];exact rv_fp0 g9 (hx.rep W)
   ·rw[h10];exact rv_fp0 g10 (hy.rep W)
  ·obtain ⟨h1, h2, r, h3⟩ := J_at hJ
   exact key a' W1 h1 h2 hoff (rv_v.1 (h3 48 (blV (!(countE x y==0))) (by kernel_rfl))).2
def FpAt(W:World)(b:Nat)(l:List It):Prop:=∃c d T,W.heap[b]? = some (.cells (c++d).toArray T)/\RepF W l c
theorem FpAt.ext{W W':World}{b:Nat}{l:List It}(h:FpAt W b l)(hx:Ext W W'):FpAt W' b l:=by
 obtain⟨c,d,T,h1,h2⟩:=h
 exact⟨c,d,T,heap_ext h1 hx,h2.ext hx⟩
theorem FpAt.rv{W:World}{b:Nat}{l:List It}(h:FpAt W b l):RepV W W (fun _=>0) 0 (fpV l) (ptrA b):=by
 obtain⟨c,d,T,h1,h2⟩:=h
 exact rv_fp (cs:=c) (ds:=d) h1 (Nat.zero_le _) rfl h2
theorem FpAt.of{W:World}{b:Nat}{l:List It}{cs:List Value}{T:TypeId}(h:W.heap[b]? = some (.cells cs.toArray T))(h2:RepF W l cs):FpAt W b l:=⟨cs,[],T,by rw[List.append_nil];exact h,h2⟩
theorem blk_at{V W:World}{n:Nat}{d:Ds}{a:Act}(h:JJ V (mkS n d) a W):Ext V W/\a.tmps.size=n/\∃r,(∀t v,(mkS n d).t.get t=some (.one v)->RepV V W r d.m.length v (a.tmps.getD t undef))/\∀b x,d.m[b]? = some (some x)->(x.l.all It.np)=true->FpAt W (r b) (x.l.map unO)/\V.heap.size<=r b:=by
 obtain⟨r,cm,⟨hM,_⟩,hT⟩:=h
 refine⟨hM.ext,hT.1,r,fun t v hv=>hT.2 t _ hv,fun b x hb hn=>?_⟩
 obtain⟨k1,cs,ds,k2,k3,_⟩:=hM.blk b x (mb_at.2 hb)
 exact⟨⟨cs,ds,_,by rw[<- k2];exact k1,np_F hM.ext hn k3⟩,hM.lo b x (mb_at.2 hb)⟩
def pSp(s:Sp):List Pf:=[⟨s.x=s.x,rfl⟩,⟨s.y=s.y,rfl⟩,⟨s.dx=s.dx,rfl⟩,⟨s.dy=s.dy,rfl⟩,⟨s.p=s.p,rfl⟩,⟨s.q=s.q,rfl⟩,⟨s.len=s.len,rfl⟩]
def pRt(r:Rt):List Pf:=[⟨r.add=r.add,rfl⟩,⟨r.s=r.s,rfl⟩,⟨It.d (.num r.n)=It.d (.num r.n),rfl⟩,⟨It.d (.num r.d)=It.d (.num r.d),rfl⟩]
theorem r10(a:Act)(W:World)(x y:Ed)(P9 P10:Nat)(Q:Act->World->Prop)(hsz:a.tmps.size=94)(h9:a.tmps.getD 9 undef=ptrA P9)(h10:a.tmps.getD 10 undef=ptrA P10)(g9:FpAt W P9 (edI x))(g10:FpAt W P10 (edI y))
  (hQ:∀a' W',a'.tmps.size=94->a'.defers=a.defers->(∀t,offT (gR 10) t=true->a'.tmps.getD t undef=a.tmps.getD t undef)->Ext W W'->(∃p q r,a'.tmps.getD 11 undef=ptrA p/\a'.tmps.getD 12 undef=ptrA q/\a'.tmps.getD 13 undef=ptrA r/\FpAt W' p (rtV (edgesR x y).d).l/\FpAt W' q (spV (edgesR x y).a).l/\FpAt W' r (spV (edgesR x y).b).l)->Q a' W'):WpS Tryz.prog (gR 10).toArray Q (gR 10) a W:=by
 refine runS_ok (X:=[]) (K:=[cEdges]) (n:=94) (d:=⟨[(9,.eq (fpV (edI x))),(10,.eq (fpV (edI y)))],[]⟩) (d':=⟨[(11,.eq (ptrN 0)),(12,.eq (ptrN 1)),(13,.eq (ptrN 2))],[some ⟨49,(rtV (edgesR x y).d).l⟩,some ⟨51,(spV (edgesR x y).a).l⟩,some ⟨51,(spV (edgesR x y).b).l⟩]⟩) (q:=[]) ([pR (ptrN 0),pR (ptrN 1),pR (ptrN 2)]++(pRt (edgesR x y).d++(pSp (edgesR x y).a++pSp (edgesR x y).b))) (by kernel_rfl) (old_J hsz fun z hz=>?_) fun a' W1 hJ hoff=>?_
 ·simp only [List.mem_cons, List.not_mem_nil, or_false] at hz
  rcases hz with rfl|rfl
  ·rw[h9];exact g9.rv
  ·rw[h10];exact g10.rv
 ·obtain ⟨h1, h2, r, h3, h4⟩ := blk_at hJ
  have pt:∀t b,(mkS 94 ⟨[(11,.eq (ptrN 0)),(12,.eq (ptrN 1)),(13,.eq (ptrN 2))],[some ⟨49,(rtV (edgesR x y).d).l⟩,some ⟨51,(spV (edgesR x y).a).l⟩,some ⟨51,(spV (edgesR x y).b).l⟩]⟩).t.get t=some (.one (ptrN b))->a'.tmps.getD t undef=ptrA (r b):=fun t b h=>(List.cons.inj (h3 t (ptrN b) h).scal.2).1
  exact hQ _ _ h2 rfl hoff h1 ⟨r 0,r 1,r 2,pt 11 0 (by kernel_rfl),pt 12 1 (by kernel_rfl),pt 13 2 (by kernel_rfl),(h4 0 _ rfl (by kernel_rfl)).1,(h4 1 _ rfl (by kernel_rfl)).1,(h4 2 _ rfl (by kernel_rfl)).1⟩
end

set_option maxRecDepth 100000
section
def gpI(p:Pr):List It:=.b false::([.i p.d.add lim,.i p.d.s lim,.o (.num p.d.n),.o (.num p.d.d)]++((spV p.a).l++(spV p.b).l))
theorem rl_onum{V W:World}{r:Nat->Nat}{k:Nat}{x:Nm}{l:List It}{cs:List Value}:RepL V W r k (.o (.num x)::l) cs <-> ∃n p m c,NR V n p m c x/\∃d,cs=.bool n::.slice p m c::d/\RepL V W r k l d :=
 ⟨fun ⟨c,d,e,⟨n,p,m,c',h1,h2⟩,h3⟩=>⟨n,p,m,c',h2,d,by rw[e,h1];rfl,h3⟩,fun ⟨n,p,m,c',h,d,e,h3⟩=>⟨[_,_],d,e,⟨n,p,m,c',rfl,h⟩,h3⟩⟩
theorem gpC_of{V W:World}{r:Nat->Nat}{k:Nat}{p:Pr}{cs:List Value}(h:RepL V W r k (gpI p) cs):GpC V p.gp cs:=by
 simp only[gpI,spV,List.cons_append,List.nil_append,rl_b,rl_i,rl_onum,rl_nil] at h
 obtain⟨_,rfl,⟨_,i1⟩,_,rfl,⟨_,i2⟩,_,rfl,n,p',l,c,h1,_,rfl,m,q,k',d,h2,_,rfl,⟨_,j1⟩,_,rfl,⟨_,j2⟩,_,rfl,⟨_,j3⟩,_,rfl,⟨_,j4⟩,_,rfl,⟨_,j5⟩,_,rfl,⟨_,j6⟩,_,rfl,⟨_,j7⟩,_,rfl,⟨_,k1⟩,_,rfl,⟨_,k2⟩,_,rfl,⟨_,k3⟩,_,rfl,⟨_,k4⟩,_,rfl,⟨_,k5⟩,_,rfl,⟨_,k6⟩,_,rfl,⟨_,k7⟩,_,rfl,rfl⟩:=h
 exact⟨n,p',l,c,m,q,k',d,rfl,h1,h2,⟨i1,i2⟩,⟨j1,j2,j3,j4,j5,j6,j7⟩,k1,k2,k3,k4,k5,k6,k7⟩
theorem put_lt{a:Act}{d:Nat}{v:Value}(h:d<a.tmps.size):(a.put (some d) v).tmps.getD d undef=v:=by simp[Act.put,h]
def kpF(Bs Bl:Nat):Value:=.func (.func 79) #[] #[ptrA Bs,ptrA Bl]
theorem r11(a:Act)(W:World)(p:Pr)(h:Gp)(sm:Bool)(B7 Bs Bl P11 P12 P13:Nat)(Q:Act->World->Prop)(hsz:a.tmps.size=94)(h7:a.tmps.getD 7 undef=ptrA B7)(h11:a.tmps.getD 11 undef=ptrA P11)(h12:a.tmps.getD 12 undef=ptrA P12)(h13:a.tmps.getD 13 undef=ptrA P13)
  (g7:W.heap[B7]? = some (.cells #[kpF Bs Bl] 74)) (g11:FpAt W P11 (rtV p.d).l) (g12:FpAt W P12 (spV p.a).l) (g13:FpAt W P13 (spV p.b).l) (hs:W.heap[Bs]? = some (.cells #[.bool sm] 4)) (hl:GpAt W Bl h) (hne:Bs≠Bl)
  (hQ:∀a' W1 W',a'.defers=a.defers->Ext W W1->But2 Bs Bl W1 W'->W'.heap[Bs]? = some (.cells #[.bool true] 4)->GpAt W' Bl (if (!sm||decide (cmpRt p.d h.d<0))=true then p.gp else h)->Q a' W'):WpS Tryz.prog (gR 11).toArray Q (gR 11) a W:=by
 have es:gR 11=gO 11 0::(((gR 11).drop 1).take 4++[gO 11 5]):=by kernel_rfl
 have d0:(gO 11 0).dst=some 57:=by kernel_rfl
 have d5:(gO 11 5).dst=some 62:=by kernel_rfl
 rw[show WpS Tryz.prog (gR 11).toArray Q (gR 11) a W=WpS Tryz.prog (gR 11).toArray Q (gO 11 0::(((gR 11).drop 1).take 4++[gO 11 5])) a W by rw[<- es]]
 refine wpS_val (x:=kpF Bs Bl) (W:=W) (by kernel_rfl) ?_ ?_
 ·have := ex_load (P := Tryz.prog) (o := gO 11 0) (a := a) (w := W) (t := 74) (x := .tmp 7) (j := 0) (n := 1) (b := false) (cs := [kpF Bs Bl]) (by kernel_rfl) h7 g7 (by kernel_rfl) (by kernel_rfl) (by simp) (fun _ => rfl)
  exact this
 rw[d0]
 have hsz1:(a.put (some 57) (kpF Bs Bl)).tmps.size=94:=by simp[Act.put,hsz]
 have e57:(a.put (some 57) (kpF Bs Bl)).tmps.getD 57 undef=kpF Bs Bl:=put_lt (by rw[hsz];decide)
 have off57:∀t,t≠57->(a.put (some 57) (kpF Bs Bl)).tmps.getD t undef=a.tmps.getD t undef:=fun t ht=>by simp[Act.put,Array.getElem?_setIfInBounds,Ne.symm ht]
 refine wpS_app ?_
 refine runS_ok (X:=[]) (K:=[]) (n:=94) (d:=⟨[(11,.eq (fpV (rtV p.d).l)),(12,.eq (fpV (spV p.a).l)),(13,.eq (fpV (spV p.b).l))],[]⟩) (d':=⟨[(61,.eq ⟨true,gpI p⟩)],[]⟩) (q:=[]) [pR ⟨true,gpI p⟩] (by kernel_rfl) (old_J hsz1 fun z hz=>?_) fun a' W1 hJ hoff=>?_
 ·simp only [List.mem_cons, List.not_mem_nil, or_false] at hz
  rcases hz with rfl|rfl|rfl
  ·rw[off57 11 (by decide),h11];exact g11.rv
  ·rw[off57 12 (by decide),h12];exact g12.rv
  ·rw[off57 13 (by decide),h13];exact g13.rv
 ·obtain ⟨h1, h2, r, h3⟩ := J_at hJ
  obtain⟨ys,hy,e61⟩:=rv_t.1 (h3 61 ⟨true,gpI p⟩ (by kernel_rfl))
  have f57:a'.tmps.getD 57 undef=kpF Bs Bl:=by rw[hoff 57 (by kernel_rfl)];exact e57
  have en:(execOp (dfA (a.put (some 57) (kpF Bs Bl)).defers a').eval (gO 11 5)).run Tryz.prog W1=.ok (.enter 79 (#[.agg ys.toArray]++#[ptrA Bs,ptrA Bl])) W1:=by
   have:=run_enter (P:=Tryz.prog) (o:=gO 11 5) (a:=dfA (a.put (some 57) (kpF Bs Bl)).defers a') (f:=79) (x:=.tmp 57) (caps:=#[ptrA Bs,ptrA Bl]) (cl:={ callee:=.value (.tmp 57),args:=#[.tmp 61],argTypes:=#[53] }) prog_nm Tryz.func79 rfl (by kernel_rfl) rfl f57 W1
   rw[this]
   simp only[List.map_toArray,List.map_cons,List.map_nil]
   rw[show (dfA (a.put (some 57) (kpF Bs Bl)).defers a').eval (.tmp 61)=.agg ys.toArray from e61]
  refine wpS_call (by kernel_rfl) en (keep_gp Bs Bl p.gp h ys sm W1 (heap_ext hs h1) (hl.ext h1) hne ((gpC_of hy).ext h1)) (fun e W h=>h.1) fun v W' ⟨_,k2,k3,k4⟩=>?_
  exact hQ _ W1 W' (by rw[d5];rfl) h1 k2 k3 k4
end
end Go.Proofs.YteajakbpmeebnaaGreat
