import Derived.Test.YtghemgdfmldoeaaGreatS27
set_option linter.unusedVariables false
set_option linter.unusedSimpArgs false

namespace Go.Proofs.YtghemgdfmldoeaaGreat
open Go.RowKit

set_option maxHeartbeats 4000000
set_option maxRecDepth 100000
section
open Go.RowKit Go.Shelf
attribute [local go_sem] Oper.semAt_some
attribute [local go_sem] Gives givesU
abbrev Dg:={ x:Nat // x<4294967296 }
def KR(B:Nat)(p:Option Addr)(n:Nat)(W W':World):Prop:=(∀o,W'.cell? ⟨B,o,none⟩=W.cell? ⟨B,o,none⟩)/\(0<n->∀a,p=some a->∀o,W'.cell? ⟨a.block,o,none⟩=W.cell? ⟨a.block,o,none⟩)
theorem down_stops(n:Nat)(hn:1<=n)(Bc c:Nat)(d:List Nat)(p:Option Addr)(w:World)(hB:Bc<w.heap.size)(c0:w.cell? ⟨Bc,0,none⟩=some (.slice p d.length c))(hr:Row w p c d) :
  SeqStopsK Fence.wide n Tryz.prog 267 #[.pointer (some ⟨Bc,0,none⟩)] (fun x:Dg=>#[.int .u32 (x.1:Int)]) (KR Bc p d.length) (fun xs=>xs.map (·.1)=d.reverse) (fun _=>True) d.length w:=fun L J Jx W hW _ _ hY h0=>by
 have k0:W.cell? ⟨Bc,0,none⟩=some (.slice p d.length c):=(hW.cell (p:=⟨Bc,0,none⟩) hB).trans c0
 have hrW:Row W p c d:=hr.ext hW
 have hma:=hr.max
 have hle:=hr.le
 clear c0 hr
 refine callsIn_of_wp Tryz.func267 rfl trivial ?_ rfl
 simp only[Tryz.ntmps267,List.size_toArray,List.length_cons,List.length_nil,Nat.reduceAdd,Nat.reduceSub,Array.replicate_succ,Array.replicate_zero,List.push_toArray,List.append_toArray,List.nil_append,List.cons_append]
 gi_wp2
 gi_loopw [3] (fun i wr=>∃(k:Nat) (pre:List Dg),i=.int .i64 ((k:Int)-1)/\pre.length+k=d.length/\pre.map (·.1)=(d.drop k).reverse/\J pre wr/\KR Bc p d.length W wr) (fun i _=>(intOf i+1).toNat)
 case atStart=>exact⟨d.length,[],rfl,by simp,by rw[List.drop_eq_nil_of_le (Nat.le_refl _)];rfl,h0,fun _=>rfl,fun _ _ _ _=>rfl⟩
 case round =>
  obtain⟨k,pre,rfl,hk,hpre,hJ,hK1,hK2⟩:=hrel
  have m0:wr.cell? ⟨Bc,0,none⟩=some (.slice p d.length c):=(hK1 0).trans k0
  cases k with
  | zero =>
   have HJ:=Lib.hid hJ
   have HP:=Lib.hid hpre
   clear hJ hpre hK1 hK2 hk
   have e:(((0:Nat):Int)-1) = -1:=by omega
   rw[e]
   clear e
   gi_wp2
   go_end0
   exact⟨⟨_,rfl⟩,.inl ⟨pre,by rw[HP.out,List.drop_zero],HJ.out⟩⟩
  | succ j =>
   have e:(((j+1:Nat):Int)-1)=(j:Int):=by omega
   rw[e]
   clear e
   obtain⟨ba,oa,rfl,hba,hca⟩:=hrW.at (by omega)
   have ca1:wr.cell? ⟨ba,oa+j,none⟩=some (.int .u32 ((d[j]?.getD 0:Nat):Int)):=(hK2 (by omega) _ rfl _).trans (hca j (by omega))
   have hxd:=hrW.dig.getD j
   rw[List.getD_eq_getElem?_getD] at hxd
   have hjd:j<d.length:=by omega
   have hdrop:d.drop j=d[j]?.getD 0::d.drop (j+1):=by rw[List.drop_eq_getElem_cons hjd,getD_eq hjd]
   obtain⟨x,X⟩:∃x,Hid (d[j]?.getD 0=x):=⟨_,rfl⟩
   rw[X.out] at ca1 hxd hdrop
   obtain⟨f1,t1,a1,b1,hy1,hR1⟩:=hY pre ⟨x,hxd⟩ wr hJ (by omega)
   dsimp only at hy1
   have HP:=Lib.hid hpre
   have HD:=Lib.hid hdrop
   have HK1:=Lib.hid hK1
   have HK2:=Lib.hid hK2
   clear hca hpre hJ hdrop hK1 hK2
   gi_wp2
   refine hR1.mono ?_
   rintro e W1 (⟨rfl,hJ1,hkk1,hkk2⟩|⟨rfl,hx1⟩)
   ·have HJ1 := Lib.hid hJ1
    have HL1:=Lib.hid hkk1
    have HL2:=Lib.hid hkk2
    clear hJ1 hkk1 hkk2
    gi_wp2
    refine⟨⟨j,pre++[⟨x,hxd⟩],rfl,by simp;omega,?_,HJ1.out,fun o=>(HL1.out o).trans (HK1.out o),fun h a ha o=>(HL2.out h a ha o).trans (HK2.out h a ha o)⟩,by simp[intOf]⟩
    rw[List.map_append,HP.out,HD.out,List.reverse_cons]
    rfl
   ·gi_wp2
    refine bodyPost_ret (results_none rfl _ _ _) rfl ?_
    exact⟨⟨_,rfl⟩,.inr ⟨_,trivial,hx1⟩⟩
theorem num_down(p:Option Addr)(l c:Nat)(w:World) :
  Calls Tryz.prog 209 #[.slice p l c] w fun e w'=>e=.returned (.func (.func 267) #[] #[.pointer (some ⟨w.heap.size,0,none⟩)])/\Ext w w'/\w'.cell? ⟨w.heap.size,0,none⟩=some (.slice p l c)/\w.heap.size<w'.heap.size:=by
 go_enter Tryz.func209,Tryz.ntmps209
 go_wp2
 go_ret
 exact⟨rfl,bxx,by go_simp,by simp⟩
theorem tight_posD{b:List Nat}(tb:Tight b)(h:0<b.length):0<val b:=by
 rcases Nat.eq_zero_or_pos (val b) with h0|h0
 ·exfalso
  rcases List.eq_nil_or_concat b with rfl|⟨c,x,rfl⟩
  ·simp at h
  ·have hx : x ≠ 0 := by have := tb (by simp); simpa using this
   rw[List.concat_eq_append,val_append,show val [x]=x from (by simp[val])] at h0
   have h1:0<4294967296 ^ c.length:=Nat.pow_pos (by omega)
   have h2:=Nat.mul_pos h1 (show 0<x by omega)
   omega
 ·exact h0
theorem wrapI{n:Int}(h1 : -9223372036854775808<=n)(h2:n<=9223372036854775807):IntKind.i64.wrap n=n:=IntWalk.i64_in _ ⟨h1,h2⟩
def intP(a:Nm):Int×Bool:=if a.right&&decide (a.d.length<=2)&&decide (-9223372036854775808<=a.z)&&decide (a.z<=9223372036854775807) then (a.z,true) else (0,false)
def RetInt(w:World)(r:Int×Bool)(e:Ending)(w':World):Prop:=e=.returned (.tuple #[.int .i64 r.1,.bool r.2])/\Ext w w'
def accD(pre:List Dg):Nat:=pre.foldl (fun m x=>m*4294967296+x.1) 0
theorem accD_snoc(pre:List Dg)(x:Dg):accD (pre++[x])=accD pre*4294967296+x.1:=by simp[accD]
theorem accD_val:∀(pre:List Dg),accD pre=val (pre.map (·.1)).reverse:=by
 intro pre
 have h:∀(l:List Dg) (m:Nat),l.foldl (fun m x=>m*4294967296+x.1) m=val (l.map (·.1)).reverse+4294967296 ^ l.length*m:=by
  intro l
  induction l with
  | nil=>intro m;simp[val]
  | cons x l ih =>
   intro m
   rw[List.foldl_cons,ih,List.map_cons,List.reverse_cons,val_append,show val [x.1]=x.1 from (by simp[val]),List.length_reverse,List.length_map,List.length_cons,Nat.pow_succ]
   rw[Nat.mul_add,Nat.mul_assoc,Nat.mul_comm m]
   omega
 rw[accD,h,Nat.mul_zero,Nat.add_zero]
theorem accD_lt(pre:List Dg):accD pre<4294967296 ^ pre.length:=by
 rw[accD_val]
 have:=val_lt (d:=(pre.map (·.1)).reverse) (by intro y hy;rw[List.mem_reverse,List.mem_map] at hy;obtain⟨z,_,rfl⟩:=hy;exact z.2)
 rwa [List.length_reverse,List.length_map] at this
theorem num_Int(a:Nm)(na:Bool)(pa:Option Addr)(la ca:Nat)(w:World)(ha:NR w na pa la ca a) :
  Calls Tryz.prog 144 #[.agg #[.bool na,.slice pa la ca]] w (RetInt w (intP a)):=by
 have RA:=Lib.hid (fun w' (hx:Ext w w')=>num_Right a na pa la ca w' (ha.ext hx))
 cases ra:a.right with
 | false =>
  rw[ra] at RA
  have hP:intP a=(0,false):=by unfold intP;rw[ra];rfl
  rw[hP]
  go_enter Tryz.func144,Tryz.ntmps144
  go_wp2_with fail
  refine (RA.out _ bxx).mono ?_
  rintro e w1 ⟨rfl,hx⟩
  have hx0:Ext w w1:=Ext.step bxx hx
  go_wp2
  go_ret2
  exact⟨rfl,hx0⟩
 | true =>
  rw[ra] at RA
  by_cases hl:2<la
  ·have hP:intP a=(0,false):=by
    have:=ha.2.1
    unfold intP;rw[if_neg];simp;intros;omega
   rw[hP]
   go_enter Tryz.func144,Tryz.ntmps144
   go_wp2_with fail
   refine (RA.out _ bxx).mono ?_
   rintro e w1 ⟨rfl,hx⟩
   have hx0:Ext w w1:=Ext.step bxx hx
   obtain⟨_,_,hk_w1_0,hf_w1_0⟩:=keepK1 hx w.heap.size
   go_wp2
   go_ret2
   exact⟨rfl,hx0⟩
  ·have dl : decide (2 < (la : Int)) = false := by rw [decide_eq_false_iff_not]; omega
   obtain rfl:la=a.d.length:=ha.2.1
   have hlen:a.d.length<=2:=by omega
   clear hl
   refine (callsIn_wide (n:=6)).1 ?_
   have RA':=Lib.hid (fun w' (hx:Ext w w')=>(callsIn_wide (n:=5)).2 (RA.out w' hx))
   have HA:=Lib.hid ha
   have HLEN:=Lib.hid hlen
   have hrow0:=ha.2.2
   clear ha RA hlen
   refine callsIn_of_wp_marks Tryz.func144 rfl trivial ?_ rfl
   simp only[Tryz.ntmps144,List.size_toArray,List.length_cons,List.length_nil,Nat.reduceAdd,Nat.reduceSub,Array.replicate_succ,Array.replicate_zero,List.push_toArray,List.append_toArray,List.nil_append,List.cons_append]
   gi_wp2
   refine⟨trivial,(RA'.out _ bxx).mono ?_⟩
   rintro e w1 ⟨rfl,hx⟩
   have hx0:Ext w w1:=Ext.step bxx hx
   obtain⟨_,_,hk_w1_0,hf_w1_0⟩:=keepK1 hx w.heap.size
   have g0:w1.cell? ⟨w.heap.size,0,none⟩=some (.bool na):=by go_simp
   have g1:w1.cell? ⟨w.heap.size,1,none⟩=some (.slice pa a.d.length ca):=by go_simp
   clear hk_w1_0 hf_w1_0
   gi_wp2
   refine⟨trivial,(callsIn_wide.2 (num_down pa a.d.length ca _)).mono ?_⟩
   rintro e w2 ⟨rfl,hx2,b0,hb⟩
   have hs2:=hx2.size
   simp at hs2 b0 hb
   have hx3:Ext w w2:=Ext.step bxx hx2
   have e0:w2.cell? ⟨w.heap.size,0,none⟩=some (.bool na):=(hx2.cell (p:=⟨w.heap.size,0,none⟩) (by simp;omega)).trans (by go_simp)
   have e1:w2.cell? ⟨w.heap.size,1,none⟩=some (.slice pa a.d.length ca):=(hx2.cell (p:=⟨w.heap.size,1,none⟩) (by simp;omega)).trans (by go_simp)
   have e2:w2.cell? ⟨w1.heap.size,0,none⟩=some (.int .u64 0):=(hx2.cell (p:=⟨w1.heap.size,0,none⟩) (by simp)).trans (by go_simp)
   have e3:w2.frozen? ⟨w1.heap.size,0,none⟩=false:=(hx2.frozen (p:=⟨w1.heap.size,0,none⟩) (by simp)).trans (by go_simp)
   have hrow:=hrow0.ext hx3
   have hpb:∀x,pa=some x->0<a.d.length->x.block<w.heap.size:=by
    intro x hp h0
    obtain⟨b',o',hp',hlt,_⟩:=hrow0.at h0
    rw[hp] at hp'
    cases hp'
    exact hlt
   clear hx2
   gi_wp2
   refine wpIn_rangeFunc_ownF rfl (by omega) (gf:=267) (lb:=#[.pointer (some ⟨w1.heap.size+1,0,none⟩)]) rfl trivial (enters_of Tryz.func267 (by kernel_rfl) rfl)
    (down_stops 5 (by omega) (w1.heap.size+1) ca a.d pa w2 hb b0 hrow) (fun h k=>⟨fun o=>(k.1 o).trans (h.1 o),fun z x hx o=>(k.2 z x hx o).trans (h.2 z x hx o)⟩)
    (fun W L o o' hL hW ho _=>⟨fun q=>World.cell?_of_block (World.putObj_heap_other (by show w1.heap.size+1≠L;omega)),fun z x hx q=>World.cell?_of_block (World.putObj_heap_other (by have:=hpb x hx z;show x.block≠L;omega))⟩) (Below.refl _ _) (fun _=>rfl)
    (fun pre W=>((W.cell? ⟨w.heap.size,0,none⟩=some (.bool na)/\W.cell? ⟨w.heap.size,1,none⟩=some (.slice pa a.d.length ca)/\W.cell? ⟨w1.heap.size,0,none⟩=some (.int .u64 ((accD pre:Nat):Int))/\W.frozen? ⟨w1.heap.size,0,none⟩=false)/\Below w.heap.size w W)/\w2.heap.size<=W.heap.size)
    (fun _ _ _=>False)
    (OwnFrom.and (OwnFrom.and (Own.from (fun s A B row hs hg hr=>⟨cell_kept hs.1 hg hr,cell_kept hs.2.1 hg hr,cell_kept hs.2.2.1 hg hr,(frozen_kept hs.2.2.1 hg hr).trans hs.2.2.2⟩) _) (ownFrom_below (Nat.le_refl _) (by omega))) (fun s A B row hs hg hr=>Nat.le_trans hs hg.size))
    (fun _ _ _ _ _ hs _ _=>hs)
    ⟨⟨⟨e0,e1,e2,e3⟩,hx3⟩,Nat.le_refl _⟩
    (fun x=>{ tmps:=#[.agg #[.bool na,.slice pa a.d.length ca],.pointer (some ⟨w.heap.size,0,none⟩),.int .i64 0,.bool false,.pointer (some ⟨w1.heap.size,0,none⟩),.int .u32 (x.1:Int),.agg #[.bool na,.slice pa a.d.length ca],.bool true,.bool false,.bool false,.pointer (some ⟨w.heap.size,1,none⟩),.slice pa a.d.length ca,.int .i64 (a.d.length:Int),.bool false,.bool false,.pointer (some ⟨w.heap.size,1,none⟩),.slice pa a.d.length ca,.func (.func 267) #[] #[.pointer (some ⟨w1.heap.size+1,0,none⟩)],.int .u32 (x.1:Int),undef,undef,undef,undef,undef,undef,undef,undef,undef,undef,undef,undef,undef,undef,undef,undef,undef,undef,undef,undef,undef,undef,undef,undef,undef],defers:=[] }) ?assign ?body ?done ?stop
   case assign =>
    intro L x W K hK
    gi_wp2
    exact hK
   case body =>
    rintro L pre x W ⟨⟨⟨c0,c1,c2,c3⟩,hB⟩,hz⟩ hpl
    have hx1:=x.2
    have hac:accD pre<4294967296:=by
     have:=accD_lt pre
     have h1:pre.length<=1:=by have:=HLEN.out;omega
     exact Nat.lt_of_lt_of_le this (Nat.pow_le_pow_right (n:=4294967296) (i:=pre.length) (j:=1) (by omega) h1)
    have OR:=or_u64 (accD pre) x.1 hac hx1
    have SN:=Lib.hid (accD_snoc pre x)
    have hWl:w.heap.size<W.heap.size:=by omega
    have hWm:w1.heap.size<W.heap.size:=by omega
    have hne:w.heap.size≠w1.heap.size:=by omega
    have hne':w1.heap.size≠w.heap.size:=by omega
    clear hpl
    gi_wp2
    refine⟨KeepsOthers.setCell _ _ _,⟨fun o=>?_,fun z y hy o=>?_⟩,⟨⟨?_,?_,?_,?_⟩,?_⟩,?_⟩
    ·go_simp
    ·have hn : w1.heap.size ≠ y.block := by have := hpb y hy z; omega
     have hn':=Ne.symm hn
     go_simp
    ·go_simp
    ·go_simp
    ·rw[SN.out];go_simp
    ·go_simp
    ·exact bxx
    ·simp;omega
   case done =>
    rintro D xs W hD hS ⟨⟨⟨c0,c1,c2,c3⟩,hB⟩,hz⟩ hK
    have hacc:accD xs=val a.d:=by rw[accD_val,hS,List.reverse_reverse]
    have hM64:val a.d<18446744073709551616:=by
     have:=val_lt hrow0.dig
     exact Nat.lt_of_lt_of_le this (Nat.pow_le_pow_right (n:=4294967296) (i:=a.d.length) (j:=2) (by omega) HLEN.out)
    have hsgn:na=a.neg:=HA.out.1
    have hzv:a.z=if na then -(val a.d:Int) else val a.d:=by unfold Nm.z;rw[hsgn]
    have hpos:na=true->0<val a.d:=by
     intro h
     refine tight_posD (a.right_iff.1 ra).2.1 ?_
     rcases Nat.eq_zero_or_pos a.d.length with g|g
     ·have := (a.right_iff.1 ra).2.2 (List.eq_nil_of_length_eq_zero g)
      rw[hsgn,this] at h;cases h
     ·exact g
    have hP:intP a=if decide (-9223372036854775808<=a.z)&&decide (a.z<=9223372036854775807) then (a.z,true) else (0,false):=by
     unfold intP
     rw[ra,show decide (a.d.length<=2)=true by simpa using HLEN.out]
     rfl
    rw[hzv] at hP
    rw[hacc] at c2
    obtain⟨M,HM⟩:∃M,Hid (val a.d=M):=⟨_,rfl⟩
    rw[HM.out] at c2 hM64 hpos hP
    have HP:=Lib.hid hP
    have HK:=Lib.hid hK
    clear hP hzv hsgn hacc hS hpb hrow0 hrow dl
    cases na
    ·by_cases h63 : M < 9223372036854775808
     ·have d1 : decide ((M : Int) < 9223372036854775808) = true := by rw [decide_eq_true_eq]; omega
      have w0:IntKind.i64.wrap (M:Int)=(M:Int):=wrapI (by omega) (by omega)
      have r:(if (decide (-9223372036854775808<=(if false=true then -(M:Int) else (M:Int)))&&decide ((if false=true then -(M:Int) else (M:Int))<=9223372036854775807))=true then ((if false=true then -(M:Int) else (M:Int)),true) else (0,false))=(((M:Int),true):Int×Bool):=by
       rw[if_pos];rfl;simp;omega
      have RES:=Lib.hid (HP.out.trans r)
      clear r HP
      gi_wp2
      refine⟨by simp,.inl ⟨_,_,rfl,run_takeDeferred HK.out,?_⟩⟩
      refine⟨_,results_tmp2 rfl _ _ _,?_,hB.trans (belowK_b (w:=w) (Nat.le_refl _) W D _ _ (by omega) HK.out rfl rfl)⟩
      rw[RES.out]
      rfl
     ·have d1 : decide ((M : Int) < 9223372036854775808) = false := by rw [decide_eq_false_iff_not]; omega
      have r:(if (decide (-9223372036854775808<=(if false=true then -(M:Int) else (M:Int)))&&decide ((if false=true then -(M:Int) else (M:Int))<=9223372036854775807))=true then ((if false=true then -(M:Int) else (M:Int)),true) else (0,false))=((0,false):Int×Bool):=by
       rw[if_neg];simp;omega
      have RES:=Lib.hid (HP.out.trans r)
      clear r HP
      gi_wp2
      refine⟨by simp,.inl ⟨_,_,rfl,run_takeDeferred HK.out,?_⟩⟩
      refine⟨_,results_tmp2 rfl _ _ _,?_,hB.trans (belowK_b (w:=w) (Nat.le_refl _) W D _ _ (by omega) HK.out rfl rfl)⟩
      rw[RES.out]
      rfl
    ·by_cases h63 : M <= 9223372036854775808
     ·have d1 : decide ((M : Int) <= 9223372036854775808) = true := by rw [decide_eq_true_eq]; omega
      have hp:=hpos rfl
      have w1:IntKind.u64.wrap (-(M:Int))=18446744073709551616-(M:Int):=by rw[u64_neg _ (by omega)];omega
      have w2:wrap64 (18446744073709551616-(M:Int)) = -(M:Int):=by
       unfold wrap64
       omega
      have HW:=Lib.hid w1
      have HW2:=Lib.hid w2
      clear w1 w2
      have r:(if (decide (-9223372036854775808<=(if true=true then -(M:Int) else (M:Int)))&&decide ((if true=true then -(M:Int) else (M:Int))<=9223372036854775807))=true then ((if true=true then -(M:Int) else (M:Int)),true) else (0,false))=((-(M:Int),true):Int×Bool):=by
       rw[if_pos];rfl;simp;omega
      have RES:=Lib.hid (HP.out.trans r)
      clear r HP
      gi_wp2
      refine⟨by simp,.inl ⟨_,_,rfl,run_takeDeferred HK.out,?_⟩⟩
      refine⟨_,results_tmp2 rfl _ _ _,?_,hB.trans (belowK_b (w:=w) (Nat.le_refl _) W D _ _ (by omega) HK.out rfl rfl)⟩
      have e:wrap64 (IntKind.u64.wrap (-(M:Int))) = -(M:Int):=by rw[HW.out,HW2.out]
      rw[RES.out]
      exact congrArg (fun z=>Ending.returned (.tuple #[.int .i64 z,.bool true])) e
     ·have d1 : decide ((M : Int) <= 9223372036854775808) = false := by rw [decide_eq_false_iff_not]; omega
      have r:(if (decide (-9223372036854775808<=(if true=true then -(M:Int) else (M:Int)))&&decide ((if true=true then -(M:Int) else (M:Int))<=9223372036854775807))=true then ((if true=true then -(M:Int) else (M:Int)),true) else (0,false))=((0,false):Int×Bool):=by
       rw[if_neg];simp;omega
      have RES:=Lib.hid (HP.out.trans r)
      clear r HP
      gi_wp2
      refine⟨by simp,.inl ⟨_,_,rfl,run_takeDeferred HK.out,?_⟩⟩
      refine⟨_,results_tmp2 rfl _ _ _,?_,hB.trans (belowK_b (w:=w) (Nat.le_refl _) W D _ _ (by omega) HK.out rfl rfl)⟩
      rw[RES.out]
      rfl
   case stop =>
    rintro D c' pre W _ _ h _
    exact h.elim
end
def inI(z:Int):Bool:=decide (-9223372036854775808<=z)&&decide (z<=9223372036854775807)
theorem inI_iff{z:Int}:inI z=true <-> -9223372036854775808<=z/\z<=9223372036854775807:=by
 unfold inI
 rw[Bool.and_eq_true,decide_eq_true_eq,decide_eq_true_eq]
def plusR(a:Rt)(n:Int):Rt×Bool:=if a.right&&inI (a.add+n) then (⟨a.add+n,a.s,a.n,a.d⟩,true) else (Rt.no,false)
theorem ofP_plus{a:Rt}(h:ofP a.add a.s a.n a.d=(a,true))(z:Int):ofP z a.s a.n a.d=(⟨z,a.s,a.n,a.d⟩,true):=by
 obtain⟨add,s,n,d⟩:=a
 simp only at h ⊢
 unfold ofP at h ⊢
 split at h
 ·simp at h
 ·rename_i h1
  rw[if_neg h1]
  split at h
  ·rename_i h2
   rw[if_pos h2]
   simp only[Prod.mk.injEq,Rt.mk.injEq,and_true,true_and] at h ⊢
   exact h
  ·rename_i h2
   rw[if_neg h2]
   split at h
   ·simp at h
   ·rename_i h3
    rw[if_neg h3]
    simp only[Prod.mk.injEq,Rt.mk.injEq,and_true,true_and] at h ⊢
    exact h
theorem plusR_of{a:Rt}(hd:Dig a.n.d/\Dig a.d.d)(hr:a.right=true){n:Int}(hi:inI (a.add+n)=true):plusR a n=ofP (a.add+n) a.s a.n a.d:=by
 rw[ofP_plus (right_ok hd.1 hd.2 hr).2]
 unfold plusR
 rw[hr,hi]
 rfl
def wide(z:Int):Prop := -18446744073709551616<=z/\z<18446744073709551616

set_option maxRecDepth 100000
section
theorem intP_le{z:Int}(h:z.natAbs<=18446744073709551616):intP (ofZ z)=if inI z then (z,true) else (0,false):=by
 have hs:small z=true:=by
  refine small_of_lt (k:=3) ?_ (by decide)
  have:(18446744073709551617:Nat)<4294967296 ^ 3:=by decide +kernel
  omega
 unfold intP
 rw[ofZ_right hs,ofZ_z]
 cases hi:inI z with
 | true =>
  obtain⟨h1,h2⟩:=inI_iff.1 hi
  have hl:(ofZ z).d.length<=2:=by
   simp only[ofZ]
   refine (digs_length_le _ _).2 ?_
   have:(9223372036854775809:Nat)<4294967296 ^ 2:=by decide +kernel
   omega
  rw[if_pos (by simp[hl,h1,h2])]
  rfl
 | false =>
  rw[if_neg]
  ·rfl
  ·intro g
   simp only[Bool.and_eq_true,decide_eq_true_eq] at g
   rw[inI_iff.2 ⟨g.1.2,g.2⟩] at hi
   cases hi
def intV(z:Int):Int:=if inI z then z else 0
theorem intV_i{z:Int}:I64 (intV z):=by
 unfold intV
 split
 ·rename_i h;obtain⟨h1,h2⟩:=inI_iff.1 h;unfold I64;omega
 ·unfold I64;omega
def zIntC(f:FuncId)(H:∀(a:Nm) (na:Bool) (pa:Option Addr) (la ca:Nat) (w:World),NR w na pa la ca a->Calls Tryz.prog f #[.agg #[.bool na,.slice pa la ca]] w fun e w'=>e=.returned (.tuple #[.int .i64 (intP a).1,.bool (intP a).2])/\Ext w w'):Con where
 f:=f
 g:=fun | [⟨true,l⟩]=>(match toZi l with|some (z,B)=>if B<=18446744073709551616 then some (.tup [inV (intV z) lim,blV (inI z)],[]) else none|none=>none)|_=>none
 ok:=by
  intro args res ps h _
  split at h<;>try cases h
  split at h<;>try cases h
  split at h<;>cases h
  rename_i z B hz hB _
  intro W vals hv
  obtain⟨v,hv1,l1,rfl,hv2⟩:=rvs_cons.1 hv
  cases hv2
  obtain⟨b1,n,p,m,c,rfl,h1⟩:=toZi_rep hz hv1
  refine (H _ _ _ _ _ W h1).mono ?_
  rintro e w' ⟨rfl,hx⟩
  have e1:intP (ofZ z)=(intV z,inI z):=by rw[intP_le (by omega)];unfold intV;split<;>simp_all
  rw[e1]
  exact⟨_,rfl,⟨[_,_],rfl,rvs_cons.2 ⟨_,rv_i.2 ⟨lim64 intV_i,rfl⟩,_,rfl,rvs_cons.2 ⟨_,RepI.val (i:=.v (.bool (inI z))) ⟨rfl,rfl⟩,_,rfl,rfl⟩⟩⟩,hx⟩
def cZInt:Con:=zIntC 144 num_Int
def KPl:List Con:=[cZOf,cZAdd,cZInt,cRight,cRtOf]
theorem rtPlus_no(a:Rt)(z:Int)(h:(a.right&&inI (a.add+z))=false):Fok Tryz.prog 97 [rtV a,inV z lim] (rtA (Rt.no,false)):=by
 cases h1:inI (a.add+z) with
 | false=>exact fok KPl [true] [pT (nt_T h1)] (by kernel_rfl)
 | true =>
  have h2:a.right=false:=by rw[h1,Bool.and_true] at h;exact h
  exact fok KPl [false,true] [pF (nt_F h1),pT (nt_T h2)] (by kernel_rfl)
theorem rtPlus_yes(a:Rt)(z:Int)(h1:inI (a.add+z)=true)(h2:a.right=true):Fok Tryz.prog 97 [rtV a,inV z lim] (rtA (ofP (intV (a.add+z)) a.s a.n a.d)) :=
 fok KPl [false,false] [pF (nt_F h1),pF (nt_F h2)] (by kernel_rfl)
theorem rtPlus_fok(a:Rt)(hd:Dig a.n.d/\Dig a.d.d)(z:Int):Fok Tryz.prog 97 [rtV a,inV z lim] (rtA (plusR a z)):=by
 cases h:(a.right&&inI (a.add+z)) with
 | false =>
  rw[show plusR a z=(Rt.no,false) by unfold plusR;rw[h];rfl]
  exact rtPlus_no a z h
 | true =>
  simp only[Bool.and_eq_true] at h
  rw[plusR_of hd h.1 h.2,show a.add+z=intV (a.add+z) by unfold intV;rw[if_pos h.2]]
  exact rtPlus_yes a z h.2 h.1
def plusC(f:FuncId)(H:∀(a:Rt),Dig a.n.d/\Dig a.d.d->∀z,Fok Tryz.prog f [rtV a,inV z lim] (rtA (plusR a z))):Con where
 f:=f
 g:=fun | [⟨true,[.i a _,.i s _,.d (.num n),.d (.num d)]⟩,⟨false,[.i z _]⟩]=>some (rtA (plusR ⟨a,s,n,d⟩ z),[])|_=>none
 ok:=by
  intro args res ps h hp
  split at h<;>cases h
  rename_i a _ s _ n d z _
  intro W vals hv
  obtain⟨_,hx,_,rfl,hw⟩:=rvs_cons.1 hv
  obtain⟨k1,k2,k3,_⟩:=rt_at hx
  exact H ⟨a,s,n,d⟩ ⟨k2,k3⟩ z W _ (rvs_cons.2 ⟨_,k1,_,rfl,rvs_1 in_lim (fun _ h=>h) _ hw⟩)
def cPlus:Con:=plusC 97 rtPlus_fok
end

section
def dfA(D:List Deferred)(a:Act):Act:={ tmps:=a.tmps,defers:=D }
theorem eval_df(D:List Deferred)(a:Act):(dfA D a).eval=a.eval:=by funext x;cases x<;>rfl
theorem put_df(D:List Deferred)(a:Act)(d:Option Nat)(v:Value):(dfA D a).put d v=dfA D (a.put d v):=by cases d<;>rfl
def offT(l:List Oper)(t:Nat):Bool:=l.all fun o=>!(o.dst==some t)
theorem put_off{a:Act}{o:Oper}{v:Value}{t:Nat}(h:(!(o.dst==some t))=true):(a.put o.dst v).tmps.getD t undef=a.tmps.getD t undef:=by
 cases hd:o.dst with
 | none=>rfl
 | some d =>
  have hne:d≠t:=by rw[hd] at h;simpa using h
  simp[Act.put,Array.getElem?_setIfInBounds,hne]
section
variable {P:Program} {ops:Array Oper} {S:World->Prop} {Q Q':Act->World->Prop}
theorem Gives.df{o:Oper}{a:Act}{w:World}{R:Value->World->Prop}(D:List Deferred)(h:Gives P o a w R):Gives P o (dfA D a) w R:=h.of_same (by rw[eval_df])
theorem WpF.df(D:List Deferred):∀ {l:List Oper} {a:Act} {own:List Nat} {F:World->Prop},WpF P ops S Q l a own F->(∀a' W,Q a' W->(∀t,offT l t=true->a'.tmps.getD t undef=a.tmps.getD t undef)->Q' (dfA D a') W)->WpF P ops S Q' l (dfA D a) own F
 | [],a,own,F,h,hQ=>fun w hw=>hQ _ _ (h w hw) fun _ _=>rfl
 | o::l,a,own,F,h,hQ=>by
  have nx:∀(v:Value) (a':Act) (W:World),Q a' W->(∀t,offT l t=true->a'.tmps.getD t undef=(a.put o.dst v).tmps.getD t undef)->Q' (dfA D a') W:=fun v a' W hq ht=>hQ a' W hq fun t hoff=>by
   unfold offT at hoff
   rw[List.all_cons,Bool.and_eq_true] at hoff
   rw[ht t hoff.2,put_off hoff.1]
  cases (show StepF P ops S (WpF P ops S Q l) o a own F from h) with
  | pure v hy h=>exact .pure v (by unfold YieldsIf at *;rw[eval_df];exact hy) (by rw[put_df];exact WpF.df D h (nx v))
  | flo hk hw obj hr h=>exact .flo hk hw obj (by rw[eval_df];exact hr) fun g hg hs=>by rw[put_df];exact WpF.df D (h g hg hs) (nx _)
  | eff hk hw I sh T hm hg h=>exact .eff hk hw I sh T hm (fun w hw'=>(hg w hw').df D) fun t ht=>by rw[put_df];exact WpF.df D (h t ht) (nx _)
  | sto hk hw I sh T hm hs hg h=>exact .sto hk hw I sh T hm hs (fun w hw'=>(hg w hw').df D) fun t ht=>by rw[put_df];exact WpF.df D (h t ht) (nx _)
  | mu hk hw B hB I sh T hm hs hg h=>exact .mu hk hw B hB I sh T hm hs (fun w hw'=>(hg w hw').df D) fun t ht=>by rw[put_df];exact WpF.df D (h t ht) (nx _)
end
noncomputable def runD(X:List Eff)(K:List Con)(ops:List Oper)(n:Nat)(d d':Ds)(q:List Bool):Option (List Prop) :=
 match aOps Tryz.prog (env X) (callK X K) ops.toArray noQ ops { mkS n d with al:=1 } q with
 | some (s',ob,[])=>if Tryz.prog.follows .mixedOrders&&floatB ops.toArray&&ob.ld.all (fun b=>(mb d.m b).isSome&&!(ob.st.contains b))&&(s'.t.n==n) then (leS s' d').map (ob.ps++·) else none
 | _=>none
theorem regD_wp{X:List Eff}{K:List Con}{id n:Nat}{ops:List Oper}{d d':Ds}{q:List Bool}(pf:List Pf)(h:runD X K ops n d d' q=some (pf.map Pf.p)){V w:World}{a:Act}{Q:Exit->Act->World->Prop}(hJ:JJ V (mkS n d) (dfA [] a) w)
  (hQ:∀a' W,JJ V (mkS n d') a' W->(∀t,offT ops t=true->a'.tmps.getD t undef=a.tmps.getD t undef)->Q .normal (dfA a.defers a') W):(Code.region id ops.toArray true).wp Tryz.prog Q a w:=by
 have hp:=all_pf pf
 generalize pf.map Pf.p=ps at h hp
 unfold runD at h
 split at h
 ·rename_i s' ob h1
  split at h
  ·rename_i hc
   simp only[Bool.and_eq_true,beq_iff_eq] at hc
   obtain⟨⟨⟨hm,hB⟩,hd⟩,hn⟩:=hc
   cases h2:leS s' d' with
   | none=>simp[h2] at h
   | some ps2 =>
    simp only[h2,Option.map_some,Option.some.injEq] at h
    subst h
    obtain⟨p1,p2⟩:=All.app hp
    obtain⟨r,cm,hj⟩:=hJ
    have hC:Cond V (alB { mkS n d with al:=1 }) r cm (mkS n d).m ob.st (List.range w.heap.size) r cm (mkS n d).m :=
     ⟨Nat.le_refl _,fun _ _=>rfl,fun b x hb _=>⟨rfl,hb⟩,fun _ b hb=>List.mem_range.2 (hj.1.1.bd b hb),fun g hg=>List.mem_range.2 (Nat.lt_of_lt_of_le hg hj.1.1.ext.size),fun _ _=>rfl⟩
    have hW:=aOps_any (snd_ok X K) (Q:=fun a' W=>JJ V s' a' W) (n0:=w.heap.size) (ops:=ops.toArray) (s:={ mkS n d with al:=1 }) (m0:=(mkS n d).m) (X:=ob.st) h1 p1 (show (1:Nat)≠0 by decide) (fun b hb=>hb) (fun b hb=>by
     have:=List.all_eq_true.1 hd b hb
     simp only[Bool.and_eq_true,Bool.not_eq_true',List.contains_eq_mem,decide_eq_false_iff_not] at this
     exact this) hC ⟨w,⟨hC.s0 (s:=mkS n d) hj (Nat.le_refl _),hj,Nat.le_refl _⟩⟩ (F:=fun W=>S0 V w.heap.size r cm (mkS n d).m ob.st W/\J V r cm (mkS n d) (dfA [] a) W/\w.heap.size<=W.heap.size) (fun W hW=>hW.2) (fun a' W r' cm' _ hJ=>⟨r',cm',hJ⟩)
    have ha:a=dfA a.defers (dfA [] a):=rfl
    rw[ha]
    refine wp_region_G (id:=id) (l:=ops) (S0 V w.heap.size r cm (mkS n d).m ob.st) (fun W=>J V r cm (mkS n d) (dfA [] a) W/\w.heap.size<=W.heap.size) hm hB ⟨hC.s0 (s:=mkS n d) hj (Nat.le_refl _),hj,Nat.le_refl _⟩
     (fun W W' hh hb=>⟨hC.s0 (s:=mkS n d) (J.mono _ _ hh.2.1 hb) (Nat.le_trans hh.2.2 hb.size),J.mono _ _ hh.2.1 hb,Nat.le_trans hh.2.2 hb.size⟩) (fun W hW=>hW.1.2)
     (WpF.df a.defers hW fun a' W hq ht=>hQ a' W (le_J h2 p2 hn hq) ht)
  ·cases h
 ·cases h
end

section
section
variable {P:Program} {V:World} {E:Env} {call:CallF} {ops:Array Oper} {qk:Oper->Bool} {Q Q':Act->World->Prop}
def WpS(P:Program)(ops:Array Oper)(Q:Act->World->Prop):List Oper->Act->World->Prop
 | [],a,w=>Q a w
 | o::l,a,w=>(Region.wanted o (yielded ops a.tmps)=true/\∃R:Value->World->Prop,Gives P o a w R/\∀v w',R v w'->WpS P ops Q l (a.put o.dst v) w')\/(Region.wanted o (yielded ops a.tmps)=false/\WpS P ops Q l (a.put o.dst undef) w)
theorem aOps_S(hs:Sound P E call):∀ {l:List Oper} {s s':St} {q q':List Bool} {ob:Ob} {a:Act} {w:World} {r:Nat->Nat} {cm:Nat->List Value},aOps P E call ops qk l s q=some (s',ob,q')->All ob.ps->J V r cm s a w ->
  (∀a' W r' cm',J V r' cm' s' a' W->Q a' W)->WpS P ops Q l a w
 | [],s,s',q,q',ob,a,w,r,cm,h,_,hJ,hQ=>by
  unfold aOps at h
  cases h
  exact hQ _ _ _ _ hJ
 | o::l,s,s',q,q',ob,a,w,r,cm,h,hp,hJ,hQ=>by
  unfold aOps at h
  unfold WpS
  split at h
  ·cases h
  ·rename_i sg ps q1 hg
   split at h
   ·cases h
   cases hl:aOps P E call ops qk l (put sg o.dst .und) q1 with
   | none=>simp[hl] at h
   | some z =>
    obtain⟨s2,ob2,q2⟩:=z
    simp only[hl,Option.map_some,Option.some.injEq,Prod.mk.injEq] at h
    obtain⟨rfl,rfl,rfl⟩:=h
    obtain⟨p1,p2⟩:=All.app hp
    obtain⟨hJ,hw⟩:=hJ.gd hg p1
    exact .inr ⟨hw,aOps_S hs hl p2 (J.put hJ.1.1 hJ.2 hJ.1.2 rfl) hQ⟩
  ·rename_i sg ps q1 hg
   split at h
   ·cases h
   ·rename_i v s1 ob1 q2 hd
    cases hl:aOps P E call ops qk l (put s1 o.dst v) q2 with
    | none=>simp[hl] at h
    | some z =>
     obtain⟨s2,ob2,q3⟩:=z
     simp only[hl,Option.map_some,Option.some.injEq,Prod.mk.injEq] at h
     obtain⟨rfl,rfl,rfl⟩:=h
     obtain⟨p1,p2⟩:=All.app hp
     obtain⟨p3,p4⟩:=All.app p1
     obtain⟨hJ,hw⟩:=hJ.gd hg p3
     refine .inl ⟨hw,_,aDo_seq hs hJ hd p4,?_⟩
     rintro x w' ⟨r',cm',_,⟨h1,h2⟩,h3⟩
     exact aOps_S hs hl p2 (J.put h1 h2 hJ.1.2 h3) hQ
theorem WpS.df(D:List Deferred):∀ {l:List Oper} {a:Act} {w:World},WpS P ops Q l a w->(∀a' W,Q a' W->(∀t,offT l t=true->a'.tmps.getD t undef=a.tmps.getD t undef)->Q' (dfA D a') W)->WpS P ops Q' l (dfA D a) w
 | [],a,w,h,hQ=>hQ _ _ h fun _ _=>rfl
 | o::l,a,w,h,hQ=>by
  have nx:∀(v:Value) (a':Act) (W:World),Q a' W->(∀t,offT l t=true->a'.tmps.getD t undef=(a.put o.dst v).tmps.getD t undef)->Q' (dfA D a') W:=fun v a' W hq ht=>hQ a' W hq fun t hoff=>by
   unfold offT at hoff
   rw[List.all_cons,Bool.and_eq_true] at hoff
   rw[ht t hoff.2,put_off hoff.1]
  rcases (show _\/_ from h) with⟨hw,R,hg,hk⟩|⟨hw,hk⟩
  ·exact .inl ⟨hw,R,hg.df D,fun v w' hr=>by rw[put_df];exact WpS.df D (hk v w' hr) (nx v)⟩
  ·exact .inr ⟨hw,by rw[put_df];exact WpS.df D hk (nx undef)⟩
theorem WpS.wp{Q:Exit->Act->World->Prop}:∀ {l:List Oper} {a:Act} {w:World},WpS P ops (fun a w=>Q .normal a w) l a w->wpList P ops Q l a w
 | [],_,_,h=>h
 | o::l,a,w,h=>by
  unfold wpList
  rcases (show _\/_ from h) with⟨hw,R,hg,hk⟩|⟨hw,hk⟩
  ·rw [if_pos hw]
   exact .inl (hg.wp fun v w' hr=>WpS.wp (hk v w' hr))
  ·rw [if_neg (by rw [hw]; decide)]
   exact WpS.wp hk
theorem WpS.wpIn{Q:Exit->Act->World->Prop}{r m:Nat}:∀ {l:List Oper} {a:Act} {w:World},(l.all fun o=>match o.op with | .defer _=>false|_=>true)=true->WpS P ops (fun a w=>Q .normal a w) l a w->wpListIn (Fence.wide.inRound r) m P ops Q l a w
 | [],_,_,_,h=>h
 | o::l,a,w,hd,h=>by
  rw[List.all_cons,Bool.and_eq_true] at hd
  unfold wpListIn
  rcases (show _\/_ from h) with⟨hw,R,hg,hk⟩|⟨hw,hk⟩
  ·rw [if_pos hw]
   exact hg.wpIn (fun c e=>by simp[e] at hd) fun v w' hr=>WpS.wpIn hd.2 (hk v w' hr)
  ·rw [if_neg (by rw [hw]; decide)]
   exact⟨fun _ _=>trivial,WpS.wpIn hd.2 hk⟩
end
section
variable {P:Program} {ops:Array Oper} {Q:Act->World->Prop} {o:Oper} {a:Act} {w W:World}
theorem wpS_app:∀ {l m:List Oper} {a:Act} {w:World},WpS P ops (fun a w=>WpS P ops Q m a w) l a w->WpS P ops Q (l++m) a w
 | [],_,_,_,h=>h
 | _::_,_,_,_,h=>by
  rcases (show _\/_ from h) with⟨hw,R,hg,hk⟩|⟨hw,hk⟩
  ·exact .inl ⟨hw,R,hg,fun v w' hr=>wpS_app (hk v w' hr)⟩
  ·exact .inr ⟨hw,wpS_app hk⟩
theorem wpS_skip{l:List Oper}(hw:Region.wanted o (yielded ops a.tmps)=true)(h:(execOp a.eval o).run P w=.ok .skip W)(hk:WpS P ops Q l (a.put o.dst undef) W):WpS P ops Q (o::l) a w :=
 .inl ⟨hw,fun v w'=>v=undef/\w'=W,gives_skip h ⟨rfl,rfl⟩,fun v w' h=>by obtain⟨rfl,rfl⟩:=h;exact hk⟩
theorem wpS_val{l:List Oper}{x:Value}(hw:Region.wanted o (yielded ops a.tmps)=true)(h:(execOp a.eval o).run P w=.ok (.value x) W)(hk:WpS P ops Q l (a.put o.dst x) W):WpS P ops Q (o::l) a w :=
 .inl ⟨hw,fun v w'=>v=x/\w'=W,gives_val h ⟨rfl,rfl⟩,fun v w' h=>by obtain⟨rfl,rfl⟩:=h;exact hk⟩
theorem wpS_call{l:List Oper}{f:FuncId}{args:Array Value}{R:Ending->World->Prop}(hw:Region.wanted o (yielded ops a.tmps)=true)(h:(execOp a.eval o).run P w=.ok (.enter f args) w)(hc:Calls P f args w R)(hR:∀e W,R e W->∃v,e=.returned v)(hk:∀v W,R (.returned v) W->WpS P ops Q l (a.put o.dst v) W):WpS P ops Q (o::l) a w:=by
 refine .inl ⟨hw,fun v W=>R (.returned v) W,?_,fun v w' h=>hk v w' h⟩
 unfold Gives
 rw[h]
 exact hc.mono fun e W hr=>by obtain⟨v,rfl⟩:=hR e W hr;exact⟨v,rfl,hr⟩
end
noncomputable def runS(X:List Eff)(K:List Con)(ops l:List Oper)(n:Nat)(d d':Ds)(q:List Bool):Option (List Prop) :=
 match aOps Tryz.prog (env X) (callK X K) ops.toArray noQ l { mkS n d with al:=0 } q with
 | some (s',ob,[])=>if s'.t.n==n then (leS s' d').map (ob.ps++·) else none
 | _=>none
theorem runS_ok{X:List Eff}{K:List Con}{n:Nat}{ops l:List Oper}{d d':Ds}{q:List Bool}(pf:List Pf)(h:runS X K ops l n d d' q=some (pf.map Pf.p)){V w:World}{a:Act}{Q:Act->World->Prop}(hJ:JJ V (mkS n d) (dfA [] a) w)
  (hQ:∀a' W,JJ V (mkS n d') a' W->(∀t,offT l t=true->a'.tmps.getD t undef=a.tmps.getD t undef)->Q (dfA a.defers a') W):WpS Tryz.prog ops.toArray Q l a w:=by
 have hp:=all_pf pf
 generalize pf.map Pf.p=ps at h hp
 unfold runS at h
 split at h
 ·rename_i s' ob h1
  split at h
  ·rename_i hc
   simp only[beq_iff_eq] at hc
   cases h2:leS s' d' with
   | none=>simp[h2] at h
   | some ps2 =>
    simp only[h2,Option.map_some,Option.some.injEq] at h
    subst h
    obtain⟨p1,p2⟩:=All.app hp
    obtain⟨r,cm,hj⟩:=hJ
    have hW:=aOps_S (snd_ok X K) (Q:=fun a' W=>JJ V s' a' W) (ops:=ops.toArray) (s:={ mkS n d with al:=0 }) h1 p1 hj (fun a' W r' cm' hJ=>⟨r',cm',hJ⟩)
    exact WpS.df (a:=dfA [] a) a.defers hW fun a' W hq ht=>hQ a' W (le_J h2 p2 hc hq) ht
  ·cases h
 ·cases h
theorem old_J{n:Nat}{l:List (Nat×Rq)}{a:Act}{W:World}(hn:a.tmps.size=n)(hl:∀x∈l,RepV W W (fun _=>0) 0 x.2.v (a.tmps.getD x.1 undef)):JJ W (mkS n ⟨l,[]⟩) (dfA [] a) W:=by
 refine⟨fun _=>0,fun _=>[],⟨RM.nil (Below.refl _ _),rfl⟩,hn,fun i v hv=>?_⟩
 rcases Tr.sets_get (Tm.get_lt hv).2 with rfl|⟨x,hx',rfl⟩
 ·trivial
 ·exact hl _ hx'
theorem rv_fp{W:World}{l:List It}{cs ds:List Value}{b o:Nat}{xs:List Value}{T:TypeId}(hg:W.heap[b]? = some (.cells xs.toArray T))(ho:o<=xs.length)(hd:xs.drop o=cs++ds)(h:RepF W l cs):RepV W W (fun _=>0) 0 ⟨false,[.fp l]⟩ (.pointer (some ⟨b,o,none⟩)) :=
 ⟨[_],⟨[_],[],rfl,⟨b,o,_,(T,(0,0)),rfl,hg,by simpa using ho,cs,ds,by simpa using hd,h⟩,rfl⟩,rfl,fun _=>rfl⟩
end

section
section
variable {P:Program} {ops:Array Oper} {S:World->Prop} {Q:Act->World->Prop} {tail:List Oper} {o:Oper} {l:List Oper} {a:Act} {own:List Nat} {F:World->Prop}
theorem T_run{v:Value}(hw:Region.wanted o (yielded ops a.tmps)=true)(hr:∀w,S w->(execOp a.eval o).run P w=.ok (.value v) w)(h:WpT P ops S Q tail l (a.put o.dst v) own F) :
  WpT P ops S Q tail (o::l) a own F:=.pure v (.inl ⟨hw,hr⟩) h
theorem T_call{v:Value}(hk:fkind o=2)(hw:Region.wanted o (yielded ops a.tmps)=true)
  (hg:∀w,F w->Gives P o a w (fun u w'=>u=v/\Below w.heap.size w w')) (h:WpT P ops S Q tail l (a.put o.dst v) own F):WpT P ops S Q tail (o::l) a own F:=by
 refine .eff hk hw Unit (fun _=>v) (fun _ _=>True) (fun _ _ _ h _=>h) (fun w hf=>(hg w hf).imp fun u w' h=>⟨(),h.1,h.2,trivial⟩) (fun t ht=>?_)
 have e:(fun w=>F w/\True)=F:=by funext w;simp
 rw[e]
 exact h
theorem T_done(h:WpF P ops (fun _=>True) Q tail a own F):WpT P ops S Q tail [] a own F:=h
end
end
end Go.Proofs.YtghemgdfmldoeaaGreat
