import Derived.Test.YtghemgdfmldoeaaGreatP27
set_option linter.unusedVariables false
set_option linter.unusedSimpArgs false
namespace Go.Proofs.YtghemgdfmldoeaaGreat
open Go.RowKit
set_option maxHeartbeats 4000000
set_option maxRecDepth 100000
section
open Go.RowKit Go.Shelf
attribute [local go_sem] Oper.semAt_some
attribute [local go_sem] aL dz
abbrev Dg:={ x:Nat // x<4294967296 }
def KR(B:Nat)(p:Option Addr)(n:Nat)(W W':World):Prop:=(∀o,W'.cell? ⟨B,o,none⟩=W.cell? ⟨B,o,none⟩)/\(0<n->∀a,p=some a->∀o,W'.cell? ⟨a.block,o,none⟩=W.cell? ⟨a.block,o,none⟩)
theorem YN(n:Nat)(hn:1<=n)(Bc c:Nat)(d:List Nat)(p:Option Addr)(w:World)(hB:Bc<w.heap.size)(c0:w.cell? ⟨Bc,0,none⟩=some (.slice p d.length c))(hr:Row w p c d) :
  SeqStopsK Fence.wide n Tryz.prog 267 #[.pointer (some ⟨Bc,0,none⟩)] (λx:Dg=>#[.int .u32 (x.1:Int)]) (KR Bc p d.length) (λxs=>xs.map (·.1)=d.reverse) (λ_=>True) d.length w:=λL J Jx W hW _ _ hY h0=>by
 have k0:W.cell? ⟨Bc,0,none⟩=some (.slice p d.length c):=(hW.cell (p:=⟨Bc,0,none⟩) hB).trans c0;have hrW:Row W p c d:=hr.ext hW;have hma:=hr.max;have hle:=hr.le;clear c0 hr;refine callsIn_of_wp Tryz.func267 rfl trivial ?_ rfl;simp only[Tryz.ntmps267,List.size_toArray,List.length_cons,List.length_nil,Nat.reduceAdd,Nat.reduceSub,Array.replicate_succ,Array.replicate_zero,List.push_toArray,List.append_toArray,List.nil_append,List.cons_append];gi_wp2
 gi_loopw [3] (λi wr=>∃(k:Nat) (pre:List Dg),i=.int .i64 ((k:Int)-1)/\pre.length+k=d.length/\pre.map (·.1)=(d.drop k).reverse/\J pre wr/\KR Bc p d.length W wr) (λi _=>(intOf i+1).toNat)
 case atStart=>exact⟨d.length,[],rfl,by simp,by rw[List.drop_eq_nil_of_le (Nat.le_refl _)];rfl,h0,λ_=>rfl,λ_ _ _ _=>rfl⟩
 case round =>
  obtain⟨k,pre,rfl,hk,hpre,hJ,hK1,hK2⟩:=hrel;have m0:wr.cell? ⟨Bc,0,none⟩=some (.slice p d.length c):=(hK1 0).trans k0;cases k with
  | zero =>
   have HJ:=Lib.hid hJ;have HP:=Lib.hid hpre;clear hJ hpre hK1 hK2 hk;have e:(((0:Nat):Int)-1) = -1:=by omega
   rw[e];clear e;gi_wp2;go_end0;exact⟨⟨_,rfl⟩,.inl ⟨pre,by rw[HP.out,List.drop_zero],HJ.out⟩⟩
  | succ j =>
   have e:(((j+1:Nat):Int)-1)=(j:Int):=by omega
   rw[e];clear e;obtain⟨ba,oa,rfl,hba,hca⟩:=hrW.at (by omega);have ca1:wr.cell? ⟨ba,oa+j,none⟩=some (.int .u32 ((d[j]?.getD 0:Nat):Int)):=(hK2 (by omega) _ rfl _).trans (hca j (by omega));have hxd:=hrW.dig.getD j;rw[List.getD_eq_getElem?_getD] at hxd;have hjd:j<d.length:=by omega
   have hdrop:d.drop j=d[j]?.getD 0::d.drop (j+1):=by rw[List.drop_eq_getElem_cons hjd,kS hjd]
   obtain⟨x,X⟩:∃x,Hid (d[j]?.getD 0=x):=⟨_,rfl⟩;rw[X.out] at ca1 hxd hdrop;obtain⟨f1,t1,a1,b1,hy1,hR1⟩:=hY pre ⟨x,hxd⟩ wr hJ (by omega);dsimp only at hy1;have HP:=Lib.hid hpre;have HD:=Lib.hid hdrop;have HK1:=Lib.hid hK1;have HK2:=Lib.hid hK2;clear hca hpre hJ hdrop hK1 hK2;gi_wp2;refine hR1.mono ?_;rintro e W1 (⟨rfl,hJ1,hkk1,hkk2⟩|⟨rfl,hx1⟩)
   ·have HJ1 := Lib.hid hJ1;have HL1:=Lib.hid hkk1;have HL2:=Lib.hid hkk2;clear hJ1 hkk1 hkk2;gi_wp2;refine⟨⟨j,pre++[⟨x,hxd⟩],rfl,by simp;omega,?_,HJ1.out,λo=>(HL1.out o).trans (HK1.out o),λh a ha o=>(HL2.out h a ha o).trans (HK2.out h a ha o)⟩,by simp[intOf]⟩;rw[List.map_append,HP.out,HD.out,List.reverse_cons];rfl
   ·gi_wp2;refine bodyPost_ret (results_none rfl _ _ _) rfl ?_;exact⟨⟨_,rfl⟩,.inr ⟨_,trivial,hx1⟩⟩
theorem a15(p:Option Addr)(l c:Nat)(w:World) :
  Calls Tryz.prog 209 #[.slice p l c] w λe w'=>e=.returned (.func (.func 267) #[] #[.pointer (some ⟨w.heap.size,0,none⟩)])/\ac w w'/\w'.cell? ⟨w.heap.size,0,none⟩=some (.slice p l c)/\w.heap.size<w'.heap.size:=by
 go_enter Tryz.func209,Tryz.ntmps209;go_wp2;go_ret;exact⟨rfl,ag,by go_simp,by simp⟩
theorem a6M{b:List Nat}(tb:ee b)(h:0<b.length):0<val b:=by
 rcases Nat.eq_zero_or_pos (val b) with h0|h0
 ·exfalso;rcases List.eq_nil_or_concat b with rfl|⟨c,x,rfl⟩
  ·simp at h
  ·have hx : x ≠ 0 := by have := tb (by simp); simpa using this
   rw[List.concat_eq_append,val_append,show val [x]=x from (by simp[val])] at h0;have h1:0<4294967296 ^ c.length:=Nat.pow_pos (by omega);have h2:=Nat.mul_pos h1 (show 0<x by omega);omega
 ·exact h0
theorem a7h{n:Int}(h1 : -9223372036854775808<=n)(h2:n<=9223372036854775807):IntKind.i64.wrap n=n:=IntWalk.i64_in _ ⟨h1,h2⟩
def mI(a:Nm):Int×Bool:=if a.right&&decide (a.d.length<=2)&&decide (-9223372036854775808<=a.z)&&decide (a.z<=9223372036854775807) then (a.z,true) else (0,false)
def Vl(w:World)(r:Int×Bool)(e:Ending)(w':World):Prop:=e=.returned (.tuple #[.int .i64 r.1,.bool r.2])/\ac w w'
def oD(pre:List Dg):Nat:=pre.foldl (λm x=>m*4294967296+x.1) 0
theorem Vv(pre:List Dg)(x:Dg):oD (pre++[x])=oD pre*4294967296+x.1:=by simp[oD]
theorem LV:∀(pre:List Dg),oD pre=val (pre.map (·.1)).reverse:=by
 intro pre;have h:∀(l:List Dg) (m:Nat),l.foldl (λm x=>m*4294967296+x.1) m=val (l.map (·.1)).reverse+4294967296 ^ l.length*m:=by
  intro l;induction l with|nil=>intro m;simp[val]|cons x l ih =>
   intro m;rw[List.foldl_cons,ih,List.map_cons,List.reverse_cons,val_append,show val [x.1]=x.1 from (by simp[val]),List.length_reverse,List.length_map,List.length_cons,Nat.pow_succ];rw[Nat.mul_add,Nat.mul_assoc,Nat.mul_comm m];omega
 rw[oD,h,Nat.mul_zero,Nat.add_zero]
theorem Vu(pre:List Dg):oD pre<4294967296 ^ pre.length:=by
 rw[LV];have:=ip (d:=(pre.map (·.1)).reverse) (by intro y hy;rw[List.mem_reverse,List.mem_map] at hy;obtain⟨z,_,rfl⟩:=hy;exact z.2);rwa [List.length_reverse,List.length_map] at this
theorem a1Z(a:Nm)(na:Bool)(pa:Option Addr)(la ca:Nat)(w:World)(ha:NR w na pa la ca a) :
  Calls Tryz.prog 144 #[.agg #[.bool na,.slice pa la ca]] w (Vl w (mI a)):=by
 have RA:=Lib.hid (λw' (hx:ac w w')=>c9 a na pa la ca w' (ha.ext hx));cases ra:a.right with|false =>
  rw[ra] at RA;have hP:mI a=(0,false):=by unfold mI;rw[ra];rfl
  rw[hP];go_enter Tryz.func144,Tryz.ntmps144;go_wp2_with fail;refine (RA.out _ ag).mono ?_;rintro e w1 ⟨rfl,hx⟩;have hx0:ac w w1:=ac.step ag hx;go_wp2;go_ret2;exact⟨rfl,hx0⟩|true =>
  rw[ra] at RA;by_cases hl:2<la
  ·have hP:mI a=(0,false):=by
    have:=ha.2.1;unfold mI;rw[if_neg];simp;intros;omega
   rw[hP];go_enter Tryz.func144,Tryz.ntmps144;go_wp2_with fail;refine (RA.out _ ag).mono ?_;rintro e w1 ⟨rfl,hx⟩;have hx0:ac w w1:=ac.step ag hx;obtain⟨_,_,hk_w1_0,hf_w1_0⟩:=vM hx w.heap.size;go_wp2;go_ret2;exact⟨rfl,hx0⟩
  ·have dl : decide (2 < (la : Int)) = false := by rw [decide_eq_false_iff_not]; omega
   obtain rfl:la=a.d.length:=ha.2.1;have hlen:a.d.length<=2:=by omega
   clear hl;refine (callsIn_wide (n:=6)).1 ?_;have RA':=Lib.hid (λw' (hx:ac w w')=>(callsIn_wide (n:=5)).2 (RA.out w' hx));have HA:=Lib.hid ha;have HLEN:=Lib.hid hlen;have hrow0:=ha.2.2;clear ha RA hlen;refine callsIn_of_wp_marks Tryz.func144 rfl trivial ?_ rfl;simp only[Tryz.ntmps144,List.size_toArray,List.length_cons,List.length_nil,Nat.reduceAdd,Nat.reduceSub,Array.replicate_succ,Array.replicate_zero,List.push_toArray,List.append_toArray,List.nil_append,List.cons_append];gi_wp2;refine⟨trivial,(RA'.out _ ag).mono ?_⟩;rintro e w1 ⟨rfl,hx⟩;have hx0:ac w w1:=ac.step ag hx
   obtain⟨_,_,hk_w1_0,hf_w1_0⟩:=vM hx w.heap.size;have g0:w1.cell? ⟨w.heap.size,0,none⟩=some (.bool na):=by go_simp
   have g1:w1.cell? ⟨w.heap.size,1,none⟩=some (.slice pa a.d.length ca):=by go_simp
   clear hk_w1_0 hf_w1_0;gi_wp2;refine⟨trivial,(callsIn_wide.2 (a15 pa a.d.length ca _)).mono ?_⟩;rintro e w2 ⟨rfl,hx2,b0,hb⟩;have hs2:=hx2.size;simp at hs2 b0 hb;have hx3:ac w w2:=ac.step ag hx2;have e0:w2.cell? ⟨w.heap.size,0,none⟩=some (.bool na):=(hx2.cell (p:=⟨w.heap.size,0,none⟩) (by simp;omega)).trans (by go_simp);have e1:w2.cell? ⟨w.heap.size,1,none⟩=some (.slice pa a.d.length ca):=(hx2.cell (p:=⟨w.heap.size,1,none⟩) (by simp;omega)).trans (by go_simp);have e2:w2.cell? ⟨w1.heap.size,0,none⟩=some (.int .u64 0):=(hx2.cell (p:=⟨w1.heap.size,0,none⟩) (by simp)).trans (by go_simp)
   have e3:w2.frozen? ⟨w1.heap.size,0,none⟩=false:=(hx2.frozen (p:=⟨w1.heap.size,0,none⟩) (by simp)).trans (by go_simp);have hrow:=hrow0.ext hx3;have hpb:∀x,pa=some x->0<a.d.length->x.block<w.heap.size:=by
    intro x hp h0;obtain⟨b',o',hp',hlt,_⟩:=hrow0.at h0;rw[hp] at hp';cases hp';exact hlt
   clear hx2;gi_wp2;refine wpIn_rangeFunc_ownF rfl (by omega) (gf:=267) (lb:=#[.pointer (some ⟨w1.heap.size+1,0,none⟩)]) rfl trivial (enters_of Tryz.func267 (by kernel_rfl) rfl)
    (YN 5 (by omega) (w1.heap.size+1) ca a.d pa w2 hb b0 hrow) (λh k=>⟨λo=>(k.1 o).trans (h.1 o),λz x hx o=>(k.2 z x hx o).trans (h.2 z x hx o)⟩)
    (λW L o o' hL hW ho _=>⟨λq=>World.cell?_of_block (World.putObj_heap_other (by show w1.heap.size+1≠L;omega)),λz x hx q=>World.cell?_of_block (World.putObj_heap_other (by have:=hpb x hx z;show x.block≠L;omega))⟩) (Below.refl _ _) (λ_=>rfl)
    (λpre W=>((W.cell? ⟨w.heap.size,0,none⟩=some (.bool na)/\W.cell? ⟨w.heap.size,1,none⟩=some (.slice pa a.d.length ca)/\W.cell? ⟨w1.heap.size,0,none⟩=some (.int .u64 ((oD pre:Nat):Int))/\W.frozen? ⟨w1.heap.size,0,none⟩=false)/\Below w.heap.size w W)/\w2.heap.size<=W.heap.size)
    (λ_ _ _=>False)
    (OwnFrom.and (OwnFrom.and (Own.from (λs A B row hs hg hr=>⟨cell_kept hs.1 hg hr,cell_kept hs.2.1 hg hr,cell_kept hs.2.2.1 hg hr,(frozen_kept hs.2.2.1 hg hr).trans hs.2.2.2⟩) _) (ownFrom_below (Nat.le_refl _) (by omega))) (λs A B row hs hg hr=>Nat.le_trans hs hg.size))
    (λ_ _ _ _ _ hs _ _=>hs)
    ⟨⟨⟨e0,e1,e2,e3⟩,hx3⟩,Nat.le_refl _⟩
    (λx=>{ tmps:=#[.agg #[.bool na,.slice pa a.d.length ca],.pointer (some ⟨w.heap.size,0,none⟩),.int .i64 0,.bool false,.pointer (some ⟨w1.heap.size,0,none⟩),.int .u32 (x.1:Int),.agg #[.bool na,.slice pa a.d.length ca],.bool true,.bool false,.bool false,.pointer (some ⟨w.heap.size,1,none⟩),.slice pa a.d.length ca,.int .i64 (a.d.length:Int),.bool false,.bool false,.pointer (some ⟨w.heap.size,1,none⟩),.slice pa a.d.length ca,.func (.func 267) #[] #[.pointer (some ⟨w1.heap.size+1,0,none⟩)],.int .u32 (x.1:Int),undef,undef,undef,undef,undef,undef,undef,undef,undef,undef,undef,undef,undef,undef,undef,undef,undef,undef,undef,undef,undef,undef,undef,undef,undef],defers:=[] }) ?assign ?body ?done ?stop
   case assign =>
    intro L x W K hK;gi_wp2;exact hK
   case body =>
    rintro L pre x W ⟨⟨⟨c0,c1,c2,c3⟩,hB⟩,hz⟩ hpl;have hx1:=x.2;have hac:oD pre<4294967296:=by
     have:=Vu pre;have h1:pre.length<=1:=by have:=HLEN.out;omega
     exact Nat.lt_of_lt_of_le this (Nat.pow_le_pow_right (n:=4294967296) (i:=pre.length) (j:=1) (by omega) h1)
    have OR:=zg (oD pre) x.1 hac hx1;have SN:=Lib.hid (Vv pre x);have hWl:w.heap.size<W.heap.size:=by omega
    have hWm:w1.heap.size<W.heap.size:=by omega
    have hne:w.heap.size≠w1.heap.size:=by omega
    have hne':w1.heap.size≠w.heap.size:=by omega
    clear hpl;gi_wp2;refine⟨KeepsOthers.setCell _ _ _,⟨λo=>?_,λz y hy o=>?_⟩,⟨⟨?_,?_,?_,?_⟩,?_⟩,?_⟩
    ·go_simp
    ·have hn : w1.heap.size ≠ y.block := by have := hpb y hy z; omega
     have hn':=Ne.symm hn;go_simp
    ·go_simp
    ·go_simp
    ·rw[SN.out];go_simp
    ·go_simp
    ·exact ag
    ·simp;omega
   case done =>
    rintro D xs W hD hS ⟨⟨⟨c0,c1,c2,c3⟩,hB⟩,hz⟩ hK;have hacc:oD xs=val a.d:=by rw[LV,hS,List.reverse_reverse]
    have hM64:val a.d<18446744073709551616:=by
     have:=ip hrow0.dig;exact Nat.lt_of_lt_of_le this (Nat.pow_le_pow_right (n:=4294967296) (i:=a.d.length) (j:=2) (by omega) HLEN.out)
    have hsgn:na=a.neg:=HA.out.1;have hzv:a.z=if na then -(val a.d:Int) else val a.d:=by unfold Nm.z;rw[hsgn]
    have hpos:na=true->0<val a.d:=by
     intro h;refine a6M (a.right_iff.1 ra).2.1 ?_;rcases Nat.eq_zero_or_pos a.d.length with g|g
     ·have := (a.right_iff.1 ra).2.2 (List.eq_nil_of_length_eq_zero g);rw[hsgn,this] at h;cases h
     ·exact g
    have hP:mI a=if decide (-9223372036854775808<=a.z)&&decide (a.z<=9223372036854775807) then (a.z,true) else (0,false):=by
     unfold mI;rw[ra,show decide (a.d.length<=2)=true by simpa using HLEN.out];rfl
    rw[hzv] at hP;rw[hacc] at c2;obtain⟨M,HM⟩:∃M,Hid (val a.d=M):=⟨_,rfl⟩;rw[HM.out] at c2 hM64 hpos hP;have HP:=Lib.hid hP;have HK:=Lib.hid hK;clear hP hzv hsgn hacc hS hpb hrow0 hrow dl;cases na
    ·by_cases h63 : M < 9223372036854775808
     ·have d1 : decide ((M : Int) < 9223372036854775808) = true := by rw [decide_eq_true_eq]; omega
      have w0:IntKind.i64.wrap (M:Int)=(M:Int):=a7h (by omega) (by omega);have r:(if (decide (-9223372036854775808<=(if false=true then -(M:Int) else (M:Int)))&&decide ((if false=true then -(M:Int) else (M:Int))<=9223372036854775807))=true then ((if false=true then -(M:Int) else (M:Int)),true) else (0,false))=(((M:Int),true):Int×Bool):=by
       rw[if_pos];rfl;simp;omega
      have RES:=Lib.hid (HP.out.trans r);clear r HP;gi_wp2;refine⟨by simp,.inl ⟨_,_,rfl,run_takeDeferred HK.out,?_⟩⟩;refine⟨_,results_tmp2 rfl _ _ _,?_,hB.trans (belowK_b (w:=w) (Nat.le_refl _) W D _ _ (by omega) HK.out rfl rfl)⟩;rw[RES.out];rfl
     ·have d1 : decide ((M : Int) < 9223372036854775808) = false := by rw [decide_eq_false_iff_not]; omega
      have r:(if (decide (-9223372036854775808<=(if false=true then -(M:Int) else (M:Int)))&&decide ((if false=true then -(M:Int) else (M:Int))<=9223372036854775807))=true then ((if false=true then -(M:Int) else (M:Int)),true) else (0,false))=((0,false):Int×Bool):=by
       rw[if_neg];simp;omega
      have RES:=Lib.hid (HP.out.trans r);clear r HP;gi_wp2;refine⟨by simp,.inl ⟨_,_,rfl,run_takeDeferred HK.out,?_⟩⟩;refine⟨_,results_tmp2 rfl _ _ _,?_,hB.trans (belowK_b (w:=w) (Nat.le_refl _) W D _ _ (by omega) HK.out rfl rfl)⟩;rw[RES.out];rfl
    ·by_cases h63 : M <= 9223372036854775808
     ·have d1 : decide ((M : Int) <= 9223372036854775808) = true := by rw [decide_eq_true_eq]; omega
      have hp:=hpos rfl;have w1:IntKind.u64.wrap (-(M:Int))=18446744073709551616-(M:Int):=by rw[u64_neg _ (by omega)];omega
      have w2:wrap64 (18446744073709551616-(M:Int)) = -(M:Int):=by
       unfold wrap64;omega
      have HW:=Lib.hid w1;have HW2:=Lib.hid w2;clear w1 w2;have r:(if (decide (-9223372036854775808<=(if true=true then -(M:Int) else (M:Int)))&&decide ((if true=true then -(M:Int) else (M:Int))<=9223372036854775807))=true then ((if true=true then -(M:Int) else (M:Int)),true) else (0,false))=((-(M:Int),true):Int×Bool):=by
       rw[if_pos];rfl;simp;omega
      have RES:=Lib.hid (HP.out.trans r);clear r HP;gi_wp2;refine⟨by simp,.inl ⟨_,_,rfl,run_takeDeferred HK.out,?_⟩⟩;refine⟨_,results_tmp2 rfl _ _ _,?_,hB.trans (belowK_b (w:=w) (Nat.le_refl _) W D _ _ (by omega) HK.out rfl rfl)⟩;have e:wrap64 (IntKind.u64.wrap (-(M:Int))) = -(M:Int):=by rw[HW.out,HW2.out]
      rw[RES.out];exact congrArg (λz=>Ending.returned (.tuple #[.int .i64 z,.bool true])) e
     ·have d1 : decide ((M : Int) <= 9223372036854775808) = false := by rw [decide_eq_false_iff_not]; omega
      have r:(if (decide (-9223372036854775808<=(if true=true then -(M:Int) else (M:Int)))&&decide ((if true=true then -(M:Int) else (M:Int))<=9223372036854775807))=true then ((if true=true then -(M:Int) else (M:Int)),true) else (0,false))=((0,false):Int×Bool):=by
       rw[if_neg];simp;omega
      have RES:=Lib.hid (HP.out.trans r);clear r HP;gi_wp2;refine⟨by simp,.inl ⟨_,_,rfl,run_takeDeferred HK.out,?_⟩⟩;refine⟨_,results_tmp2 rfl _ _ _,?_,hB.trans (belowK_b (w:=w) (Nat.le_refl _) W D _ _ (by omega) HK.out rfl rfl)⟩;rw[RES.out];rfl
   case stop =>
    rintro D c' pre W _ _ h _;exact h.elim
end
def kT(z:Int):Bool:=decide (-9223372036854775808<=z)&&decide (z<=9223372036854775807)
theorem HZ{z:Int}:kT z=true <-> -9223372036854775808<=z/\z<=9223372036854775807:=by
 unfold kT;rw[Bool.and_eq_true,decide_eq_true_eq,decide_eq_true_eq]
def kD(a:Rt)(n:Int):Rt×Bool:=if a.right&&kT (a.add+n) then (⟨a.add+n,a.s,a.n,a.d⟩,true) else (Rt.no,false)
theorem a2A{a:Rt}(h:dc a.add a.s a.n a.d=(a,true))(z:Int):dc z a.s a.n a.d=(⟨z,a.s,a.n,a.d⟩,true):=by
 obtain⟨add,s,n,d⟩:=a;simp only at h ⊢;unfold dc at h ⊢;split at h
 ·simp at h
 ·rename_i h1;rw[if_neg h1];split at h
  ·rename_i h2;rw[if_pos h2];simp only[Prod.mk.injEq,Rt.mk.injEq,and_true,true_and] at h ⊢;exact h
  ·rename_i h2;rw[if_neg h2];split at h
   ·simp at h
   ·rename_i h3;rw[if_neg h3];simp only[Prod.mk.injEq,Rt.mk.injEq,and_true,true_and] at h ⊢;exact h
theorem a3p{a:Rt}(hd:ao a.n.d/\ao a.d.d)(hr:a.right=true){n:Int}(hi:kT (a.add+n)=true):kD a n=dc (a.add+n) a.s a.n a.d:=by
 rw[a2A (Sz hd.1 hd.2 hr).2];unfold kD;rw[hr,hi];rfl
def wide(z:Int):Prop := -18446744073709551616<=z/\z<18446744073709551616
set_option maxRecDepth 100000
section
theorem a0x{z:Int}(h:z.natAbs<=18446744073709551616):mI (ai z)=if kT z then (z,true) else (0,false):=by
 have hs:small z=true:=by
  refine pJ (k:=3) ?_ (by decide);have:(18446744073709551617:Nat)<4294967296 ^ 3:=by decide +kernel
  omega
 unfold mI;rw[ic hs,fj];cases hi:kT z with
 | true =>
  obtain⟨h1,h2⟩:=HZ.1 hi;have hl:(ai z).d.length<=2:=by
   simp only[ai];refine (tG _ _).2 ?_;have:(9223372036854775809:Nat)<4294967296 ^ 2:=by decide +kernel
   omega
  rw[if_pos (by simp[hl,h1,h2])];rfl
 | false =>
  rw[if_neg]
  ·rfl
  ·intro g;simp only[Bool.and_eq_true,decide_eq_true_eq] at g;rw[HZ.2 ⟨g.1.2,g.2⟩] at hi;cases hi
def rZ(z:Int):Int:=if kT z then z else 0
theorem a0y{z:Int}:I64 (rZ z):=by
 unfold rZ;split
 ·rename_i h;obtain⟨h1,h2⟩:=HZ.1 h;unfold I64;omega
 ·unfold I64;omega
def a7k(f:FuncId)(H:∀(a:Nm) (na:Bool) (pa:Option Addr) (la ca:Nat) (w:World),NR w na pa la ca a->Calls Tryz.prog f #[.agg #[.bool na,.slice pa la ca]] w λe w'=>e=.returned (.tuple #[.int .i64 (mI a).1,.bool (mI a).2])/\ac w w'):ah where
 f:=f
 g:=λ| [⟨true,l⟩]=>(match uO l with|some (z,B)=>if B<=18446744073709551616 then some (.tup [aj (rZ z) lim,aN (kT z)],[]) else none|none=>none)|_=>none
 ok:=by
  intro args res ps h _
  split at h<;>try cases h
  split at h<;>try cases h
  split at h<;>cases h
  rename_i z B hz hB _
  intro W vals hv
  obtain⟨v,hv1,l1,rfl,hv2⟩:=aK.1 hv
  cases hv2
  obtain⟨b1,n,p,m,c,rfl,h1⟩:=Ad hz hv1
  refine (H _ _ _ _ _ W h1).mono ?_
  rintro e w' ⟨rfl,hx⟩
  have e1:mI (ai z)=(rZ z,kT z):=by rw[a0x (by omega)];unfold rZ;split<;>simp_all
  rw[e1]
  exact⟨_,rfl,⟨[_,_],rfl,aK.2 ⟨_,dL.2 ⟨aP a0y,rfl⟩,_,rfl,aK.2 ⟨_,af.val (i:=.v (.bool (kT z))) ⟨rfl,rfl⟩,_,rfl,rfl⟩⟩⟩,hx⟩
def WW:ah:=a7k 144 a1Z
def ox:List ah:=[FS,M9,WW,FO,xZ]
theorem a5m(a:Rt)(z:Int)(h:(a.right&&kT (a.add+z))=false):ae Tryz.prog 97 [dX a,aj z lim] (sV (Rt.no,false)):=by
 cases h1:kT (a.add+z) with|false=>exact ad ox [true] [pT (vY h1)] (by kernel_rfl)|true =>
  have h2:a.right=false:=by rw[h1,Bool.and_true] at h;exact h
  exact ad ox [false,true] [pF (hZ h1),pT (vY h2)] (by kernel_rfl)
theorem a5n(a:Rt)(z:Int)(h1:kT (a.add+z)=true)(h2:a.right=true):ae Tryz.prog 97 [dX a,aj z lim] (sV (dc (rZ (a.add+z)) a.s a.n a.d)) :=
 ad ox [false,false] [pF (hZ h1),pF (hZ h2)] (by kernel_rfl)
theorem a5l(a:Rt)(hd:ao a.n.d/\ao a.d.d)(z:Int):ae Tryz.prog 97 [dX a,aj z lim] (sV (kD a z)):=by
 cases h:(a.right&&kT (a.add+z)) with|false =>
  rw[show kD a z=(Rt.no,false) by unfold kD;rw[h];rfl];exact a5m a z h|true =>
  simp only[Bool.and_eq_true] at h;rw[a3p hd h.1 h.2,show a.add+z=rZ (a.add+z) by unfold rZ;rw[if_pos h.2]];exact a5n a z h.2 h.1
def a3o(f:FuncId)(H:∀(a:Rt),ao a.n.d/\ao a.d.d->∀z,ae Tryz.prog f [dX a,aj z lim] (sV (kD a z))):ah where
 f:=f;g:=λ| [⟨true,[.i a _,.i s _,.d (.num n),.d (.num d)]⟩,⟨false,[.i z _]⟩]=>some (sV (kD ⟨a,s,n,d⟩ z),[])|_=>none
 ok:=by
  intro args res ps h hp;split at h<;>cases h;rename_i a _ s _ n d z _;intro W vals hv;obtain⟨_,hx,_,rfl,hw⟩:=aK.1 hv;obtain⟨k1,k2,k3,_⟩:=zQ hx;exact H ⟨a,s,n,d⟩ ⟨k2,k3⟩ z W _ (aK.2 ⟨_,k1,_,rfl,aU B5 (λ_ h=>h) _ hw⟩)
def WA:ah:=a3o 97 a5l
end
section
def cI(D:List Deferred)(a:Act):Act:={ tmps:=a.tmps,defers:=D }
theorem G2(D:List Deferred)(a:Act):(cI D a).eval=a.eval:=by funext x;cases x<;>rfl
theorem uD(D:List Deferred)(a:Act)(d:Option Nat)(v:Value):(cI D a).put d v=cI D (a.put d v):=by cases d<;>rfl
def ig(l:List Oper)(t:Nat):Bool:=l.all λo=>!(o.dst==some t)
theorem Rj{a:Act}{o:Oper}{v:Value}{t:Nat}(h:(!(o.dst==some t))=true):(a.put o.dst v).tmps.getD t undef=a.tmps.getD t undef:=by
 cases hd:o.dst with|none=>rfl|some d =>
  have hne:d≠t:=by rw[hd] at h;simpa using h
  simp[Act.put,Array.getElem?_setIfInBounds,hne]
section
variable {P:Program} {ops:Array Oper} {S:World->Prop} {Q Q':Act->World->Prop}
theorem aL.df{o:Oper}{a:Act}{w:World}{R:Value->World->Prop}(D:List Deferred)(h:aL P o a w R):aL P o (cI D a) w R:=h.of_same (by rw[G2])
theorem aG.df(D:List Deferred):∀ {l:List Oper} {a:Act} {own:List Nat} {F:World->Prop},aG P ops S Q l a own F->(∀a' W,Q a' W->(∀t,ig l t=true->a'.tmps.getD t undef=a.tmps.getD t undef)->Q' (cI D a') W)->aG P ops S Q' l (cI D a) own F
 | [],a,own,F,h,hQ=>λw hw=>hQ _ _ (h w hw) λ_ _=>rfl
 | o::l,a,own,F,h,hQ=>by
  have nx:∀(v:Value) (a':Act) (W:World),Q a' W->(∀t,ig l t=true->a'.tmps.getD t undef=(a.put o.dst v).tmps.getD t undef)->Q' (cI D a') W:=λv a' W hq ht=>hQ a' W hq λt hoff=>by
   unfold ig at hoff;rw[List.all_cons,Bool.and_eq_true] at hoff;rw[ht t hoff.2,Rj hoff.1]
  cases (show aW P ops S (aG P ops S Q l) o a own F from h) with
  | pure v hy h=>exact .pure v (by unfold YieldsIf at *;rw[G2];exact hy) (by rw[uD];exact aG.df D h (nx v))
  | flo hk hw obj hr h=>exact .flo hk hw obj (by rw[G2];exact hr) λg hg hs=>by rw[uD];exact aG.df D (h g hg hs) (nx _)
  | eff hk hw I sh T hm hg h=>exact .eff hk hw I sh T hm (λw hw'=>(hg w hw').df D) λt ht=>by rw[uD];exact aG.df D (h t ht) (nx _)
  | sto hk hw I sh T hm hs hg h=>exact .sto hk hw I sh T hm hs (λw hw'=>(hg w hw').df D) λt ht=>by rw[uD];exact aG.df D (h t ht) (nx _)
  | mu hk hw B hB I sh T hm hs hg h=>exact .mu hk hw B hB I sh T hm hs (λw hw'=>(hg w hw').df D) λt ht=>by rw[uD];exact aG.df D (h t ht) (nx _)
end
noncomputable def Tj(X:List Eff)(K:List ah)(ops:List Oper)(n:Nat)(d d':Ds)(q:List Bool):Option (List Prop) :=
 match ct Tryz.prog (env X) (m9 X K) ops.toArray fE ops { bI n d with al:=1 } q with|some (s',ob,[])=>if Tryz.prog.follows .mixedOrders&&fN ops.toArray&&ob.ld.all (λb=>(mb d.m b).isSome&&!(ob.st.contains b))&&(s'.t.n==n) then (kU s' d').map (ob.ps++·) else none|_=>none
theorem a4A{X:List Eff}{K:List ah}{id n:Nat}{ops:List Oper}{d d':Ds}{q:List Bool}(pf:List Pf)(h:Tj X K ops n d d' q=some (pf.map Pf.p)){V w:World}{a:Act}{Q:Exit->Act->World->Prop}(hJ:JJ V (bI n d) (cI [] a) w)
  (hQ:∀a' W,JJ V (bI n d') a' W->(∀t,ig ops t=true->a'.tmps.getD t undef=a.tmps.getD t undef)->Q .normal (cI a.defers a') W):(Code.region id ops.toArray true).wp Tryz.prog Q a w:=by
 have hp:=ku pf;generalize pf.map Pf.p=ps at h hp;unfold Tj at h;split at h
 ·rename_i s' ob h1;split at h
  ·rename_i hc;simp only[Bool.and_eq_true,beq_iff_eq] at hc;obtain⟨⟨⟨hm,hB⟩,hd⟩,hn⟩:=hc;cases h2:kU s' d' with|none=>simp[h2] at h|some ps2 =>
    simp only[h2,Option.map_some,Option.some.injEq] at h;subst h;obtain⟨p1,p2⟩:=aw.app hp;obtain⟨r,cm,hj⟩:=hJ;have hC:Cond V (dN { bI n d with al:=1 }) r cm (bI n d).m ob.st (List.range w.heap.size) r cm (bI n d).m :=
     ⟨Nat.le_refl _,λ_ _=>rfl,λb x hb _=>⟨rfl,hb⟩,λ_ b hb=>List.mem_range.2 (hj.1.1.bd b hb),λg hg=>List.mem_range.2 (Nat.lt_of_lt_of_le hg hj.1.1.ext.size),λ_ _=>rfl⟩
    have hW:=LU (od X K) (Q:=λa' W=>JJ V s' a' W) (n0:=w.heap.size) (ops:=ops.toArray) (s:={ bI n d with al:=1 }) (m0:=(bI n d).m) (X:=ob.st) h1 p1 (show (1:Nat)≠0 by decide) (λb hb=>hb) (λb hb=>by
     have:=List.all_eq_true.1 hd b hb;simp only[Bool.and_eq_true,Bool.not_eq_true',List.contains_eq_mem,decide_eq_false_iff_not] at this;exact this) hC ⟨w,⟨hC.s0 (s:=bI n d) hj (Nat.le_refl _),hj,Nat.le_refl _⟩⟩ (F:=λW=>S0 V w.heap.size r cm (bI n d).m ob.st W/\J V r cm (bI n d) (cI [] a) W/\w.heap.size<=W.heap.size) (λW hW=>hW.2) (λa' W r' cm' _ hJ=>⟨r',cm',hJ⟩)
    have ha:a=cI a.defers (cI [] a):=rfl;rw[ha];refine EB (id:=id) (l:=ops) (S0 V w.heap.size r cm (bI n d).m ob.st) (λW=>J V r cm (bI n d) (cI [] a) W/\w.heap.size<=W.heap.size) hm hB ⟨hC.s0 (s:=bI n d) hj (Nat.le_refl _),hj,Nat.le_refl _⟩
     (λW W' hh hb=>⟨hC.s0 (s:=bI n d) (J.mono _ _ hh.2.1 hb) (Nat.le_trans hh.2.2 hb.size),J.mono _ _ hh.2.1 hb,Nat.le_trans hh.2.2 hb.size⟩) (λW hW=>hW.1.2)
     (aG.df a.defers hW λa' W hq ht=>hQ a' W (vR h2 p2 hn hq) ht)
  ·cases h
 ·cases h
end
section
section
variable {P:Program} {V:World} {E:Env} {call:gw} {ops:Array Oper} {qk:Oper->Bool} {Q Q':Act->World->Prop}
def aF(P:Program)(ops:Array Oper)(Q:Act->World->Prop):List Oper->Act->World->Prop
 | [],a,w=>Q a w|o::l,a,w=>(Region.wanted o (yielded ops a.tmps)=true/\∃R:Value->World->Prop,aL P o a w R/\∀v w',R v w'->aF P ops Q l (a.put o.dst v) w')\/(Region.wanted o (yielded ops a.tmps)=false/\aF P ops Q l (a.put o.dst undef) w)
theorem Fe(hs:iP P E call):∀ {l:List Oper} {s s':St} {q q':List Bool} {ob:Ob} {a:Act} {w:World} {r:Nat->Nat} {cm:Nat->List Value},ct P E call ops qk l s q=some (s',ob,q')->aw ob.ps->J V r cm s a w ->
  (∀a' W r' cm',J V r' cm' s' a' W->Q a' W)->aF P ops Q l a w
 | [],s,s',q,q',ob,a,w,r,cm,h,_,hJ,hQ=>by
  unfold ct at h;cases h;exact hQ _ _ _ _ hJ
 | o::l,s,s',q,q',ob,a,w,r,cm,h,hp,hJ,hQ=>by
  unfold ct at h;unfold aF;split at h
  ·cases h
  ·rename_i sg ps q1 hg;split at h
   ·cases h
   cases hl:ct P E call ops qk l (put sg o.dst .und) q1 with
   | none=>simp[hl] at h
   | some z =>
    obtain⟨s2,ob2,q2⟩:=z;simp only[hl,Option.map_some,Option.some.injEq,Prod.mk.injEq] at h;obtain⟨rfl,rfl,rfl⟩:=h;obtain⟨p1,p2⟩:=aw.app hp;obtain⟨hJ,hw⟩:=hJ.gd hg p1;exact .inr ⟨hw,Fe hs hl p2 (J.put hJ.1.1 hJ.2 hJ.1.2 rfl) hQ⟩
  ·rename_i sg ps q1 hg;split at h
   ·cases h
   ·rename_i v s1 ob1 q2 hd;cases hl:ct P E call ops qk l (put s1 o.dst v) q2 with
    | none=>simp[hl] at h
    | some z =>
     obtain⟨s2,ob2,q3⟩:=z;simp only[hl,Option.map_some,Option.some.injEq,Prod.mk.injEq] at h;obtain⟨rfl,rfl,rfl⟩:=h;obtain⟨p1,p2⟩:=aw.app hp;obtain⟨p3,p4⟩:=aw.app p1;obtain⟨hJ,hw⟩:=hJ.gd hg p3;refine .inl ⟨hw,_,Fb hs hJ hd p4,?_⟩;rintro x w' ⟨r',cm',_,⟨h1,h2⟩,h3⟩;exact Fe hs hl p2 (J.put h1 h2 hJ.1.2 h3) hQ
theorem aF.df(D:List Deferred):∀ {l:List Oper} {a:Act} {w:World},aF P ops Q l a w->(∀a' W,Q a' W->(∀t,ig l t=true->a'.tmps.getD t undef=a.tmps.getD t undef)->Q' (cI D a') W)->aF P ops Q' l (cI D a) w
 | [],a,w,h,hQ=>hQ _ _ h λ_ _=>rfl
 | o::l,a,w,h,hQ=>by
  have nx:∀(v:Value) (a':Act) (W:World),Q a' W->(∀t,ig l t=true->a'.tmps.getD t undef=(a.put o.dst v).tmps.getD t undef)->Q' (cI D a') W:=λv a' W hq ht=>hQ a' W hq λt hoff=>by
   unfold ig at hoff;rw[List.all_cons,Bool.and_eq_true] at hoff;rw[ht t hoff.2,Rj hoff.1]
  rcases (show _\/_ from h) with⟨hw,R,hg,hk⟩|⟨hw,hk⟩
  ·exact .inl ⟨hw,R,hg.df D,λv w' hr=>by rw[uD];exact aF.df D (hk v w' hr) (nx v)⟩
  ·exact .inr ⟨hw,by rw[uD];exact aF.df D hk (nx undef)⟩
theorem aF.wp{Q:Exit->Act->World->Prop}:∀ {l:List Oper} {a:Act} {w:World},aF P ops (λa w=>Q .normal a w) l a w->wpList P ops Q l a w
 | [],_,_,h=>h|o::l,a,w,h=>by
  unfold wpList;rcases (show _\/_ from h) with⟨hw,R,hg,hk⟩|⟨hw,hk⟩
  ·rw [if_pos hw];exact .inl (hg.wp λv w' hr=>aF.wp (hk v w' hr))
  ·rw [if_neg (by rw [hw]; decide)];exact aF.wp hk
theorem aF.wpIn{Q:Exit->Act->World->Prop}{r m:Nat}:∀ {l:List Oper} {a:Act} {w:World},(l.all λo=>match o.op with | .defer _=>false|_=>true)=true->aF P ops (λa w=>Q .normal a w) l a w->wpListIn (Fence.wide.inRound r) m P ops Q l a w
 | [],_,_,_,h=>h|o::l,a,w,hd,h=>by
  rw[List.all_cons,Bool.and_eq_true] at hd;unfold wpListIn;rcases (show _\/_ from h) with⟨hw,R,hg,hk⟩|⟨hw,hk⟩
  ·rw [if_pos hw];exact hg.wpIn (λc e=>by simp[e] at hd) λv w' hr=>aF.wpIn hd.2 (hk v w' hr)
  ·rw [if_neg (by rw [hw]; decide)];exact⟨λ_ _=>trivial,aF.wpIn hd.2 hk⟩
end
section
variable {P:Program} {ops:Array Oper} {Q:Act->World->Prop} {o:Oper} {a:Act} {w W:World}
theorem xf:∀ {l m:List Oper} {a:Act} {w:World},aF P ops (λa w=>aF P ops Q m a w) l a w->aF P ops Q (l++m) a w
 | [],_,_,_,h=>h|_::_,_,_,_,h=>by
  rcases (show _\/_ from h) with⟨hw,R,hg,hk⟩|⟨hw,hk⟩
  ·exact .inl ⟨hw,R,hg,λv w' hr=>xf (hk v w' hr)⟩
  ·exact .inr ⟨hw,xf hk⟩
theorem Aj{l:List Oper}(hw:Region.wanted o (yielded ops a.tmps)=true)(h:(execOp a.eval o).run P w=.ok .skip W)(hk:aF P ops Q l (a.put o.dst undef) W):aF P ops Q (o::l) a w :=
 .inl ⟨hw,λv w'=>v=undef/\w'=W,qw h ⟨rfl,rfl⟩,λv w' h=>by obtain⟨rfl,rfl⟩:=h;exact hk⟩
theorem jN{l:List Oper}{x:Value}(hw:Region.wanted o (yielded ops a.tmps)=true)(h:(execOp a.eval o).run P w=.ok (.value x) W)(hk:aF P ops Q l (a.put o.dst x) W):aF P ops Q (o::l) a w :=
 .inl ⟨hw,λv w'=>v=x/\w'=W,kC h ⟨rfl,rfl⟩,λv w' h=>by obtain⟨rfl,rfl⟩:=h;exact hk⟩
theorem Ey{l:List Oper}{f:FuncId}{args:Array Value}{R:Ending->World->Prop}(hw:Region.wanted o (yielded ops a.tmps)=true)(h:(execOp a.eval o).run P w=.ok (.enter f args) w)(hc:Calls P f args w R)(hR:∀e W,R e W->∃v,e=.returned v)(hk:∀v W,R (.returned v) W->aF P ops Q l (a.put o.dst v) W):aF P ops Q (o::l) a w:=by
 refine .inl ⟨hw,λv W=>R (.returned v) W,?_,λv w' h=>hk v w' h⟩;unfold aL;rw[h];exact hc.mono λe W hr=>by obtain⟨v,rfl⟩:=hR e W hr;exact⟨v,rfl,hr⟩
end
noncomputable def Tn(X:List Eff)(K:List ah)(ops l:List Oper)(n:Nat)(d d':Ds)(q:List Bool):Option (List Prop) :=
 match ct Tryz.prog (env X) (m9 X K) ops.toArray fE l { bI n d with al:=0 } q with|some (s',ob,[])=>if s'.t.n==n then (kU s' d').map (ob.ps++·) else none|_=>none
theorem sW{X:List Eff}{K:List ah}{n:Nat}{ops l:List Oper}{d d':Ds}{q:List Bool}(pf:List Pf)(h:Tn X K ops l n d d' q=some (pf.map Pf.p)){V w:World}{a:Act}{Q:Act->World->Prop}(hJ:JJ V (bI n d) (cI [] a) w)
  (hQ:∀a' W,JJ V (bI n d') a' W->(∀t,ig l t=true->a'.tmps.getD t undef=a.tmps.getD t undef)->Q (cI a.defers a') W):aF Tryz.prog ops.toArray Q l a w:=by
 have hp:=ku pf;generalize pf.map Pf.p=ps at h hp;unfold Tn at h;split at h
 ·rename_i s' ob h1;split at h
  ·rename_i hc;simp only[beq_iff_eq] at hc;cases h2:kU s' d' with|none=>simp[h2] at h|some ps2 =>
    simp only[h2,Option.map_some,Option.some.injEq] at h;subst h;obtain⟨p1,p2⟩:=aw.app hp;obtain⟨r,cm,hj⟩:=hJ;have hW:=Fe (od X K) (Q:=λa' W=>JJ V s' a' W) (ops:=ops.toArray) (s:={ bI n d with al:=0 }) h1 p1 hj (λa' W r' cm' hJ=>⟨r',cm',hJ⟩);exact aF.df (a:=cI [] a) a.defers hW λa' W hq ht=>hQ a' W (vR h2 p2 hc hq) ht
  ·cases h
 ·cases h
theorem sJ{n:Nat}{l:List (Nat×Rq)}{a:Act}{W:World}(hn:a.tmps.size=n)(hl:∀x∈l,au W W (λ_=>0) 0 x.2.v (a.tmps.getD x.1 undef)):JJ W (bI n ⟨l,[]⟩) (cI [] a) W:=by
 refine⟨λ_=>0,λ_=>[],⟨RM.nil (Below.refl _ _),rfl⟩,hn,λi v hv=>?_⟩;rcases Tr.sets_get (Tm.get_lt hv).2 with rfl|⟨x,hx',rfl⟩
 ·trivial
 ·exact hl _ hx'
theorem Tz{W:World}{l:List It}{cs ds:List Value}{b o:Nat}{xs:List Value}{T:TypeId}(hg:W.heap[b]? = some (.cells xs.toArray T))(ho:o<=xs.length)(hd:xs.drop o=cs++ds)(h:aE W l cs):au W W (λ_=>0) 0 ⟨false,[.fp l]⟩ (.pointer (some ⟨b,o,none⟩)) :=
 ⟨[_],⟨[_],[],rfl,⟨b,o,_,(T,(0,0)),rfl,hg,by simpa using ho,cs,ds,by simpa using hd,h⟩,rfl⟩,rfl,λ_=>rfl⟩
end
set_option maxHeartbeats 2000000
set_option maxRecDepth 100000
section
attribute [local go_sem] aL dz
theorem tr(n:Int):IntKind.i64.wrap (((BitVec.ofInt 64 n) &&& (BitVec.ofInt 64 3)).toNat:Int)=am n 4:=by
 have h1:(BitVec.ofInt 64 3).toNat=2 ^ 2-1:=by decide
 have h2:((BitVec.ofInt 64 n) &&& (BitVec.ofInt 64 3)).toNat=(n%18446744073709551616).toNat%4:=by
  rw[BitVec.toNat_and,h1,Nat.and_two_pow_sub_one_eq_mod,BitVec.toNat_ofInt];rfl
 rw[h2,wrap_in (by unfold I64;omega),Qf];have:=Int.tmod_eq_emod (a:=n) (b:=4);have h3:=lK n (m:=4) (by omega);rw[Qf] at h3;have h4:=En n (m:=4) (by omega);rcases Int.lt_or_le (n.tmod 4+4) 4 with g|g
 ·rw [Int.tmod_eq_of_lt (by omega) g];have:=Int.mul_tdiv_add_tmod n 4;omega
 ·have e:(n.tmod 4+4).tmod 4=n.tmod 4:=by
   have:=Int.mul_tdiv_add_tmod (n.tmod 4+4) 4;have h5:=En (n.tmod 4+4) (m:=4) (by omega);omega
  rw[e];have:=Int.mul_tdiv_add_tmod n 4;omega
theorem a63(ax ay t:Int)(m:Bool)(w:World) :
  Calls Tryz.prog 87 #[.agg #[.int .i64 ax,.int .i64 ay,.int .i64 t,.bool m]] w λe w'=>e=.returned (.int .i64 (am t 4))/\ac w w':=by
 go_enter Tryz.func87,Tryz.ntmps87;go_wp2;go_ret;exact⟨congrArg (λz=>Ending.returned (Value.int .i64 z)) (show bits BinOp.and IntKind.i64 t 3=am t 4 from tr t),ag⟩
def WP:ah where
 f:=87;g:=λ| [⟨true,[.i _ _,.i _ _,.i n _,.v (.bool _)]⟩]=>some (.one (aj (am n 4) 3),[])|_=>none
 ok:=by
  intro args res ps h hp;split at h<;>cases h;rename_i n _ _;intro W vals hv;simp only[aK,iL,bL,bi,nU,fh] at hv;obtain⟨_,⟨_,⟨_,_,rfl,_,_,rfl,_,_,rfl,_,_,rfl,rfl⟩,rfl⟩,_,rfl,rfl⟩:=hv;have hb:=lK n (m:=4) (by omega);exact (a63 _ _ _ _ W).mono λ_ _ h=>tW ⟨by omega,by unfold I64;omega⟩ h
def rm:List ah:=[WP]
def zR(ax ay n:Int)(m:Bool)(x y:Int):Int×Int:=(IntKind.i64.wrap (dO ax ay n m x y).1,IntKind.i64.wrap (dO ax ay n m x y).2)
theorem a6W(ax ay n x y:Int)(m:Bool):ae Tryz.prog 30 [o7 ax ay n m lim,ew x y fb] (.one (wB (zR ax ay n m x y))):=by
 unfold zR;have hb:=lK n (m:=4) (by omega);have q:∀k b,decide (k<am n 4)=b->decide (k<am n 4)=b:=λ_ _ h=>h
 by_cases h0:am n 4=0
 ·have f0 : decide (0 < am n 4) = false := by rw [h0]; rfl
  rw[uK h0];cases m with|true=>exact ad rm [true,false] [pT rfl,pF f0] (by kernel_rfl)|false=>exact ad rm [false,false] [pF rfl,pF f0] (by kernel_rfl)
 have t0:decide (0<am n 4)=true:=by simp;omega
 by_cases h1:am n 4=1
 ·have f1 : decide (0 + 1 < am n 4) = false := by rw [h1]; rfl
  rw[uL h1];cases m with|true=>exact ad rm [true,true,false] [pT rfl,pT t0,pF f1] (by kernel_rfl)|false=>exact ad rm [false,true,false] [pF rfl,pT t0,pF f1] (by kernel_rfl)
 have t1:decide (0+1<am n 4)=true:=by simp;omega
 by_cases h2:am n 4=2
 ·have f2 : decide (0 + 1 + 1 < am n 4) = false := by rw [h2]; rfl
  rw[uM h2];cases m with|true=>exact ad rm [true,true,true,false] [pT rfl,pT t0,pT t1,pF f2] (by kernel_rfl)|false=>exact ad rm [false,true,true,false] [pF rfl,pT t0,pT t1,pF f2] (by kernel_rfl)
 have h3:am n 4=3:=by omega
 have t2:decide (0+1+1<am n 4)=true:=by rw[h3];rfl
 have f3:decide (0+1+1+1<am n 4)=false:=by rw[h3];rfl
 rw[Uk h3];cases m with|true=>exact ad rm [true,true,true,true,false] [pT rfl,pT t0,pT t1,pT t2,pF f3] (by kernel_rfl)|false=>exact ad rm [false,true,true,true,false] [pF rfl,pT t0,pT t1,pT t2,pF f3] (by kernel_rfl)
theorem Yq(ax ay n x y:Int)(m:Bool):ae Tryz.prog 64 [o7 ax ay n m lim,ew x y fb] (.one (wB (zR ax ay n m x y))):=by
 unfold zR;have hb:=lK n (m:=4) (by omega);by_cases h1:am n 4=1
 ·rw [uL h1];cases m with|true=>exact ad [] [true,true] [pT rfl,p4,p4,pT (dD h1)] (by kernel_rfl)|false=>exact ad [] [false,true] [pF rfl,p4,p4,pT (dD h1)] (by kernel_rfl)
 by_cases h2:am n 4=2
 ·rw [uM h2];cases m with|true=>exact ad [] [true,false,true] [pT rfl,p4,p4,pF (aB h1),pT (dD h2)] (by kernel_rfl)|false=>exact ad [] [false,false,true] [pF rfl,p4,p4,pF (aB h1),pT (dD h2)] (by kernel_rfl)
 by_cases h3:am n 4=3
 ·rw [wX h3];cases m with|true=>exact ad [] [true,false,false,true] [pT rfl,p4,p4,pF (aB h1),pF (aB h2),pT (dD h3)] (by kernel_rfl)|false=>exact ad [] [false,false,false,true] [pF rfl,p4,p4,pF (aB h1),pF (aB h2),pT (dD h3)] (by kernel_rfl)
 ·rw [uK (by omega)];cases m with|true=>exact ad [] [true,false,false,false] [pT rfl,p4,p4,pF (aB h1),pF (aB h2),pF (aB h3)] (by kernel_rfl)|false=>exact ad [] [false,false,false,false] [pF rfl,p4,p4,pF (aB h1),pF (aB h2),pF (aB h3)] (by kernel_rfl)
end
section
section
variable {P:Program} {ops:Array Oper} {S:World->Prop} {Q:Act->World->Prop} {tail:List Oper} {o:Oper} {l:List Oper} {a:Act} {own:List Nat} {F:World->Prop}
theorem LQ{v:Value}(hw:Region.wanted o (yielded ops a.tmps)=true)(hr:∀w,S w->(execOp a.eval o).run P w=.ok (.value v) w)(h:jg P ops S Q tail l (a.put o.dst v) own F) :
  jg P ops S Q tail (o::l) a own F:=.pure v (.inl ⟨hw,hr⟩) h
theorem Vq{v:Value}(hk:av o=2)(hw:Region.wanted o (yielded ops a.tmps)=true)
  (hg:∀w,F w->aL P o a w (λu w'=>u=v/\Below w.heap.size w w')) (h:jg P ops S Q tail l (a.put o.dst v) own F):jg P ops S Q tail (o::l) a own F:=by
 refine .eff hk hw Unit (λ_=>v) (λ_ _=>True) (λ_ _ _ h _=>h) (λw hf=>(hg w hf).imp λu w' h=>⟨(),h.1,h.2,trivial⟩) (λt ht=>?_);have e:(λw=>F w/\True)=F:=by funext w;simp
 rw[e];exact h
theorem Vr(h:aG P ops (λ_=>True) Q tail a own F):jg P ops S Q tail [] a own F:=h
end
end
end Go.Proofs.YtghemgdfmldoeaaGreat
