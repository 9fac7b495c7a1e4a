import Derived.Test.YteajakbpmeebnaaGreatH20
import Derived.Shelf.Abstract
import Derived.Shelf.RegionOpen
set_option linter.unusedVariables false
set_option linter.unusedSimpArgs false

namespace Go.Proofs.YteajakbpmeebnaaGreat
open Go.RowKit

set_option maxHeartbeats 8000000
set_option maxRecDepth 100000
section
open Go.RowKit Go.Shelf
attribute [local go_sem] Oper.semAt_some
attribute [local go_sem] Gives givesU
abbrev Sgn:={ x:Int // -1<=x/\x<=1 }
def sP:Sgn:=⟨1,by omega⟩
def sM:Sgn:=⟨-1,by omega⟩
def signL(neg:Bool)(l:Nat):List Sgn:=if neg then [] else if l=0 then [sP] else [sP,sM]
def KB(B:Nat)(W W':World):Prop:=∀o,W'.cell? ⟨B,o,none⟩=W.cell? ⟨B,o,none⟩
theorem signs_stops(n:Nat)(hn:1<=n)(Bc l cp:Nat)(neg:Bool)(p:Option Addr)(w:World)(hB:Bc<w.heap.size)(c0:w.cell? ⟨Bc,0,none⟩=some (.bool neg))(c1:w.cell? ⟨Bc,1,none⟩=some (.slice p l cp))(hl:l<=9223372036854775807) :
  SeqStopsK Fence.wide n Tryz.prog 243 #[.pointer (some ⟨Bc,0,none⟩)] (fun x:Sgn=>#[.int .i64 x.1]) (KB Bc) (fun xs=>xs=signL neg l) (fun pre=>pre=[sP]\/pre=[sP,sM]) (if neg then 0 else 2) w:=fun L J Jx W hW _ _ hY h0=>by
 have k0:W.cell? ⟨Bc,0,none⟩=some (.bool neg):=(hW.cell (p:=⟨Bc,0,none⟩) hB).trans c0
 have k1:W.cell? ⟨Bc,1,none⟩=some (.slice p l cp):=(hW.cell (p:=⟨Bc,1,none⟩) hB).trans c1
 clear c0 c1
 refine callsIn_of_wp Tryz.func243 rfl trivial ?_ rfl
 simp only[Tryz.ntmps243,List.size_toArray,List.length_cons,List.length_nil,Nat.reduceAdd,Nat.reduceSub,Array.replicate_succ,Array.replicate_zero,List.push_toArray,List.append_toArray,List.nil_append,List.cons_append]
 cases neg with
 | true =>
  gi_wp2
  refine⟨fun _ h=>(by cases h),?_⟩
  gi_wp2
  refine bodyPost_ret (results_none rfl _ _ _) rfl ?_
  exact⟨⟨_,rfl⟩,.inl ⟨[],rfl,h0⟩⟩
 | false =>
  obtain⟨f1,t1,a1,b1,hy1,hR1⟩:=hY [] sP W h0 (by simp)
  dsimp only[sP] at hy1
  gi_wp2
  refine hR1.mono ?_
  rintro e W1 (⟨rfl,hJ1,hk⟩|⟨rfl,hx1⟩)
  ·have m1 : W1.cell? ⟨Bc, 1, none⟩ = some (.slice p l cp) := (hk 1).trans k1
   have hJ1':=Lib.hid hJ1
   by_cases hl0:l=0
   ·have lb : ((l : Int) == 0) = true := by simp [hl0]
    have S1:Hid ([sP]=signL false l):=by show [sP]=_;simp[signL,hl0]
    clear hl0
    gi_wp2
    refine bodyPost_ret (results_none rfl _ _ _) rfl ?_
    exact⟨⟨_,rfl⟩,.inl ⟨[sP],S1.out,hJ1'.out⟩⟩
   ·have lb : ((l : Int) == 0) = false := by simp [hl0]
    have S1:Hid ([sP,sM]=signL false l):=by show [sP,sM]=_;simp[signL,hl0]
    clear hl0
    obtain⟨f2,t2,a2,b2,hy2,hR2⟩:=hY [sP] sM W1 hJ1 (by simp)
    dsimp only[sM] at hy2
    gi_wp2
    refine hR2.mono ?_
    rintro e W2 (⟨rfl,hJ2,hk2⟩|⟨rfl,hx2⟩)
    ·gi_wp2
     go_end0
     exact⟨⟨_,rfl⟩,.inl ⟨[sP,sM],S1.out,hJ2⟩⟩
    ·gi_wp2
     go_end0
     exact⟨⟨_,rfl⟩,.inr ⟨[sP,sM],.inr rfl,hx2⟩⟩
  ·gi_wp2
   refine bodyPost_ret (results_none rfl _ _ _) rfl ?_
   exact⟨⟨_,rfl⟩,.inr ⟨[sP],.inl rfl,hx1⟩⟩
theorem meet_signs(n:Bool)(p:Option Addr)(l c:Nat)(w:World) :
  Calls Tryz.prog 236 #[.agg #[.bool n,.slice p l c]] w fun e w'=>e=.returned (.func (.func 243) #[] #[.pointer (some ⟨w.heap.size,0,none⟩)])/\Ext w w'/\w'.cell? ⟨w.heap.size,0,none⟩=some (.bool n)/\w'.cell? ⟨w.heap.size,1,none⟩=some (.slice p l c)/\w.heap.size<w'.heap.size:=by
 go_enter Tryz.func236,Tryz.ntmps236
 go_wp2
 go_ret
 exact⟨rfl,bxx,by go_simp,by go_simp,by simp⟩
def SR(w:World)(g c:Nat)(l:List (Int×Int)):Prop :=
 l.length<=c/\c<=9223372036854775807/\g<w.heap.size/\∀i x y,l[i]? = some (x,y)->∃n1 p1 l1 c1 n2 p2 l2 c2,w.cell? ⟨g,i*4,none⟩=some (.bool n1)/\w.cell? ⟨g,i*4+1,none⟩=some (.slice p1 l1 c1)/\w.cell? ⟨g,i*4+2,none⟩=some (.bool n2)/\w.cell? ⟨g,i*4+3,none⟩=some (.slice p2 l2 c2)/\NR w n1 p1 l1 c1 (ofZ x)/\NR w n2 p2 l2 c2 (ofZ y)
theorem SR.ext{w w':World}{g c:Nat}{l:List (Int×Int)}(h:SR w g c l)(hx:Ext w w'):SR w' g c l:=by
 obtain⟨h1,h2,h3,h4⟩:=h
 refine⟨h1,h2,Nat.lt_of_lt_of_le h3 hx.size,fun i x y hi=>?_⟩
 obtain⟨n1,p1,l1,c1,n2,p2,l2,c2,e0,e1,e2,e3,e4,e5⟩:=h4 i x y hi
 have k:=fun o=>hx.cell (p:=⟨g,o,none⟩) h3
 exact⟨n1,p1,l1,c1,n2,p2,l2,c2,(k _).trans e0,(k _).trans e1,(k _).trans e2,(k _).trans e3,e4.ext hx,e5.ext hx⟩
def goodS(d s:Int)(l:List (Int×Int)):Bool:=l.all fun p=>decide (0<=sideZ p.1 (s*p.2) d)
def countL(d:Int)(l:List (Int×Int))(ss:List Sgn):Int:=(ss.filter fun s=>goodS d s.1 l).length
def countZ(d:Int)(l:List (Int×Int)):Int:=countL d l (signL (decide (d<0)) (digs d.natAbs).length)
def Gd(x:Int):Prop:=x.natAbs<4294967296 ^ 20
theorem goodS_take{d s:Int}{l:List (Int×Int)}{k:Nat}{x y:Int}(h:l[k]? = some (x,y)):goodS d s (l.take (k+1))=(goodS d s (l.take k)&&decide (0<=sideZ x (s*y) d)):=by
 have hk:=(List.getElem?_eq_some_iff.1 h).1
 rw[List.take_succ_eq_append_getElem hk]
 rw[List.getElem?_eq_getElem hk] at h
 simp only[Option.some.injEq] at h
 simp[goodS,h]
theorem countL_snoc(d:Int)(l:List (Int×Int))(ss:List Sgn)(s:Sgn):countL d l (ss++[s])=countL d l ss+if goodS d s.1 l then 1 else 0:=by
 unfold countL
 rw[List.filter_append]
 cases h:goodS d s.1 l<;>simp[h]
theorem countL_bd(d:Int)(l:List (Int×Int))(ss:List Sgn):0<=countL d l ss/\countL d l ss<=ss.length:=by
 unfold countL
 have:=List.length_filter_le (fun s:Sgn=>goodS d s.1 l) ss
 omega
theorem Gd.small{x:Int}(h:Gd x):small x=true:=small_of_lt h (by omega)
theorem Gd.good{x:Int}(h:Gd x):goodB (ofZ x)=true:=by
 unfold goodB
 rw[ofZ_right h.small]
 have:=(digs_length_le x.natAbs 20).2 h
 exact decide_eq_true this
theorem Gd.sgn{x:Int}(h:Gd x)(s:Sgn):Gd (s.1*x):=by
 obtain⟨s,h1,h2⟩:=s
 unfold Gd at *
 obtain rfl|rfl|rfl:s = -1\/s=0\/s=1:=by omega
 ·simpa using h
 ·simp
 ·simpa using h
theorem signP_ofZ{x y d:Int}(hx:Gd x)(hy:Gd y)(hd:Gd d)(h0:0<=d):signP (ofZ x) (ofZ y) (ofZ d)=sideZ x y d:=by
 unfold signP
 rw[hx.good,hy.good,hd.good,ofZ_z,ofZ_z,ofZ_z]
 have:(ofZ d).neg=false:=by simp[ofZ];omega
 simp[this]
theorem KeepsOthers.of_ext{W W':World}(h:Ext W W'):KeepsOthers W W':=⟨h.size,fun k o hk _=>(h.block k (Array.getElem?_eq_some_iff.1 hk).1).trans hk⟩
theorem meet_count(d:Int)(l:List (Int×Int))(n:Bool)(p:Option Addr)(ln c g cp:Nat)(w:World)(hd:NR w n p ln c (ofZ d))(hl:SR w g cp l)(hG:Gd d)(hGl:∀(i:Nat) (x y:Int),l[i]? = some (x,y)->Gd x/\Gd y)(hlen:l.length<=1000) :
  Calls Tryz.prog 197 #[.agg #[.bool n,.slice p ln c],.slice (some ⟨g,0,none⟩) l.length cp] w fun e w'=>e=.returned (.int .i64 (countZ d l))/\Ext w w':=by
 have hln:ln<=9223372036854775807:=by
  have:=hd.2.1;have:=hd.2.2.le;have:=hd.2.2.max;omega
 have hnn:n=decide (d<0):=hd.1
 have hlz:ln=(digs d.natAbs).length:=hd.2.1
 have RES:Hid (countZ d l=countL d l (signL n ln)):=by show countZ d l=_;rw[countZ,hnn,hlz]
 have ND:Hid (n=decide (d<0)):=hnn
 clear hnn hlz
 have HGL:=Lib.hid hGl
 clear hGl
 refine (callsIn_wide (n:=6)).1 ?_
 refine callsIn_of_wp_marks Tryz.func197 rfl trivial ?_ rfl
 simp only[Tryz.ntmps197,List.size_toArray,List.length_cons,List.length_nil,Nat.reduceAdd,Nat.reduceSub,Array.replicate_succ,Array.replicate_zero,List.push_toArray,List.append_toArray,List.nil_append,List.cons_append]
 gi_wp2
 refine⟨trivial,(callsIn_wide.2 (meet_signs n p ln c _)).mono ?_⟩
 rintro e w1 ⟨rfl,hx,b0,b1,hb⟩
 have hx0:Ext w w1:=Ext.step bxx hx
 have hs0:=hx.size
 simp at hs0 b0 b1 hb
 have e0:w1.cell? ⟨w.heap.size,0,none⟩=some (.bool n):=(hx.cell (p:=⟨w.heap.size,0,none⟩) (by simp;omega)).trans (by go_simp)
 have e1:w1.cell? ⟨w.heap.size,1,none⟩=some (.slice p ln c):=(hx.cell (p:=⟨w.heap.size,1,none⟩) (by simp;omega)).trans (by go_simp)
 have e2:w1.cell? ⟨w.heap.size+1,0,none⟩=some (.slice (some ⟨g,0,none⟩) l.length cp):=(hx.cell (p:=⟨w.heap.size+1,0,none⟩) (by simp)).trans (by go_simp)
 have e3:w1.cell? ⟨w.heap.size+1+1,0,none⟩=some (.int .i64 0):=(hx.cell (p:=⟨w.heap.size+1+1,0,none⟩) (by simp)).trans (by go_simp)
 have e4:w1.frozen? ⟨w.heap.size+1+1,0,none⟩=false:=(hx.frozen (p:=⟨w.heap.size+1+1,0,none⟩) (by simp)).trans (by go_simp)
 clear hx
 gi_wp2
 refine wpIn_rangeFunc_ownF rfl (by omega) (gf:=243) (lb:=#[.pointer (some ⟨w.heap.size+1+1+1,0,none⟩)]) rfl trivial (enters_of Tryz.func243 (by kernel_rfl) rfl)
  (signs_stops 5 (by omega) (w.heap.size+1+1+1) ln c n p w1 hb b0 b1 hln) (fun h k o=>(k o).trans (h o)) (fun W L o o' hL hW ho _ q=>World.cell?_of_block (World.putObj_heap_other (by show w.heap.size+1+1+1≠L;omega))) (Below.refl _ _) (fun _=>rfl)
  (fun pre W=>((W.cell? ⟨w.heap.size,0,none⟩=some (.bool n)/\W.cell? ⟨w.heap.size,1,none⟩=some (.slice p ln c)/\W.cell? ⟨w.heap.size+1,0,none⟩=some (.slice (some ⟨g,0,none⟩) l.length cp)/\W.cell? ⟨w.heap.size+1+1,0,none⟩=some (.int .i64 (countL d l pre))/\W.frozen? ⟨w.heap.size+1+1,0,none⟩=false)/\Below w.heap.size w W)/\w1.heap.size<=W.heap.size)
  (fun _ _ _=>False)
  (OwnFrom.and (OwnFrom.and (Own.from (fun s A B row hs hg hr=>⟨cell_kept hs.1 hg hr,cell_kept hs.2.1 hg hr,cell_kept hs.2.2.1 hg hr,cell_kept hs.2.2.2.1 hg hr,(frozen_kept hs.2.2.2.1 hg hr).trans hs.2.2.2.2⟩) _) (ownFrom_below (Nat.le_refl _) (by omega))) (fun s A B row hs hg hr=>Nat.le_trans hs hg.size))
  (fun _ _ _ _ _ hs _ _=>hs)
  ⟨⟨⟨e0,e1,e2,e3,e4⟩,hx0⟩,Nat.le_refl _⟩
  (fun x=>{ tmps:=#[.agg #[.bool n,.slice p ln c],.slice (some ⟨g,0,none⟩) l.length cp,.pointer (some ⟨w.heap.size,0,none⟩),.pointer (some ⟨w.heap.size+1,0,none⟩),.int .i64 0,.pointer (some ⟨w.heap.size+1+1,0,none⟩),.int .i64 x.1,undef,undef,undef,.agg #[.bool n,.slice p ln c],.func (.func 243) #[] #[.pointer (some ⟨w.heap.size+1+1+1,0,none⟩)],.int .i64 x.1,undef,undef,undef,undef,undef,undef,undef,undef,undef,undef,undef,undef,undef,undef,undef,undef,undef,undef,undef,undef,undef,undef,undef,undef],defers:=[] }) ?assign ?body ?done ?stop
 case assign =>
  intro L x W K hK
  gi_wp2
  exact hK
 case body =>
  rintro L pre x W ⟨⟨⟨c0,c1,c2,c3,c4⟩,hB⟩,hz⟩ hpl
  have hxs:=x.2
  have hd0:Hid (0<=d):=by
   show 0<=d
   have:=ND.out
   cases n with
   | true=>simp at hpl
   | false=>simpa using this.symm
  have hn2:pre.length<2:=by
   cases n with
   | true=>simp at hpl
   | false=>simpa using hpl
  clear hpl
  have hzW:w.heap.size+1+1+1<=W.heap.size:=by omega
  have HM:=Lib.hid hlen
  clear hlen
  have hm:(l.length:Int)<=1000:=by have:=HM.out;omega
  gi_wp2
  gi_loopw [7,15] (fun gd i wr=>∃k:Nat,k<=l.length/\i=.int .i64 (k:Int)/\gd=.bool (goodS d x.1 (l.take k))/\Ext W wr) (fun _ i _=>l.length-(intOf i).toNat)
  case atStart=>exact⟨0,Nat.zero_le _,rfl,rfl,Below.refl _ _⟩
  case round =>
   obtain⟨k,hk,rfl,rfl,hx⟩:=hrel
   have hbx:Ext w wr:=Ext.step hB hx
   have hzr:=hx.size
   have f0:wr.cell? ⟨w.heap.size,0,none⟩=some (.bool n):=(hx.cell (p:=⟨w.heap.size,0,none⟩) (show w.heap.size<W.heap.size by omega)).trans c0
   have f1:wr.cell? ⟨w.heap.size,1,none⟩=some (.slice p ln c):=(hx.cell (p:=⟨w.heap.size,1,none⟩) (show w.heap.size<W.heap.size by omega)).trans c1
   have hlr:w.heap.size<wr.heap.size:=by omega
   by_cases hlt:k<l.length
   ·obtain ⟨⟨xx, yy⟩, XY⟩ : ∃ xy, Hid (l[k]? = some xy) := ⟨l[k], List.getElem?_eq_getElem hlt⟩
    obtain⟨n1,p1,l1,c1',n2,p2,l2,c2',e0',e1',e2',e3',e4',e5'⟩:=(hl.ext hbx).2.2.2 k xx yy XY.out
    have hgr:g<wr.heap.size:=(hl.ext hbx).2.2.1
    obtain⟨gx,gy⟩:=HGL.out k xx yy XY.out
    have GT:=Lib.hid (goodS_take (d:=d) (s:=x.1) XY.out)
    cases hgd:goodS d x.1 (l.take k) with
    | false =>
     rw[hgd] at GT
     have GT:=Lib.hid GT.out
     clear hgd
     gi_wp2
     first|refine wp_region_FC (fun W=>W.cell? ⟨w.heap.size,0,none⟩=some (.bool n)/\W.cell? ⟨w.heap.size,1,none⟩=some (.slice p ln c)/\W.cell? ⟨wr.heap.size,0,none⟩=some (.bool n1)/\W.cell? ⟨wr.heap.size,1,none⟩=some (.slice p1 l1 c1')/\W.cell? ⟨wr.heap.size,2,none⟩=some (.bool n2)/\W.cell? ⟨wr.heap.size,3,none⟩=some (.slice p2 l2 c2')) (by kernel_rfl) (by kernel_rfl) ?_ ?_ ?_|refine wp_region_FCs (fun W=>W.cell? ⟨w.heap.size,0,none⟩=some (.bool n)/\W.cell? ⟨w.heap.size,1,none⟩=some (.slice p ln c)/\W.cell? ⟨wr.heap.size,0,none⟩=some (.bool n1)/\W.cell? ⟨wr.heap.size,1,none⟩=some (.slice p1 l1 c1')/\W.cell? ⟨wr.heap.size,2,none⟩=some (.bool n2)/\W.cell? ⟨wr.heap.size,3,none⟩=some (.slice p2 l2 c2')) ?_ ?_ ?_|refine wpIn_region_FC (fun W=>W.cell? ⟨w.heap.size,0,none⟩=some (.bool n)/\W.cell? ⟨w.heap.size,1,none⟩=some (.slice p ln c)/\W.cell? ⟨wr.heap.size,0,none⟩=some (.bool n1)/\W.cell? ⟨wr.heap.size,1,none⟩=some (.slice p1 l1 c1')/\W.cell? ⟨wr.heap.size,2,none⟩=some (.bool n2)/\W.cell? ⟨wr.heap.size,3,none⟩=some (.slice p2 l2 c2')) (by kernel_rfl) (by kernel_rfl) (by kernel_rfl) ?_ ?_ ?_
     ·go_simp
     ·(intro W W' h hx hb;have hs:=hx.size;(try simp at hs);have hbc:∀b o,b<W.heap.size->W'.cell? ⟨b,o,none⟩=W.cell? ⟨b,o,none⟩:=fun b o h=>hb.cell (p:=⟨b,o,none⟩) h;(try dsimp only at h ⊢);simp (disch:=omega) only[hbc];exact h)
     repeat (first|refine F_s ?_|refine F_r ?_)
     rintro W2 ⟨hx2,hc⟩
     have hx3:Ext W W2:=Ext.step bxx hx2
     clear hc hx2
     gi_wp2
     exact⟨⟨k+1,by omega,rfl,by rw[GT.out];rfl,hx3⟩,by simp[intOf];omega⟩
    | true =>
     rw[hgd] at GT
     have GT:=Lib.hid GT.out
     clear hgd
     obtain⟨z,Z⟩:∃z,Hid (x.1*yy=z):=⟨_,rfl⟩
     have gz:Gd z:=by rw[<- Z.out];exact gy.sgn x
     obtain⟨sd,SDD⟩:∃q,Hid (sideZ xx z d=q):=⟨_,rfl⟩
     have RS:=fun (na nb nc:Bool) (pa pb pc:Option Addr) (la ca lb cb lc cc:Nat) (w:World) ha hb hc=>root_Sign (ofZ xx) (ofZ z) (ofZ d) na nb nc pa pb pc la ca lb cb lc cc w ha hb hc
     rw[signP_ofZ gx gz hG hd0.out,SDD.out] at RS
     have RS:=Lib.hid RS
     have SX:=Lib.hid (show small x.1=true from small_of_lt (k:=1) (by omega) (by omega))
     have SY:=Lib.hid gy.small
     have SZ:=Lib.hid gz.small
     rw[Z.out,SDD.out] at GT
     have hdr:=hd.ext hbx
     clear gx gy gz
     gi_wp2
     first|refine wp_region_FC (fun W=>W.cell? ⟨w.heap.size,0,none⟩=some (.bool n)/\W.cell? ⟨w.heap.size,1,none⟩=some (.slice p ln c)/\W.cell? ⟨wr.heap.size,0,none⟩=some (.bool n1)/\W.cell? ⟨wr.heap.size,1,none⟩=some (.slice p1 l1 c1')/\W.cell? ⟨wr.heap.size,2,none⟩=some (.bool n2)/\W.cell? ⟨wr.heap.size,3,none⟩=some (.slice p2 l2 c2')) (by kernel_rfl) (by kernel_rfl) ?_ ?_ ?_|refine wp_region_FCs (fun W=>W.cell? ⟨w.heap.size,0,none⟩=some (.bool n)/\W.cell? ⟨w.heap.size,1,none⟩=some (.slice p ln c)/\W.cell? ⟨wr.heap.size,0,none⟩=some (.bool n1)/\W.cell? ⟨wr.heap.size,1,none⟩=some (.slice p1 l1 c1')/\W.cell? ⟨wr.heap.size,2,none⟩=some (.bool n2)/\W.cell? ⟨wr.heap.size,3,none⟩=some (.slice p2 l2 c2')) ?_ ?_ ?_|refine wpIn_region_FC (fun W=>W.cell? ⟨w.heap.size,0,none⟩=some (.bool n)/\W.cell? ⟨w.heap.size,1,none⟩=some (.slice p ln c)/\W.cell? ⟨wr.heap.size,0,none⟩=some (.bool n1)/\W.cell? ⟨wr.heap.size,1,none⟩=some (.slice p1 l1 c1')/\W.cell? ⟨wr.heap.size,2,none⟩=some (.bool n2)/\W.cell? ⟨wr.heap.size,3,none⟩=some (.slice p2 l2 c2')) (by kernel_rfl) (by kernel_rfl) (by kernel_rfl) ?_ ?_ ?_
     ·go_simp
     ·(intro W W' h hx hb;have hs:=hx.size;(try simp at hs);have hbc:∀b o,b<W.heap.size->W'.cell? ⟨b,o,none⟩=W.cell? ⟨b,o,none⟩:=fun b o h=>hb.cell (p:=⟨b,o,none⟩) h;(try dsimp only at h ⊢);simp (disch:=omega) only[hbc];exact h)
     repeat (first|refine F_s ?_|refine F_r ?_)
     refine F_num { w with heap:=#[] } (ofZ x.1) (by rfl) (by rfl) (by intro W hW;(try dsimp only at hW);go_simp;exact (meet_of x.1 _ (by omega)).mono fun _ _ h=>RetN.isN (Nat.zero_le _) h) ?_;intro n5 p5 l5 c5 _;refine F_put ?_
     repeat (first|refine F_s ?_|refine F_r ?_)
     refine F_num { w with heap:=#[] } (ofZ z) (by rfl) (by rfl) (by intro W hW;(try dsimp only at hW);go_simp;exact (meet_mul x.1 yy _ _ _ _ _ _ _ _ _ hW.2 ((e5'.alloc _).ext hW.1.1) SX.out SY.out z Z.out SZ.out).mono fun _ _ h=>RetN.isN (Nat.zero_le _) h) ?_;intro n6 p6 l6 c6 _;refine F_put ?_
     repeat (first|refine F_s ?_|refine F_r ?_)
     refine F_c (.int .i64 sd) (fun W hW=>RS.out _ _ _ _ _ _ _ _ _ _ _ _ _ ((e4'.alloc _).ext hW.1.1.1) hW.2 ((hdr.alloc _).ext hW.1.1.1)) ?_
     repeat (first|refine F_s ?_|refine F_r ?_)
     rintro W2 ⟨⟨⟨hx2,hc⟩,_⟩,_⟩
     have hx3:Ext W W2:=Ext.step bxx hx2
     clear hc hx2
     gi_wp2
     exact⟨⟨k+1,by omega,rfl,by rw[GT.out];rfl,hx3⟩,by simp[intOf];omega⟩
   ·obtain rfl : k = l.length := by omega
    have f2:wr.cell? ⟨w.heap.size+1+1,0,none⟩=some (.int .i64 (countL d l pre)):=(hx.cell (p:=⟨w.heap.size+1+1,0,none⟩) (show w.heap.size+1+1<W.heap.size by omega)).trans c3
    have f3:wr.frozen? ⟨w.heap.size+1+1,0,none⟩=false:=(hx.frozen (p:=⟨w.heap.size+1+1,0,none⟩) (show w.heap.size+1+1<W.heap.size by omega)).trans c4
    have f4:wr.cell? ⟨w.heap.size+1,0,none⟩=some (.slice (some ⟨g,0,none⟩) l.length cp):=(hx.cell (p:=⟨w.heap.size+1,0,none⟩) (show w.heap.size+1<W.heap.size by omega)).trans c2
    have kb:∀W',(∀o,W'.cell? ⟨w.heap.size+1+1+1,o,none⟩=wr.cell? ⟨w.heap.size+1+1+1,o,none⟩)->KB (w.heap.size+1+1+1) W W':=fun W' h o=>(h o).trans (hx.cell (p:=⟨w.heap.size+1+1+1,o,none⟩) (show w.heap.size+1+1+1<W.heap.size by omega))
    have KBH:=Lib.hid kb
    have CS:=Lib.hid (countL_snoc d l pre x)
    have cbd:=countL_bd d l pre
    rw[List.take_of_length_le (Nat.le_refl _)]
    clear kb c0 c1 c2 c3 c4
    obtain⟨q,Q⟩:∃q,Hid (countL d l pre=q):=⟨_,rfl⟩
    rw[Q.out] at f2 cbd CS
    cases hgd:goodS d x.1 l with
    | false =>
     rw[hgd] at CS
     clear hgd
     gi_wp2
     refine⟨KeepsOthers.of_ext hx,KBH.out _ (fun _=>rfl),⟨⟨f0,f1,f4,?_,f3⟩,hbx⟩,by omega⟩
     rw[CS.out,f2]
     simp
    | true =>
     rw[hgd] at CS
     clear hgd
     gi_wp2
     refine⟨(KeepsOthers.of_ext hx).trans (KeepsOthers.setCell _ _ _),KBH.out _ (fun o=>?_),⟨⟨?_,?_,?_,?_,?_⟩,?_⟩,?_⟩
     ·go_simp
     ·go_simp
     ·go_simp
     ·go_simp
     ·rw[CS.out];go_simp
     ·go_simp
     ·exact bxx
     ·simp;omega
 case done =>
  rintro D xs W hD rfl ⟨⟨⟨c0,c1,c2,c3,c4⟩,hB⟩,hz⟩ hK
  gi_wp2
  refine⟨by simp,.inl ⟨_,_,rfl,run_takeDeferred hK,?_⟩⟩
  exact⟨_,results_tmp rfl _ _ _,by rw[RES.out];rfl,hB.trans (belowK_b (w:=w) (Nat.le_refl _) W D _ _ (by omega) hK rfl rfl)⟩
 case stop =>
  rintro D c' pre W _ _ h _
  exact h.elim
end
def crI(px py qx qy rx ry:Int):Int:=(qx-px)*(ry-py)-(qy-py)*(rx-px)
def linesZ(px py qx qy rx ry sx sy:Int):Int :=
 if (qx-px)*(sy-ry)-(qy-py)*(sx-rx)≠0 then
  if 0<sideI (crI px py qx qy rx ry)*sideI (crI px py qx qy sx sy) then 0
  else if 0<sideI (crI rx ry sx sy px py)*sideI (crI rx ry sx sy qx qy) then 0 else 1
 else if sideI (crI px py qx qy rx ry)≠0 then 0
 else if max 0 (min ((rx-px)*(qx-px)+(ry-py)*(qy-py)) ((sx-px)*(qx-px)+(sy-py)*(qy-py)))<min ((qx-px)*(qx-px)+(qy-py)*(qy-py)) (max ((rx-px)*(qx-px)+(ry-py)*(qy-py)) ((sx-px)*(qx-px)+(sy-py)*(qy-py))) then -1
 else if max 0 (min ((rx-px)*(qx-px)+(ry-py)*(qy-py)) ((sx-px)*(qx-px)+(sy-py)*(qy-py)))=min ((qx-px)*(qx-px)+(qy-py)*(qy-py)) (max ((rx-px)*(qx-px)+(ry-py)*(qy-py)) ((sx-px)*(qx-px)+(sy-py)*(qy-py))) then 1 else 0
theorem sideI_bd(n:Int) : -1<=sideI n/\sideI n<=1:=by unfold sideI;(repeat' split)<;>omega
def Wd(k:Nat)(x:Int):Prop:=x.natAbs<4294967296 ^ k
theorem Wd.mul{a b:Nat}{x y:Int}(hx:Wd a x)(hy:Wd b y):Wd (a+b) (x*y):=by
 unfold Wd at *
 rw[Int.natAbs_mul,Nat.pow_add]
 rcases Nat.eq_zero_or_pos y.natAbs with h|h
 ·rw[h,Nat.mul_zero];exact Nat.mul_pos (Nat.pow_pos (by omega)) (Nat.pow_pos (by omega))
 ·exact Nat.lt_of_lt_of_le (Nat.mul_lt_mul_of_pos_right hx h) (Nat.mul_le_mul_left _ (Nat.le_of_lt hy))
theorem Wd.sub{a:Nat}{x y:Int}(hx:Wd a x)(hy:Wd a y):Wd (a+1) (x-y):=by
 unfold Wd at *
 rw[Nat.pow_succ]
 omega
theorem Wd.mono{a b:Nat}{x:Int}(hx:Wd a x)(h:a<=b):Wd b x:=Nat.lt_of_lt_of_le hx (Nat.pow_le_pow_right (by omega) h)
theorem Wd.small{a:Nat}{x:Int}(hx:Wd a x)(h:a<=64):small x=true:=small_of_lt hx h
theorem Wd.gd{a:Nat}{x:Int}(hx:Wd a x)(h:a<=20):Gd x:=hx.mono h
theorem Wd.of64{x:Int}(h:I64 x):Wd 2 x:=by unfold Wd I64 at *;omega
structure LA where
 (S h F r:Int)
 (u1 u2 v1 v2:Int)
def LA.delta(a:LA):Int:=a.h*a.h-a.S*(a.F-a.r*a.r)
def LA.list(a:LA):List (Int×Int):=[(0-a.h,1),(a.S-(0-a.h),-1),(a.S*a.u1-a.h*a.u2,a.u2),(a.S*a.v1-a.h*a.v2,a.v2)]
structure AA where
 (S r q:Int)
 (du dv ds dt pu pv ps pt:Int)
def AA.k(a:AA):Int:=a.S-(a.q*a.q-a.r*a.r)
def AA.delta(a:AA):Int:=4*a.S*(a.r*a.r)-a.k*a.k
def AA.list(a:AA):List (Int×Int):=[(a.k*a.du,a.pu),(a.k*a.dv,a.pv),((a.k-2*a.S)*a.ds,a.ps),((a.k-2*a.S)*a.dt,a.pt)]
def one(a b:Bool):Int:=if a&&b then 1 else 0
def sameZ(rq a b c d:Bool):Int:=if one a rq+one b rq+one c rq+one d rq=2 then -1 else one a rq+one b rq+one c rq+one d rq
def Ed.ux(e:Ed):Int:=(e.ax-e.cx).tdiv (radZ e)
def Ed.uy(e:Ed):Int:=(e.ay-e.cy).tdiv (radZ e)
def Ed.vx(e:Ed):Int:=(e.bx-e.cx).tdiv (radZ e)
def Ed.vy(e:Ed):Int:=(e.by'-e.cy).tdiv (radZ e)
def Ed.pt(e:Ed):Bool:=e.ax==e.bx&&e.ay==e.by'
def laE(l e:Ed):LA where
 S:=(l.bx-l.ax)*(l.bx-l.ax)+(l.by'-l.ay)*(l.by'-l.ay)
 h:=(l.ax-e.cx)*(l.bx-l.ax)+(l.ay-e.cy)*(l.by'-l.ay)
 F:=(l.ax-e.cx)*(l.ax-e.cx)+(l.ay-e.cy)*(l.ay-e.cy)
 r:=radZ e
 u1:=(l.ax-e.cx)*e.ux+(l.ay-e.cy)*e.uy
 u2:=(l.bx-l.ax)*e.ux+(l.by'-l.ay)*e.uy
 v1:=(l.ax-e.cx)*e.vx+(l.ay-e.cy)*e.vy
 v2:=(l.bx-l.ax)*e.vx+(l.by'-l.ay)*e.vy
def aaE(e f:Ed):AA where
 S:=(f.cx-e.cx)*(f.cx-e.cx)+(f.cy-e.cy)*(f.cy-e.cy)
 r:=radZ e
 q:=radZ f
 du:=(f.cx-e.cx)*e.ux+(f.cy-e.cy)*e.uy
 dv:=(f.cx-e.cx)*e.vx+(f.cy-e.cy)*e.vy
 ds:=(f.cx-e.cx)*f.ux+(f.cy-e.cy)*f.uy
 dt:=(f.cx-e.cx)*f.vx+(f.cy-e.cy)*f.vy
 pu := -(f.cy-e.cy)*e.ux+(f.cx-e.cx)*e.uy
 pv := -(f.cy-e.cy)*e.vx+(f.cx-e.cx)*e.vy
 ps := -(f.cy-e.cy)*f.ux+(f.cx-e.cx)*f.uy
 pt := -(f.cy-e.cy)*f.vx+(f.cx-e.cx)*f.vy
def onZ(e:Ed)(x y:Int):Int:=if onE e x y then 1 else 0
def crossZ(l e:Ed):Int:=countZ (laE l e).delta (laE l e).list
def arcsZ(e f:Ed):Int :=
 if e.cx=f.cx/\e.cy=f.cy then sameZ (radZ e==radZ f) (e.ux==f.ux&&e.uy==f.uy) (e.ux==f.vx&&e.uy==f.vy) (e.vx==f.ux&&e.vy==f.uy) (e.vx==f.vx&&e.vy==f.vy)
 else countZ (aaE e f).delta (aaE e f).list
def countE(e f:Ed):Int :=
 if !(e.ok&&f.ok) then 0
 else if e.k=1 then
  if e.pt then onZ f e.ax e.ay
  else if f.k=1 then (if f.pt then onZ e f.ax f.ay else linesZ e.ax e.ay e.bx e.by' f.ax f.ay f.bx f.by')
  else crossZ e f
 else if f.k=1 then (if f.pt then onZ e f.ax f.ay else crossZ f e)
 else arcsZ e f
theorem countZ_bd(d:Int)(l:List (Int×Int)):0<=countZ d l/\countZ d l<=2:=by
 have h:=countL_bd d l (signL (decide (d<0)) (digs d.natAbs).length)
 have hl:(signL (decide (d<0)) (digs d.natAbs).length).length<=2:=by
  unfold signL
  split
  ·simp
  ·split<;>simp
 unfold countZ
 omega
theorem onZ_bd(e:Ed)(x y:Int):0<=onZ e x y/\onZ e x y<=1:=by unfold onZ;split<;>omega
theorem linesZ_bd(px py qx qy rx ry sx sy:Int) : -1<=linesZ px py qx qy rx ry sx sy/\linesZ px py qx qy rx ry sx sy<=1:=by
 unfold linesZ;(repeat' split)<;>omega
theorem tdiv_self{r:Int}(h:0<r):r.tdiv r=1:=Int.tdiv_self (by omega)
theorem neg_tdiv_self{r:Int}(h:0<r):(-r).tdiv r = -1:=by rw[Int.neg_tdiv,tdiv_self h]
theorem arc_axes{e:Ed}(h:e.ok=true)(hk:¬e.k=1):0<radZ e /\
  ((e.ux=1/\e.uy=0)\/(e.ux = -1/\e.uy=0)\/(e.ux=0/\e.uy=1)\/(e.ux=0/\e.uy = -1)) /\
  ((e.k=2/\e.vx = -e.uy/\e.vy=e.ux)\/(e.k=3/\e.vx=e.uy/\e.vy = -e.ux)) /\
  e.ax=e.cx+radZ e*e.ux/\e.ay=e.cy+radZ e*e.uy/\e.bx=e.cx+radZ e*e.vx/\e.by'=e.cy+radZ e*e.vy:=by
 have hr:=rad_pos h hk
 have hR:radZ e=max (max (e.ax-e.cx) (-(e.ax-e.cx))) (max (e.ay-e.cy) (-(e.ay-e.cy))):=by
  have hkb:(e.k==1)=false:=by simpa using hk
  unfold radZ
  rw[h,hkb]
  rfl
 have hq:(((e.ax-e.cx==0) != (e.ay-e.cy==0))=true)/\((e.k=2/\e.bx-e.cx = -(e.ay-e.cy)/\e.by'-e.cy=e.ax-e.cx)\/(e.k=3/\e.bx-e.cx=e.ay-e.cy/\e.by'-e.cy = -(e.ax-e.cx))):=by
  simp only[Ed.ok,Bool.and_eq_true,if_neg hk] at h
  have h2:=h.2
  split at h2
  ·rename_i hk2
   simp only[Ed.quarter,quarterB,Bool.and_eq_true,beq_iff_eq,rot] at h2
   exact⟨h2.1,.inl ⟨hk2,h2.2.1,h2.2.2⟩⟩
  ·split at h2
   ·rename_i hk3
    simp only[Ed.quarter,quarterB,Bool.and_eq_true,beq_iff_eq,rot] at h2
    refine⟨h2.1,.inr ⟨hk3,?_,?_⟩⟩
    ·have:=h2.2.1;omega
    ·have:=h2.2.2;omega
   ·cases h2
 obtain⟨hx,hb⟩:=hq
 have hxy:(e.ax-e.cx=0/\¬e.ay-e.cy=0)\/(¬e.ax-e.cx=0/\e.ay-e.cy=0):=by
  by_cases h1:e.ax-e.cx=0
  ·by_cases h2 : e.ay - e.cy = 0
   ·simp[h1,h2] at hx
   ·exact .inl ⟨h1,h2⟩
  ·by_cases h2 : e.ay - e.cy = 0
   ·exact .inr ⟨h1,h2⟩
   ·have e1 : (e.ax - e.cx == 0) = false := by simpa using h1
    have e2:(e.ay-e.cy==0)=false:=by simpa using h2
    rw[e1,e2] at hx;cases hx
 obtain⟨r,R⟩:∃r,radZ e=r:=⟨_,rfl⟩
 unfold Ed.ux Ed.uy Ed.vx Ed.vy
 rw[R] at hr hR ⊢
 have t1:=tdiv_self hr
 have t2:=neg_tdiv_self hr
 have t0:(0:Int).tdiv r=0:=Int.zero_tdiv r
 refine⟨hr,?_⟩
 have c4:(e.ax-e.cx=r/\e.ay-e.cy=0)\/(e.ax-e.cx = -r/\e.ay-e.cy=0)\/(e.ax-e.cx=0/\e.ay-e.cy=r)\/(e.ax-e.cx=0/\e.ay-e.cy = -r):=by omega
 have n1 : -(-r)=r:=by omega
 have n0 : -(0:Int)=0:=rfl
 have m0:r*0=0:=by omega
 have m1:r*1=r:=by omega
 have m2:r * -1 = -r:=by omega
 rcases c4 with⟨a1,a2⟩|⟨a1,a2⟩|⟨a1,a2⟩|⟨a1,a2⟩<;>rcases hb with⟨k,b1,b2⟩|⟨k,b1,b2⟩<;>rw[a1] at b2 ⊢<;>rw[a2] at b1 ⊢<;>(try rw[n1] at b1)<;>(try rw[n1] at b2)<;>(try rw[n0] at b1)<;>(try rw[n0] at b2)<;>rw[b1,b2]<;>simp only[t1,t2,t0,m0,m1,m2]<;>refine⟨by simp,by simp[k],by omega,by omega,by omega,by omega⟩
theorem sq_pos{x y:Int}(h:¬(x=0/\y=0)):0<x*x+y*y:=by
 rw[<- Int.natAbs_mul_self (a:=x),<- Int.natAbs_mul_self (a:=y)]
 by_cases h1:x=0
 ·have h2 : 0 < y.natAbs := by omega
  have:=Nat.mul_pos h2 h2
  omega
 ·have h2 : 0 < x.natAbs := by omega
  have:=Nat.mul_pos h2 h2
  omega
theorem onE_self{e:Ed}(h:e.ok=true)(hk:e.k=1):onE e e.ax e.ay=true:=by
 unfold onE
 rw[h,if_pos hk]
 simp[inB,sideI]
 try omega

section
def c640:Nat:=4294967296 ^ 20
def c2048:Nat:=4294967296 ^ 64
def ziV(z:Int)(B:Nat):V1:=⟨true,[.d (.zi z B)]⟩
section
variable {V W:World} {r:Nat->Nat} {k:Nat}
theorem rl_zi{z:Int}{B:Nat}{l:List It}{cs:List Value}:RepL V W r k (.d (.zi z B)::l) cs <-> z.natAbs<=B/\∃n p m c,NR W n p m c (ofZ z)/\∃d,cs=.bool n::.slice p m c::d/\RepL V W r k l d :=
 ⟨fun ⟨c,d,e,⟨⟨n,p,m,c',h1,h2⟩,hb⟩,h3⟩=>⟨hb,n,p,m,c',h2,d,by rw[e,h1];rfl,h3⟩,fun ⟨hb,n,p,m,c',h,d,e,h3⟩=>⟨[_,_],d,e,⟨⟨n,p,m,c',rfl,h⟩,hb⟩,h3⟩⟩
end
theorem gv_zi{z:Int}{B:Nat}{w:World}{e:Ending}{w':World}(hb:z.natAbs<=B)(h:RetN w (ofZ z) e w'):Gv (.one (ziV z B)) w e w':=by
 obtain⟨n,p,l,c,rfl,h1,_,h2⟩:=h
 exact⟨_,rfl,rv_t.2 ⟨_,rl_zi.2 ⟨hb,n,p,l,c,h1,[],rfl,rfl⟩,rfl⟩,h2⟩
theorem gv_zb{z:Int}{B:Nat}{w:World}{e:Ending}{w':World}(hb:z.natAbs<=B)(h:RetNum w (ofZ z,true) e w'):Gv (.tup [ziV z B,⟨false,[.b true]⟩]) w e w':=by
 obtain⟨n,p,l,c,rfl,h1,_,h2⟩:=h
 exact⟨_,rfl,⟨[_,_],rfl,rvs_cons.2 ⟨_,rv_t.2 ⟨_,rl_zi.2 ⟨hb,n,p,l,c,h1,[],rfl,rfl⟩,rfl⟩,_,rfl,rvs_cons.2 ⟨_,RepI.val (i:=.b true) rfl,_,rfl,rfl⟩⟩⟩,h2⟩
theorem small_c{z:Int}{B:Nat}(h:z.natAbs<=B)(hB:B<c2048):small z=true:=by
 unfold small
 rw[decide_eq_true_eq]
 exact Nat.lt_of_le_of_lt h hB
def zOfC(f:FuncId)(H:∀(z:Int) (w:World),-9223372036854775808<=z->z<=9223372036854775807->Calls Tryz.prog f #[.int .i64 z] w (RetN w (ofZ z))):Con where
 f:=f
 g:=fun | [⟨false,[.i z B]⟩]=>some (.one (ziV z B),[])|_=>none
 ok:=by
  intro args res ps h _
  split at h<;>cases h
  intro W vals hv
  simp only[rvs_cons,rvs_nil,rv_i] at hv
  obtain⟨_,⟨⟨hb,h1,h2⟩,rfl⟩,_,rfl,rfl⟩:=hv
  exact (H _ W h1 h2).mono fun _ _ h=>gv_zi hb h
def toZi:List It->Option (Int×Nat)
 | [.d (.zi z B)]=>some (z,B)
 | [.d (.num ⟨false,[]⟩)]=>some (0,0)
 | _=>none
theorem toZi_rep{W:World}{l:List It}{z:Int}{B:Nat}{v:Value}(h:toZi l=some (z,B))(hv:RepV W W (fun _=>0) 0 ⟨true,l⟩ v):z.natAbs<=B/\∃n p m c,v=.agg #[.bool n,.slice p m c]/\NR W n p m c (ofZ z):=by
 unfold toZi at h
 split at h<;>cases h
 ·simp only [rv_t, rl_zi, rl_nil] at hv
  obtain⟨_,⟨b1,n,p,l,c,h1,_,rfl,rfl⟩,rfl⟩:=hv
  exact⟨b1,n,p,l,c,rfl,h1⟩
 ·simp only [rv_t, rl_num, rl_nil] at hv
  obtain⟨_,⟨n,p,l,c,h1,_,rfl,rfl⟩,rfl⟩:=hv
  exact⟨Nat.le_refl 0,n,p,l,c,rfl,(show ofZ 0=⟨false,[]⟩ by unfold ofZ;simp[digs_zero]) ▸ h1⟩
def zBinC(f:FuncId)(G:Nm->Nm->Nm×Bool)(O:Int->Int->Int)(Q:Nat->Nat->Nat)(q:Nat->Nat->Bool)
  (H:∀(a b:Nm) (na nb:Bool) (pa pb:Option Addr) (la ca lb cb:Nat) (w:World),NR w na pa la ca a->NR w nb pb lb cb b->Calls Tryz.prog f #[.agg #[.bool na,.slice pa la ca],.agg #[.bool nb,.slice pb lb cb]] w (RetNum w (G a b)))
  (hO:∀x y A B,q A B=true->x.natAbs<=A->y.natAbs<=B->(O x y).natAbs<=Q A B/\G (ofZ x) (ofZ y)=(ofZ (O x y),true)):Con where
 f:=f
 g:=fun | [⟨true,l⟩,⟨true,m⟩]=>(match toZi l,toZi m with|some (x,A),some (y,B)=>if q A B=true then some (.tup [ziV (O x y) (Q A B),⟨false,[.b true]⟩],[]) else none|_,_=>none)|_=>none
 ok:=by
  intro args res ps h hp
  split at h<;>try cases h
  split at h<;>try cases h
  split at h<;>cases h
  rename_i x A y B hx hy hb
  intro W vals hv
  obtain⟨v1,g1,l1,rfl,hv1⟩:=rvs_cons.1 hv
  obtain⟨v2,g2,l2,rfl,hv2⟩:=rvs_cons.1 hv1
  cases hv2
  obtain⟨b1,_,_,_,_,rfl,h1⟩:=toZi_rep hx g1
  obtain⟨b2,_,_,_,_,rfl,h2⟩:=toZi_rep hy g2
  obtain⟨b3,e⟩:=hO x y A B hb b1 b2
  exact (H _ _ _ _ _ _ _ _ _ _ W h1 h2).mono fun _ _ h=>gv_zb b3 (e ▸ h)
theorem zmul_c(x y:Int)(A B:Nat)(h:decide (A<c2048/\B<c2048/\A*B<c2048)=true)(b1:x.natAbs<=A)(b2:y.natAbs<=B):(x*y).natAbs<=A*B/\mulP (ofZ x) (ofZ y)=(ofZ (x*y),true):=by
 obtain⟨h1,h2,h3⟩:=of_decide_eq_true h
 have b3:(x*y).natAbs<=A*B:=by rw[Int.natAbs_mul];exact Nat.mul_le_mul b1 b2
 exact⟨b3,mulP_small' (small_c b1 h1) (small_c b2 h2) (small_c b3 h3)⟩
theorem zsub_c(x y:Int)(A B:Nat)(h:decide (A+B<c2048)=true)(b1:x.natAbs<=A)(b2:y.natAbs<=B):(x-y).natAbs<=A+B/\subP (ofZ x) (ofZ y)=(ofZ (x-y),true):=by
 have h:=of_decide_eq_true h
 have b3:(x-y).natAbs<=A+B:=by omega
 exact⟨b3,subP_small (small_c b1 (by omega)) (small_c b2 (by omega)) (small_c b3 h)⟩
def cZOf:Con:=zOfC 43 num_Of
def cZMul:Con:=zBinC 155 mulP (·*·) (·*·) (fun A B=>decide (A<c2048/\B<c2048/\A*B<c2048)) num_Mul zmul_c
def cZSub:Con:=zBinC 235 subP (· - ·) (·+·) (fun A B=>decide (A+B<c2048)) num_Sub zsub_c
def toSr:Nat->List It->Option (List (Int×Int))
 | 0,[]=>some []
 | n+1,.d (.zi x A)::.d (.zi y B)::l=>if A<c640/\B<c640 then (toSr n l).map ((x,y)::·) else none
 | _,_=>none
theorem toSr_rep{V:World}:∀ {n:Nat} {l:List It} {L:List (Int×Int)} {cs:List Value},toSr n l=some L->RepF V l cs->L.length=n/\cs.length=n*4/\(∀(i:Nat) (x y:Int),L[i]? = some (x,y)->Gd x/\Gd y /\
  ∃n1 p1 l1 c1 n2 p2 l2 c2,cs[i*4]? = some (.bool n1)/\cs[i*4+1]? = some (.slice p1 l1 c1)/\cs[i*4+2]? = some (.bool n2)/\cs[i*4+3]? = some (.slice p2 l2 c2)/\NR V n1 p1 l1 c1 (ofZ x)/\NR V n2 p2 l2 c2 (ofZ y))
 | n,l,L,cs,h,hr=>by
  unfold toSr at h
  split at h
  ·cases h
   cases hr
   exact⟨rfl,rfl,fun i x y hi=>by simp at hi⟩
  ·rename_i n x A y B l
   split at h
   ·rename_i hb
    cases hq:toSr n l with
    | none=>simp[hq] at h
    | some M =>
     simp only[hq,Option.map_some,Option.some.injEq] at h
     subst h
     obtain⟨c,d,e,⟨⟨n1,p1,l1,c1,rfl,h1⟩,b1⟩,c',d',e',⟨⟨n2,p2,l2,c2,rfl,h2⟩,b2⟩,h3⟩:=hr
     subst e' e
     obtain⟨k1,k2,k3⟩:=toSr_rep hq h3
     refine⟨by simp[k1],by simp[k2];omega,fun i u v hi=>?_⟩
     cases i with
     | zero =>
      simp only[List.getElem?_cons_zero,Option.some.injEq,Prod.mk.injEq] at hi
      obtain⟨rfl,rfl⟩:=hi
      exact⟨Nat.lt_of_le_of_lt b1 hb.1,Nat.lt_of_le_of_lt b2 hb.2,n1,p1,l1,c1,n2,p2,l2,c2,rfl,rfl,rfl,rfl,h1,h2⟩
     | succ i =>
      simp only[List.getElem?_cons_succ] at hi
      obtain⟨g1,g2,m1,q1,j1,e1,m2,q2,j2,e2,f0,f1,f2,f3,f4⟩:=k3 i u v hi
      refine⟨g1,g2,m1,q1,j1,e1,m2,q2,j2,e2,?_,?_,?_,?_,f4⟩
      all_goals rw[show (i+1)*4=i*4+4 by omega]
      ·exact f0
      ·exact f1
      ·exact f2
      ·exact f3
   ·cases h
  ·cases h
def cMCount:Con where
 f:=197
 g:=fun | [⟨true,[.d (.zi d D)]⟩,⟨false,[.fs o l n z]⟩]=>if (o=0/\z=4)/\(0<n/\n<=1000)/\D<c640 then (toSr n l).map fun L=>(.one (inV (countZ d L) 2),[]) else none|_=>none
 ok:=by
  intro args res ps h hp
  split at h<;>try cases h
  rename_i d D o l n z
  split at h<;>try cases h
  rename_i hb
  obtain⟨⟨rfl,rfl⟩,hn,hD⟩:=hb
  cases hL:toSr n l with
  | none=>simp[hL] at h
  | some L =>
   simp only[hL,Option.map_some,Option.some.injEq,Prod.mk.injEq] at h
   obtain⟨rfl,rfl⟩:=h
   intro W vals hv
   simp only[rvs_cons,rvs_nil,rv_t,rl_zi,rl_nil] at hv
   obtain⟨_,⟨_,⟨b1,n1,p1,l1,c1,h1,_,rfl,rfl⟩,rfl⟩,_,rfl,y,hy,_,rfl,rfl⟩:=hv
   obtain⟨g,q,xs,T,e1,e2,e3,e4,e5,c,dd,e6,e7,e8⟩:=hy.scal
   obtain rfl:y=_:=by simpa using e1
   obtain⟨k1,k2,k3⟩:=toSr_rep hL e7
   rw[List.drop_zero] at e6
   have hg:g<W.heap.size:=(Array.getElem?_eq_some_iff.1 e2).1
   have hc:∀j v,c[j]? = some v->W.cell? ⟨g,j,none⟩=some v:=fun j v hj=>by
    rw[cell_of_row _ _ _ _ _ _ e2]
    have:xs.toList[j]? = some v:=by
     rw[e6,List.getElem?_append_left (List.getElem?_eq_some_iff.1 hj).1]
     exact hj
    simpa using this
   have hSR:SR W g q L:=⟨by omega,by unfold maxLen at e4;omega,hg,fun i x y hi=>by
    obtain⟨_,_,n1,p1,l1,c1,n2,p2,l2,c2,f0,f1,f2,f3,f4⟩:=k3 i x y hi
    exact⟨n1,p1,l1,c1,n2,p2,l2,c2,hc _ _ f0,hc _ _ f1,hc _ _ f2,hc _ _ f3,f4⟩⟩
   have hb:=countZ_bd d L
   have:=(meet_count d L n1 p1 l1 c1 g q W h1 hSR (Nat.lt_of_le_of_lt b1 hD) (fun i x y hi=>⟨(k3 i x y hi).1,(k3 i x y hi).2.1⟩) (by omega)).mono fun _ _ h=>gv_in (z:=countZ d L) (B:=2) ⟨by omega,by unfold I64;omega⟩ h
   rw[k1] at this
   exact this
theorem co_of{x:Int}{A:Nat}(h:x.natAbs<=A)(hA:A<=c26):Co x:=by unfold c26 at hA;unfold Co;omega
def cSide:Con where
 f:=192
 g:=fun | [⟨true,[.i ax A,.i ay B]⟩,⟨true,[.i bx C,.i b D]⟩,⟨true,[.i px E,.i py F]⟩]=>if (A<=c26/\B<=c26)/\(C<=c26/\D<=c26)/\(E<=c26/\F<=c26) then some (.one (inV (sideI ((bx-ax)*(py-ay)-(b-ay)*(px-ax))) 1),[]) else none|_=>none
 ok:=by
  intro args res ps h hp
  split at h<;>try cases h
  split at h<;>cases h
  rename_i ax A ay B bx C b D px E py F hb
  intro W vals hv
  simp only[rvs_cons,rvs_nil,rv_t,rl_i,rl_nil] at hv
  obtain⟨_,⟨_,⟨⟨a1,_⟩,_,rfl,⟨a2,_⟩,_,rfl,rfl⟩,rfl⟩,_,rfl,_,⟨_,⟨⟨a3,_⟩,_,rfl,⟨a4,_⟩,_,rfl,rfl⟩,rfl⟩,_,rfl,_,⟨_,⟨⟨a5,_⟩,_,rfl,⟨a6,_⟩,_,rfl,rfl⟩,rfl⟩,_,rfl,rfl⟩:=hv
  have c1:=co_of a1 hb.1.1
  have c2:=co_of a2 hb.1.2
  have d1:=(co_of a3 hb.2.1.1).sub c1
  have d2:=(co_of a4 hb.2.1.2).sub c2
  have d3:=(co_of a5 hb.2.2.1).sub c1
  have d4:=(co_of a6 hb.2.2.2).sub c2
  have hs:=sideI_bd ((bx-ax)*(py-ay)-(b-ay)*(px-ax))
  exact (vec_Side ax ay bx b px py W d1.i64 d2.i64 d3.i64 d4.i64 (d1.mul64 d4) (d2.mul64 d3) (d1.cross d4 d2 d3)).mono fun _ _ h=>gv_in ⟨by omega,by unfold I64;omega⟩ h
end
def cmpRt(a b:Rt):Int:=if a.right&&b.right then cmpR (a.add-b.add) a.s a.n.z a.d.z b.s b.n.z b.d.z else 0
def rv(a:Rt):Re:=lin (a.add*(val a.d.d:Int)) a.s (val a.n.d*val a.d.d)
theorem rv_f(a:Rt)(k:Nat):(rv a).f k=(a.add:Rat)*(val a.d.d:Rat)+(a.s:Rat)*rtf (val a.n.d*val a.d.d) k:=by
 unfold rv
 rw[lin_f,Rat.intCast_mul,Rat.intCast_natCast]
def mul(z:Int)(x:Re):Re:=(Re.int z).mul x
theorem mul_f(z:Int)(x:Re)(k:Nat):(mul z x).f k=(z:Rat)*x.f k:=rfl
theorem add_f(x y:Re)(k:Nat):(x.add y).f k=x.f k+y.f k:=rfl
theorem neg_f(x:Re)(k:Nat):x.neg.f k = -x.f k:=rfl
def df(a b:Rt):Re:=(mul (val b.d.d:Int) (rv a)).add (mul (val a.d.d:Int) (rv b)).neg
theorem df_f(a b:Rt)(k:Nat):(df a b).f k=(val b.d.d:Rat)*((a.add:Rat)*(val a.d.d:Rat)+(a.s:Rat)*rtf (val a.n.d*val a.d.d) k)-(val a.d.d:Rat)*((b.add:Rat)*(val b.d.d:Rat)+(b.s:Rat)*rtf (val b.n.d*val b.d.d) k):=by
 unfold df
 rw[add_f,neg_f,mul_f,mul_f,rv_f,rv_f,Rat.intCast_natCast,Rat.intCast_natCast]
 grind
theorem Rt.Ok.shape{a:Rt}(h:a.Ok):(a.s=1/\0<val a.n.d)\/(a.s = -1/\0<val a.n.d)\/(a.s=0/\val a.n.d=0):=by
 have h1:=h.sl
 have h2:=h.su
 by_cases h0:a.s=0
 ·exact .inr (.inr ⟨h0,(h.n0 h0).1⟩)
 ·have := h.n1 h0
  omega
theorem Rt.Ok.zs{a:Rt}(h:a.Ok):a.n.z=(val a.n.d:Int)/\a.d.z=(val a.d.d:Int):=⟨z_pos h.nn,z_pos h.dn⟩
theorem cmpRt_sg{a b:Rt}(ha:a.Ok)(hb:b.Ok):Sg (cmpR (a.add-b.add) a.s a.n.z a.d.z b.s b.n.z b.d.z) (df a b):=by
 rw[ha.zs.1,ha.zs.2,hb.zs.1,hb.zs.2]
 refine Sg.eq (cmp_sg ha.dp hb.dp ha.shape hb.shape) fun k=>?_
 rw[dif_f,df_f,Rat.intCast_sub]
 simp only[Rat.intCast_natCast]
 grind
theorem Sg.zero{x:Re}(h:∀k,x.f k=0):Sg 0 x:=.inr (.inl ⟨rfl,nn_of fun k=>by rw[h];exact Rat.le_refl,nn_of fun k=>by show 0 <= -x.f k;rw[h];decide⟩)
theorem cmp_trans{a b c:Rt}(ha:a.Ok)(hb:b.Ok)(hc:c.Ok){x y z:Int}(hx:Sg x (df a b))(hy:Sg y (df b c))(hz:Sg z (df a c)) :
  (x<=0->y<=0->z<=0/\(z=0->x=0/\y=0))/\(0<=x->0<=y->0<=z/\(z=0->x=0/\y=0)):=by
 have pa:=ha.dp
 have pb:=hb.dp
 have pc:=hc.dp
 have hz':=hz.mul (m:=(val b.d.d:Int)) (by omega)
 have hx':=hx.mul (m:=(val c.d.d:Int)) (by omega)
 have hy':=hy.mul (m:=(val a.d.d:Int)) (by omega)
 have e:∀k,(((Re.int (val c.d.d:Int)).mul (df a b)).add ((Re.int (val a.d.d:Int)).mul (df b c))).f k=((Re.int (val b.d.d:Int)).mul (df a c)).f k:=fun k=>by
  show ((val c.d.d:Int):Rat)*(df a b).f k+((val a.d.d:Int):Rat)*(df b c).f k=((val b.d.d:Int):Rat)*(df a c).f k
  rw[df_f,df_f,df_f,Rat.intCast_natCast,Rat.intCast_natCast,Rat.intCast_natCast]
  grind
 have bx:=sg_bd hx
 have by':=sg_bd hy
 have bz:=sg_bd hz
 have key:∀r,(x=1/\0<=y/\r=1)\/(0<=x/\y=1/\r=1)\/(x=0/\y=0/\r=0)\/(x = -1/\y<=0/\r = -1)\/(x<=0/\y = -1/\r = -1)->z=r:=fun r h=>Sg.uniq hz' (Sg.eq (Sg.plus hx' hy' h) e)
 constructor
 ·intro h1 h2
  by_cases h3:x=0/\y=0
  ·have:=key 0 (by omega);omega
  ·have:=key (-1) (by omega);omega
 ·intro h1 h2
  by_cases h3:x=0/\y=0
  ·have:=key 0 (by omega);omega
  ·have:=key 1 (by omega);omega
theorem sgn_mul{g:Int}(h:0<g)(a:Int):sgn (g*a)=sgn a:=by
 rcases sgn_cases a with⟨h1,h2⟩|⟨h1,h2⟩|⟨h1,h2⟩
 ·have := Int.mul_pos h h2
  rcases sgn_cases (g*a) with⟨h3,h4⟩|⟨h3,h4⟩|⟨h3,h4⟩<;>omega
 ·rw[h2,Int.mul_zero]
 ·have := Int.mul_neg_of_pos_of_neg h h2
  rcases sgn_cases (g*a) with⟨h3,h4⟩|⟨h3,h4⟩|⟨h3,h4⟩<;>omega
theorem cmpZ_sub(a b:Int):cmpZ a b=sgn (a-b):=by
 rcases cmpZ_case a b with⟨h1,h2⟩|⟨h1,h2⟩|⟨h1,h2⟩<;>rcases sgn_cases (a-b) with⟨h3,h4⟩|⟨h3,h4⟩|⟨h3,h4⟩<;>omega
theorem cmpZ_mul{g:Int}(h:0<g)(a b:Int):cmpZ (g*a) (g*b)=cmpZ a b:=by
 rw[cmpZ_sub,cmpZ_sub,<- Int.mul_sub,sgn_mul h]
theorem sideZ_scale{g:Int}(h:0<g)(a b c:Int):sideZ (g*a) b (g*g*c)=sideZ a b c:=by
 have h2:=Int.mul_pos h h
 unfold sideZ
 rw[sgn_mul h,sgn_mul h2]
 have e1:g*a*(g*a)=g*g*(a*a):=by grind
 have e2:b*b*(g*g*c)=g*g*(b*b*c):=by grind
 rw[e1,e2,cmpZ_mul h2]
theorem sideZ_bd(a b c:Int) : -1<=sideZ a b c/\sideZ a b c<=1:=by
 unfold sideZ
 split
 ·omega
 ·rcases sgn_cases a with⟨h1,h2⟩|⟨h1,h2⟩|⟨h1,h2⟩<;>rcases cmpZ_case (a*a) (b*b*c) with⟨h3,h4⟩|⟨h3,h4⟩|⟨h3,h4⟩<;>rw[h1,h3]<;>decide
theorem cmpR_whole(A s n d:Int):cmpR A s n d 0 0 1=sideZ (A*d) s (n*d):=by
 have:=sideZ_bd (A*d) s (n*d)
 unfold cmpR
 split
 ·omega
 ·rename_i h
  have:sideZ (A*d) s (n*d)=0:=by omega
  rw[this,Int.zero_mul]
theorem side_whole{f d n:Int}(hf:0<=f)(hd:0<d)(hn:0<=n):sideZ (-f*d) 1 (n*d)=sgn (n-d*f*f):=by
 have s1:sgn 1=1:=rfl
 unfold sideZ
 rw[s1,Int.one_mul,Int.mul_comm n d,sgn_mul hd,Int.mul_comm (-f) d,sgn_mul hd]
 rcases sgn_cases n with⟨h1,h2⟩|⟨h1,h2⟩|⟨h1,h2⟩
 ·rcases sgn_cases (-f) with ⟨h3, h4⟩ | ⟨h3, h4⟩ | ⟨h3, h4⟩
  ·omega
  ·obtain rfl : f = 0 := by omega
   rw[h1,h3,if_pos (by decide),Int.mul_zero,Int.sub_zero,h1]
   decide
  ·rw [h1, h3, if_neg (by decide)]
   have e:d * -f*(d * -f)=d*(d*f*f):=by grind
   rw[e,Int.mul_one,Int.one_mul,cmpZ_mul hd,cmpZ_sub]
   have e2:n-d*f*f = -(d*f*f-n):=by omega
   rw[e2]
   rcases sgn_cases (d*f*f-n) with⟨h5,h6⟩|⟨h5,h6⟩|⟨h5,h6⟩<;>rcases sgn_cases (-(d*f*f-n)) with⟨h7,h8⟩|⟨h7,h8⟩|⟨h7,h8⟩<;>omega
 ·subst h2
  rw[h1,Int.mul_zero,if_pos (Int.le_refl 0),Int.zero_sub]
  have e : -(d*f*f)=d*(f * -f):=by grind
  rw[e,sgn_mul hd]
  rcases sgn_cases (-f) with⟨h3,h4⟩|⟨h3,h4⟩|⟨h3,h4⟩
  ·omega
  ·obtain rfl : f = 0 := by omega
   rfl
  ·rw [h3, sgn_mul (show 0 < f by omega), h3]
   decide
 ·omega
def rootOf(add s:Int)(n d:Nat):Rt:=if s=0\/n=0 then ⟨add,0,zero,ofZ 1⟩ else ⟨add,s,ofZ ((n/Nat.gcd n d:Nat):Int),ofZ ((d/Nat.gcd n d:Nat):Int)⟩
theorem small_nat{n k:Nat}(h:n<4294967296 ^ k)(hk:k<=64):small (n:Int)=true:=small_of_lt (k:=k) (by rw[Int.natAbs_natCast];exact h) hk
theorem ofZ_len{n k:Nat}(h:n<4294967296 ^ k):(ofZ (n:Int)).d.length<=k:=by
 simp only[ofZ,Int.natAbs_natCast]
 exact (digs_length_le _ _).2 h
theorem ofP_nat{add s:Int}{n d:Nat}(hs : -1<=s/\s<=1)(hn:n<4294967296 ^ 8)(hd:d<4294967296 ^ 8)(h0:0<d):ofP add s (ofZ (n:Int)) (ofZ (d:Int))=(rootOf add s n d,true):=by
 have sn:=small_nat hn (by decide)
 have sd:=small_nat hd (by decide)
 have vn:val (ofZ (n:Int)).d=n:=by rw[val_ofZ];rfl
 have vd:val (ofZ (d:Int)).d=d:=by rw[val_ofZ];rfl
 have hb:ofBad s (ofZ (n:Int)) (ofZ (d:Int))=false:=ofBad_of hs.1 hs.2 (ofZ_right sn) (ofZ_right sd) neg_ofZ (by rw[ofZ_z];omega)
 unfold rootOf
 by_cases hz:s=0\/n=0
 ·rw [if_pos hz]
  unfold ofP
  rw[hb,if_neg (by simp),if_pos (by rw[ofZ_z];omega)]
 ·rw [if_neg hz, ofP_main neg_ofZ (by rw [ofZ_z]; omega) hb (by rw [ofZ_z]; omega), vn, vd, if_neg]
  have h1:=ofZ_len (Nat.lt_of_le_of_lt (Nat.div_le_self n (Nat.gcd n d)) hn)
  have h2:=ofZ_len (Nat.lt_of_le_of_lt (Nat.div_le_self d (Nat.gcd n d)) hd)
  omega
theorem whole_ok{add s:Int}{n d:Nat}(hs : -1<=s/\s<=1)(hn:n<4294967296 ^ 8)(hd:d<4294967296 ^ 8)(h0:0<d):(rootOf add s n d).Ok/\(rootOf add s n d).right=true:=by
 have dg:∀z,Dig (ofZ z).d:=fun z=>dig_digs _
 obtain⟨h1,h2,_⟩:=ofP_ok (dg n) (dg d) (ofP_nat (add:=add) hs hn hd h0)
 exact⟨h1,right_of h2 h1.nr h1.dr⟩
theorem cmp_int{add s x:Int}{n d:Nat}(h0:0<d)(hs:s=0->n=0):cmpR ((rootOf add s n d).add-x) (rootOf add s n d).s (rootOf add s n d).n.z (rootOf add s n d).d.z 0 0 1=sideZ ((add-x)*d) s ((n:Int)*d):=by
 rw[cmpR_whole]
 unfold rootOf
 by_cases hz:s=0\/n=0
 ·have hn : n = 0 := by rcases hz with h | h; exact hs h; exact h
  rw[if_pos hz,hn]
  simp only
  rw[ofZ_z,zero_z]
  have e:∀y t:Int,sideZ y t 0=sgn y:=fun y t=>by
   have:sgn 0=0:=rfl
   unfold sideZ
   rw[this,Int.mul_zero,Int.mul_zero,if_pos (Int.le_refl 0)]
   rcases sgn_cases y with⟨h,_⟩|⟨h,_⟩|⟨h,_⟩<;>rw[h]<;>decide
  rw[Int.zero_mul,e,show ((0:Nat):Int)*(d:Int)=0 by simp,e,Int.mul_one,Int.mul_comm,sgn_mul (by omega)]
 ·rw [if_neg hz]
  simp only
  rw[ofZ_z,ofZ_z]
  have hg:0<Nat.gcd n d:=Nat.gcd_pos_of_pos_right _ h0
  have e1:Nat.gcd n d*(n/Nat.gcd n d)=n:=Nat.mul_div_cancel' (Nat.gcd_dvd_left _ _)
  have e2:Nat.gcd n d*(d/Nat.gcd n d)=d:=Nat.mul_div_cancel' (Nat.gcd_dvd_right _ _)
  have e1':(n:Int)=(Nat.gcd n d:Int)*((n/Nat.gcd n d:Nat):Int):=by rw[<- Int.natCast_mul,e1]
  have e2':(d:Int)=(Nat.gcd n d:Int)*((d/Nat.gcd n d:Nat):Int):=by rw[<- Int.natCast_mul,e2]
  have hg2:(0:Int)<(Nat.gcd n d:Int):=by omega
  generalize (Nat.gcd n d:Int)=g at *
  generalize ((n/Nat.gcd n d:Nat):Int)=N at *
  generalize ((d/Nat.gcd n d:Nat):Int)=D at *
  rw[e1',e2',show (add-x)*(g*D)=g*((add-x)*D) by grind,show g*N*(g*D)=g*g*(N*D) by grind,sideZ_scale hg2]
end Go.Proofs.YteajakbpmeebnaaGreat
