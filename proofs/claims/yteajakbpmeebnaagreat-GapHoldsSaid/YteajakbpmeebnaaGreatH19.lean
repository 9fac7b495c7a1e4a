import Derived.Test.YteajakbpmeebnaaGreatH18
set_option linter.unusedVariables false
set_option linter.unusedSimpArgs false

namespace Go.Proofs.YteajakbpmeebnaaGreat
open Go.RowKit

set_option maxHeartbeats 2000000
set_option maxRecDepth 100000
section
theorem Row.set'{w:World}{p:Option Addr}{c:Nat}{d:List Nat}(h:Row w p c d)(a:Addr)(hn:∀x,p=some x->x.block≠a.block)(v:Value):Row (w.setCell a v) p c d:=by
 refine⟨h.1,h.2.1,h.2.2.1,fun h0=>?_⟩
 obtain⟨b,o,hp,hlt,hc⟩:=h.2.2.2 h0
 refine⟨b,o,hp,by simpa[World.setCell] using hlt,fun i hi=>?_⟩
 have hb:=hn _ hp
 rw[<- hc i hi]
 exact World.cell?_of_block (Below.heap_setCell _ _ _ _ hb)
theorem NR.set'{w:World}{n:Bool}{p:Option Addr}{l c:Nat}{a:Nm}(h:NR w n p l c a)(x:Addr)(hn:∀y,p=some y->y.block≠x.block)(v:Value):NR (w.setCell x v) n p l c a :=
 ⟨h.1,h.2.1,h.2.2.set' x hn v⟩
theorem NR.zero(w:World):NR w false none 0 0 zero:=⟨rfl,rfl,Row.nil w⟩
theorem zero_z:zero.z=0:=rfl
theorem zero_right:zero.right=true:=rfl
def sgn(z:Int):Int:=cmpZ z 0
theorem cmpP_zero{a:Nm}(ra:a.right=true):cmpP a zero=sgn a.z:=by
 unfold cmpP
 rw[ra,zero_right,zero_z]
 rfl
theorem root_sign(a:Nm)(n:Bool)(p:Option Addr)(l c:Nat)(w:World)(h:NR w n p l c a)(ra:a.right=true) :
  Calls Tryz.prog 89 #[.agg #[.bool n,.slice p l c]] w fun e w'=>e=.returned (.int .i64 (sgn a.z))/\Ext w w':=by
 have S:=Lib.hid (cmpP_zero ra)
 go_enter Tryz.func89,Tryz.ntmps89
 go_wp2_with fail
 refine (num_Cmp a zero _ _ _ _ _ _ _ _ _ (h.ext bxx) (NR.zero _)).mono ?_
 rintro e w1 ⟨rfl,hx⟩
 rw[S.out]
 have hx0:Ext w w1:=Ext.step bxx hx
 go_wp2
 go_ret
 exact⟨rfl,hx0⟩
def prodZ(l:List Nm):Int:=l.foldl (fun z a=>z*a.z) 1
theorem prodZ_snoc(l:List Nm)(a:Nm):prodZ (l++[a])=prodZ l*a.z:=by simp[prodZ]
theorem prodZ_take(l:List Nm)(k:Nat)(a:Nm)(h:l[k]? = some a):prodZ (l.take (k+1))=prodZ (l.take k)*a.z:=by
 have hk:=(List.getElem?_eq_some_iff.1 h).1
 rw[List.take_succ_eq_append_getElem hk,prodZ_snoc]
 rw[List.getElem?_eq_getElem hk] at h
 cases h
 rfl
def NRs(w:World)(b:Nat)(l:List Nm):Prop :=
 b<w.heap.size/\∀i a,l[i]? = some a->a.right=true/\∃n p li c,w.cell? ⟨b,i*2,none⟩=some (.bool n)/\w.cell? ⟨b,i*2+1,none⟩=some (.slice p li c)/\NR w n p li c a
theorem NRs.ext{w w':World}{b:Nat}{l:List Nm}(h:NRs w b l)(hx:Ext w w'):NRs w' b l:=by
 refine⟨Nat.lt_of_lt_of_le h.1 hx.size,fun i a hi=>?_⟩
 obtain⟨hr,n,p,li,c,h1,h2,h3⟩:=h.2 i a hi
 exact⟨hr,n,p,li,c,by rw[hx.cell (p:=⟨b,i*2,none⟩) h.1];exact h1,by rw[hx.cell (p:=⟨b,i*2+1,none⟩) h.1];exact h2,h3.ext hx⟩
theorem mulP_small{a b:Nm}{z:Int}(ra:a.right=true)(rb:b.right=true)(hz:a.z*b.z=z)(hs:small z=true):mulP a b=(ofZ z,true):=by
 unfold mulP fit
 rw[ra,rb,hz,hs]
 rfl
theorem root_times(l:List Nm)(b:Nat)(n c:Nat)(w:World)(h:NRs w b l)(hn:n=l.length)(hl:l.length<=1000)(hs:∀k,small (prodZ (l.take k))=true) :
  Calls Tryz.prog 100 #[.slice (some ⟨b,0,none⟩) n c] w (RetN w (ofZ (prodZ l))):=by
 subst hn
 have HS:=Lib.hid hs
 clear hs
 have HN:=Lib.hid h
 have hb:=h.1
 clear h
 go_enter Tryz.func100,Tryz.ntmps100
 go_wp2_with fail
 refine (num_Of 1 _ (by omega) (by omega)).mono ?_
 rintro e w1 ⟨n1,p1,l1,c1,rfl,hnr,hnew,hx⟩
 have hx0:Ext w w1:=Ext.step bxx hx
 obtain⟨hz_w1,hl_w1_0,hk_w1_0,hf_w1_0⟩:=keepK1 hx w.heap.size
 go_wp2_with fail
 have r0:w1.cell? ⟨w.heap.size,0,none⟩=some (.bool false):=by go_simp
 have r1:w1.cell? ⟨w.heap.size,1,none⟩=some (.slice none 0 0):=by go_simp
 have rf:∀o,w1.frozen? ⟨w.heap.size,o,none⟩=false:=by intro o;go_simp
 obtain⟨g,G⟩:∃g,Hid (w1.heap.size=g):=⟨_,rfl⟩
 have hg0:w.heap.size<g:=by rw[<- G.out];exact hl_w1_0
 obtain⟨w2,W2⟩:∃w2,Hid (w1.alloc (.cells #[.bool n1,.slice p1 l1 c1] 47)=w2):=⟨_,rfl⟩
 rw[W2.out,G.out]
 have hx1:Ext w w2:=by rw[<- W2.out];exact bxx
 have hg1:g<w2.heap.size:=by rw[<- W2.out,<- G.out];simp
 have g0:w2.cell? ⟨g,0,none⟩=some (.bool n1):=by rw[<- W2.out,<- G.out];go_simp
 have g1:w2.cell? ⟨g,1,none⟩=some (.slice p1 l1 c1):=by rw[<- W2.out,<- G.out];go_simp
 have gf:∀o,w2.frozen? ⟨g,o,none⟩=false:=by intro o;rw[<- W2.out,<- G.out];go_simp
 have s0:w2.cell? ⟨w.heap.size,0,none⟩=some (.bool false):=by rw[<- W2.out];go_simp
 have s1:w2.cell? ⟨w.heap.size,1,none⟩=some (.slice none 0 0):=by rw[<- W2.out];go_simp
 have sf:∀o,w2.frozen? ⟨w.heap.size,o,none⟩=false:=by intro o;rw[<- W2.out];go_simp
 have hnr2:NR w2 n1 p1 l1 c1 (ofZ (prodZ (l.take 0))):=by rw[<- W2.out];exact hnr.alloc _
 have hnew2:∀x,p1=some x->w.heap.size<x.block:=fun x hx=>by have:=hnew x hx;simp at this;omega
 clear hnr hnew hx0 hk_w1_0 hf_w1_0 hl_w1_0 hz_w1 hx r0 r1 rf
 go_loopw [11] (fun i wr=>∃(k:Nat) (n':Bool) (p':Option Addr) (l' c':Nat),k<=l.length/\i=.int .i64 (k:Int)/\wr.cell? ⟨g,0,none⟩=some (.bool n')/\wr.cell? ⟨g,1,none⟩=some (.slice p' l' c')/\(∀o,wr.frozen? ⟨g,o,none⟩=false) /\
   NR wr n' p' l' c' (ofZ (prodZ (l.take k)))/\(∀x,p'=some x->w.heap.size<x.block)/\wr.cell? ⟨w.heap.size,0,none⟩=some (.bool false)/\wr.cell? ⟨w.heap.size,1,none⟩=some (.slice none 0 0)/\(∀o,wr.frozen? ⟨w.heap.size,o,none⟩=false)/\g<wr.heap.size/\Ext w wr) (fun i _=>l.length-(intOf i).toNat)
 case atStart=>exact⟨0,n1,p1,l1,c1,Nat.zero_le _,rfl,g0,g1,gf,hnr2,hnew2,s0,s1,sf,hg1,hx1⟩
 case round =>
  clear g0 g1 gf hnr2 hnew2 s0 s1 sf hg1 hx1
  obtain⟨k,n',p',l',c',hk,rfl,g0,g1,gf,hnr,hnew,s0,s1,sf,hg1,hx⟩:=hrel
  by_cases hlt:k<l.length
  ·have hb2 : b < wr.heap.size := Nat.lt_of_lt_of_le hb hx.size
   obtain⟨ra,n2,p2,l2,c2,e0,e1,hna⟩:=(HN.out.ext hx).2 k l[k] (List.getElem?_eq_getElem hlt)
   have PR:=Lib.hid (prodZ_take l k l[k] (List.getElem?_eq_getElem hlt))
   have HNW:=Lib.hid hnew
   clear hnew
   go_wp2_with fail
   have MP:=Lib.hid (mulP_small (ofZ_right (HS.out k)) ra (by rw[ofZ_z];exact PR.out.symm) (HS.out (k+1)))
   refine (num_Mul (ofZ (prodZ (l.take k))) l[k] _ _ _ _ _ _ _ _ _ (hnr.alloc _) (hna.alloc _)).mono ?_
   rintro e w3 ⟨n3,p3,l3,c3,rfl,hnr3,hnew3,hx3⟩
   rw[MP.out] at hnr3 ⊢
   have hx4:Ext wr w3:=Ext.step bxx hx3
   have hx5:Ext w w3:=Ext.step hx hx4
   have g0':w3.cell? ⟨g,0,none⟩=some (.bool n'):=(hx4.cell (p:=⟨g,0,none⟩) hg1).trans g0
   have g1':w3.cell? ⟨g,1,none⟩=some (.slice p' l' c'):=(hx4.cell (p:=⟨g,1,none⟩) hg1).trans g1
   have gf':∀o,w3.frozen? ⟨g,o,none⟩=false:=fun o=>(hx4.frozen (p:=⟨g,o,none⟩) hg1).trans (gf o)
   have hw0:w.heap.size<wr.heap.size:=by omega
   have s0':w3.cell? ⟨w.heap.size,0,none⟩=some (.bool false):=(hx4.cell (p:=⟨w.heap.size,0,none⟩) hw0).trans s0
   have s1':w3.cell? ⟨w.heap.size,1,none⟩=some (.slice none 0 0):=(hx4.cell (p:=⟨w.heap.size,1,none⟩) hw0).trans s1
   have sf':∀o,w3.frozen? ⟨w.heap.size,o,none⟩=false:=fun o=>(hx4.frozen (p:=⟨w.heap.size,o,none⟩) hw0).trans (sf o)
   have hg2:g<w3.heap.size:=Nat.lt_of_lt_of_le hg1 hx4.size
   have hw2:w.heap.size<w3.heap.size:=by omega
   have hnew4:∀x,p3=some x->wr.heap.size<x.block:=fun x hx=>by have:=hnew3 x hx;simp at this;omega
   have NEW:=Lib.hid hnew4
   clear hnew3 hnew4 g0 g1 gf s0 s1 sf hnr hna hx3 e0 e1
   go_wp2_with fail
   refine⟨⟨k+1,n3,p3,l3,c3,by omega,rfl,by go_simp,by go_simp,fun o=>by go_simp,?_,fun x hx=>by have:=NEW.out x hx;omega,by go_simp,by go_simp,fun o=>by go_simp,by simp;omega,bxx⟩,by simp[intOf];omega⟩
   refine (NR.set' (NR.set' hnr3 _ ?_ _) _ ?_ _).alloc _
   ·intro y hy;have:=NEW.out y hy;simp;omega
   ·intro y hy;have:=NEW.out y hy;simp;omega
  ·obtain rfl : k = l.length := by omega
   rw[List.take_of_length_le (Nat.le_refl _)] at hnr
   have HNW:=Lib.hid hnew
   have hw0:w.heap.size<wr.heap.size:=by omega
   clear hnew
   go_wp2_with fail
   refine bodyPost_ret (v:=.agg #[.bool n',.slice p' l' c']) (by simp[results,Tryz.results100,go_sem, *]) rfl ?_
   refine⟨n',p',l',c',rfl,?_,fun x hx=>Nat.le_of_lt (HNW.out x hx),bxx⟩
   refine NR.set' (NR.set' hnr _ ?_ _) _ ?_ _
   ·intro y hy;have:=HNW.out y hy;simp;omega
   ·intro y hy;have:=HNW.out y hy;simp;omega
end

set_option maxHeartbeats 4000000
set_option maxRecDepth 100000
section
def sideZ(a b c:Int):Int:=if 0<=sgn a*(sgn b*sgn c) then max (min (sgn a+sgn b*sgn c) 1) (-1) else sgn a*cmpZ (a*a) (b*b*c)
theorem cmpZ_cases(a b:Int):cmpZ a b = -1\/cmpZ a b=0\/cmpZ a b=1:=by
 unfold cmpZ
 split
 ·exact .inl rfl
 ·split
  ·exact .inr (.inl rfl)
  ·exact .inr (.inr rfl)
theorem sgn_bd(a:Int) : -1<=sgn a/\sgn a<=1:=by
 rcases cmpZ_cases a 0 with h|h|h<;>rw[sgn,h]<;>omega
theorem cmpZ_bd(a b:Int) : -1<=cmpZ a b/\cmpZ a b<=1:=by
 rcases cmpZ_cases a b with h|h|h<;>rw[h]<;>omega
theorem unit_mul{a b:Int}(ha : -1<=a/\a<=1)(hb : -1<=b/\b<=1) : -1<=a*b/\a*b<=1:=by
 obtain rfl|rfl|rfl:a = -1\/a=0\/a=1:=by omega
 all_goals omega
theorem cmpP_side{x y:Int}(hx:small x=true)(hy:small y=true):cmpP (ofZ x) (ofZ y)=cmpZ x y:=by
 unfold cmpP
 rw[ofZ_right hx,ofZ_right hy,ofZ_z,ofZ_z]
 rfl
theorem NRs.drew{w:World}{b:Nat}{l:List Nm}(h:NRs w b l):NRs w.drew b l:=h.ext (Below.refl _ _).drew
theorem NRs.more{w:World}{b:Nat}{l:List Nm}(h:NRs w b l)(o:Obj):NRs (w.alloc o) b l:=h.ext ((Below.refl _ _).alloc (Nat.le_refl _) _)
theorem NRs_two{W:World}{n1 n2:Bool}{p1 p2:Option Addr}{l1 c1 l2 c2 B:Nat}{a b:Nm}(T:TypeId)(h1:NR W n1 p1 l1 c1 a)(h2:NR W n2 p2 l2 c2 b)(ra:a.right=true)(rb:b.right=true)(hB:B=W.heap.size) :
  NRs (W.alloc (.cells #[.bool n1,.slice p1 l1 c1,.bool n2,.slice p2 l2 c2] T)) B [a,b]:=by
 subst hB
 have hh:=heap_alloc_new W (.cells #[.bool n1,.slice p1 l1 c1,.bool n2,.slice p2 l2 c2] T)
 refine⟨by simp,fun i x hi=>?_⟩
 match i,hi with
 | 0,hi =>
  simp only[List.getElem?_cons_zero,Option.some.injEq] at hi
  subst hi
  exact⟨ra,n1,p1,l1,c1,by rw[cell_of_row _ _ _ _ _ _ hh];rfl,by rw[cell_of_row _ _ _ _ _ _ hh];rfl,h1.alloc _⟩
 | 1,hi =>
  simp only[List.getElem?_cons_succ,List.getElem?_cons_zero,Option.some.injEq] at hi
  subst hi
  exact⟨rb,n2,p2,l2,c2,by rw[cell_of_row _ _ _ _ _ _ hh];rfl,by rw[cell_of_row _ _ _ _ _ _ hh];rfl,h2.alloc _⟩
 | i+2,hi=>simp at hi
theorem NRs_three{W:World}{n1 n2 n3:Bool}{p1 p2 p3:Option Addr}{l1 c1 l2 c2 l3 c3 B:Nat}{a b c:Nm}(T:TypeId)(h1:NR W n1 p1 l1 c1 a)(h2:NR W n2 p2 l2 c2 b)(h3:NR W n3 p3 l3 c3 c)(ra:a.right=true)(rb:b.right=true)(rc:c.right=true)(hB:B=W.heap.size) :
  NRs (W.alloc (.cells #[.bool n1,.slice p1 l1 c1,.bool n2,.slice p2 l2 c2,.bool n3,.slice p3 l3 c3] T)) B [a,b,c]:=by
 subst hB
 have hh:=heap_alloc_new W (.cells #[.bool n1,.slice p1 l1 c1,.bool n2,.slice p2 l2 c2,.bool n3,.slice p3 l3 c3] T)
 refine⟨by simp,fun i x hi=>?_⟩
 match i,hi with
 | 0,hi =>
  simp only[List.getElem?_cons_zero,Option.some.injEq] at hi
  subst hi
  exact⟨ra,n1,p1,l1,c1,by rw[cell_of_row _ _ _ _ _ _ hh];rfl,by rw[cell_of_row _ _ _ _ _ _ hh];rfl,h1.alloc _⟩
 | 1,hi =>
  simp only[List.getElem?_cons_succ,List.getElem?_cons_zero,Option.some.injEq] at hi
  subst hi
  exact⟨rb,n2,p2,l2,c2,by rw[cell_of_row _ _ _ _ _ _ hh];rfl,by rw[cell_of_row _ _ _ _ _ _ hh];rfl,h2.alloc _⟩
 | 2,hi =>
  simp only[List.getElem?_cons_succ,List.getElem?_cons_zero,Option.some.injEq] at hi
  subst hi
  exact⟨rc,n3,p3,l3,c3,by rw[cell_of_row _ _ _ _ _ _ hh];rfl,by rw[cell_of_row _ _ _ _ _ _ hh];rfl,h3.alloc _⟩
 | i+3,hi=>simp at hi
theorem root_times2(a b:Nm)(B c:Nat)(w:World)(h:NRs w B [a,b])(hs:∀k,small (prodZ ([a,b].take k))=true) :
  Calls Tryz.prog 100 #[.slice (some ⟨B,0,none⟩) 2 c] w (RetN w (ofZ (prodZ [a,b]))):=root_times [a,b] B 2 c w h rfl (by simp) hs
theorem root_times3(a b d:Nm)(B c:Nat)(w:World)(h:NRs w B [a,b,d])(hs:∀k,small (prodZ ([a,b,d].take k))=true) :
  Calls Tryz.prog 100 #[.slice (some ⟨B,0,none⟩) 3 c] w (RetN w (ofZ (prodZ [a,b,d]))):=root_times [a,b,d] B 3 c w h rfl (by simp) hs
theorem root_side(a b c:Nm)(na nb nc:Bool)(pa pb pc:Option Addr)(la ca lb cb lc cc:Nat)(w:World)(ha:NR w na pa la ca a)(hb:NR w nb pb lb cb b)(hc:NR w nc pc lc cc c)(ra:a.right=true)(rb:b.right=true)(rc:c.right=true)
  (s1:∀k,small (prodZ ([a,a].take k))=true) (s2:∀k,small (prodZ ([b,b,c].take k))=true) :
  Calls Tryz.prog 101 #[.agg #[.bool na,.slice pa la ca],.agg #[.bool nb,.slice pb lb cb],.agg #[.bool nc,.slice pc lc cc]] w fun e w'=>e=.returned (.int .i64 (sideZ a.z b.z c.z))/\Ext w w':=by
 have S1:=Lib.hid s1
 have S2:=Lib.hid s2
 clear s1 s2
 have ba:=sgn_bd a.z
 have bb:=sgn_bd b.z
 have bc:=sgn_bd c.z
 obtain⟨x,X⟩:∃x,Hid (sgn a.z=x):=⟨_,rfl⟩
 obtain⟨sb,SB⟩:∃x,Hid (sgn b.z=x):=⟨_,rfl⟩
 obtain⟨sc,SC⟩:∃x,Hid (sgn c.z=x):=⟨_,rfl⟩
 rw[X.out] at ba
 rw[SB.out] at bb
 rw[SC.out] at bc
 obtain⟨y,Y⟩:∃y,Hid (sb*sc=y):=⟨_,rfl⟩
 have by':=unit_mul bb bc
 rw[Y.out] at by'
 obtain⟨q,Q⟩:∃q,Hid (x*y=q):=⟨_,rfl⟩
 have bq:=unit_mul ba by'
 rw[Q.out] at bq
 have hy:=Y.out
 have hq:=Q.out
 obtain⟨r,R⟩:∃r,Hid (cmpZ (a.z*a.z) (b.z*b.z*c.z)=r):=⟨_,rfl⟩
 have br:=cmpZ_bd (a.z*a.z) (b.z*b.z*c.z)
 rw[R.out] at br
 obtain⟨z,Z⟩:∃z,Hid (x*r=z):=⟨_,rfl⟩
 have bz:=unit_mul ba br
 rw[Z.out] at bz
 have hz:=Z.out
 have RES:Hid (sideZ a.z b.z c.z=if 0<=q then max (min (x+y) 1) (-1) else z):=by
  show sideZ a.z b.z c.z=_
  unfold sideZ
  rw[X.out,SB.out,SC.out,Y.out,Q.out,R.out,Z.out]
 go_enter Tryz.func101,Tryz.ntmps101
 go_wp2_with fail
 go_region_held3 (fun w'=>w'.cell? ⟨w.heap.size,0,none⟩=some (.bool na)/\w'.cell? ⟨w.heap.size,1,none⟩=some (.slice pa la ca)/\w'.cell? ⟨w.heap.size+1,0,none⟩=some (.bool nb)/\w'.cell? ⟨w.heap.size+1,1,none⟩=some (.slice pb lb cb)/\w'.cell? ⟨w.heap.size+2,0,none⟩=some (.bool nc)/\w'.cell? ⟨w.heap.size+2,1,none⟩=some (.slice pc lc cc)) (refine⟨?_,?_,?_,?_,?_,?_⟩<;>go_simp) (first|(go_at_call 89;(with_reducible refine (root_sign a na pa la ca _ (ha.ext bxx) ra).mono ?_);rintro e w1 ⟨rfl,hx⟩;rw[X.out];(have hx0:Ext w w1:=Ext.step bxx hx);obtain⟨_,⟨_,_,_⟩,⟨_,_,_⟩,_,_,_⟩:=keepK3 hx w.heap.size)|(go_at_call 89;(with_reducible refine (root_sign b nb pb lb cb _ (hb.ext bxx) rb).mono ?_);rintro e w2 ⟨rfl,hx⟩;rw[SB.out];(have hx1:Ext w w2:=Ext.step bxx hx);obtain⟨_,⟨_,_,_⟩,⟨_,_,_⟩,_,_,_⟩:=keepK3 hx w.heap.size)|(go_at_call 89;(with_reducible refine (root_sign c nc pc lc cc _ (hc.ext bxx) rc).mono ?_);rintro e w3 ⟨rfl,hx⟩;rw[SC.out];(have hx2:Ext w w3:=Ext.step bxx hx);obtain⟨_,⟨_,_,_⟩,⟨_,_,_⟩,_,_,_⟩:=keepK3 hx w.heap.size))
 by_cases h0:0<=q
 ·go_wp2
  all_goals
   go_ret
   refine⟨?_,bxx⟩
   rw[RES.out,if_pos h0]
   refine congrArg (fun n=>Ending.returned (.int .i64 n)) ?_
   show _=_
   omega
 ·have CM:Hid (cmpP (ofZ (prodZ [a,a])) (ofZ (prodZ [b,b,c]))=r):=by
   have e1:prodZ [a,a]=a.z*a.z:=by simp[prodZ]
   have e2:prodZ [b,b,c]=b.z*b.z*c.z:=by simp[prodZ]
   have f1:small (prodZ [a,a])=true:=S1.out 2
   have f2:small (prodZ [b,b,c])=true:=S2.out 3
   show cmpP (ofZ (prodZ [a,a])) (ofZ (prodZ [b,b,c]))=r
   rw[cmpP_side f1 f2,e1,e2,R.out]
  go_wp2_with fail
  go_region_held3 (fun w'=>w'.cell? ⟨w.heap.size,0,none⟩=some (.bool na)/\w'.cell? ⟨w.heap.size,1,none⟩=some (.slice pa la ca)/\w'.cell? ⟨w.heap.size+1,0,none⟩=some (.bool nb)/\w'.cell? ⟨w.heap.size+1,1,none⟩=some (.slice pb lb cb)/\w'.cell? ⟨w.heap.size+2,0,none⟩=some (.bool nc)/\w'.cell? ⟨w.heap.size+2,1,none⟩=some (.slice pc lc cc)) (refine⟨?_,?_,?_,?_,?_,?_⟩<;>go_simp) (first|(go_at_call 100;(with_reducible refine (root_times2 a a _ 2 _ (by repeat (first|exact NRs_two _ (ha.ext bxx) (ha.ext bxx) ra ra (by first|rfl|simp)|refine NRs.drew ?_|refine NRs.more ?_ _)) S1.out).mono ?_);rintro e w4 ⟨n4,p4,l4,c4,rfl,hnr4,hnew4,hx4⟩;(have hx5:Ext w w4:=Ext.step bxx hx4);obtain⟨_,⟨_,_,_⟩,⟨_,_,_⟩,_,_,_⟩:=keepK3 hx4 w.heap.size)|(go_at_call 100;(with_reducible refine (root_times3 b b c _ 3 _ (by repeat (first|exact NRs_three _ (hb.ext bxx) (hb.ext bxx) (hc.ext bxx) rb rb rc (by first|rfl|simp)|refine NRs.drew ?_|refine NRs.more ?_ _|refine NRs.ext ?_ hx4)) S2.out).mono ?_);rintro e w5 ⟨n5,p5,l5,c5,rfl,hnr5,hnew5,hx6⟩;(have hx7:Ext w4 w5:=Ext.step bxx hx6);(have hx8:Ext w w5:=Ext.step hx5 hx7);obtain⟨_,⟨_,_,_⟩,⟨_,_,_⟩,_,_,_⟩:=keepK3 hx6 w.heap.size)|(go_at_call 95;refine (num_Cmp _ _ _ _ _ _ _ _ _ _ _ (hnr4.ext bxx) (hnr5.ext bxx)).mono ?_;rintro e w6 ⟨rfl,hx9⟩;rw[CM.out];(have hx10:Ext w w6:=Ext.step bxx hx9);obtain⟨_,⟨_,_,_⟩,⟨_,_,_⟩,_,_,_⟩:=keepK3 hx9 w.heap.size))
  go_wp2
  all_goals
   go_ret
   refine⟨?_,bxx⟩
   rw[RES.out,if_neg (by omega)]
   refine congrArg (fun n=>Ending.returned (.int .i64 n)) ?_
   show _=_
   first|rfl|exact IntWalk.i64_in _ (by omega)
end
abbrev NmV(n:Bool)(p:Option Addr)(l c:Nat):Value:=.agg #[.bool n,.slice p l c]
def nOfC(f:FuncId)(H:∀(z:Int) (w:World),-9223372036854775808<=z->z<=9223372036854775807->Calls Tryz.prog f #[.int .i64 z] w (RetN w (ofZ z))):Con where
 f:=f
 g:=fun | [⟨false,[.i z _]⟩]=>some (.one (nmV (ofZ z)),[])|_=>none
 ok:=by
  intro args res ps h _
  split at h<;>cases h
  intro W vals hv
  simp only[rvs_cons,rvs_nil,rv_i] at hv
  obtain⟨_,⟨⟨_,h1,h2⟩,rfl⟩,_,rfl,rfl⟩:=hv
  exact (H _ W h1 h2).mono fun _ _ h=>gv_nm h
def nRightC(f:FuncId)(H:∀(a:Nm) (n:Bool) (p:Option Addr) (l c:Nat) (w:World),NR w n p l c a->Calls Tryz.prog f #[NmV n p l c] w fun e w'=>e=.returned (.bool a.right)/\Ext w w'):Con where
 f:=f
 g:=fun | [⟨true,[.d (.num a)]⟩]=>some (.one (blV a.right),[])|_=>none
 ok:=by
  intro args res ps h _
  split at h<;>cases h
  intro W vals hv
  simp only[rvs_cons,rvs_nil,rv_t,rl_num,rl_nil] at hv
  obtain⟨_,⟨_,⟨n,p,l,c,h1,_,rfl,rfl⟩,rfl⟩,_,rfl,rfl⟩:=hv
  exact (H _ _ _ _ _ W h1).mono fun _ _ h=>gv_bl h
theorem two_nm{W:World}{a b:Nm}{vals:List Value}(hv:RepVs W W (fun _=>0) 0 [⟨true,[.d (.num a)]⟩,⟨true,[.d (.num b)]⟩] vals):∃n p l c m q k d,vals=[NmV n p l c,NmV m q k d]/\NR W n p l c a/\NR W m q k d b:=by
 simp only[rvs_cons,rvs_nil,rv_t,rl_num,rl_nil] at hv
 obtain⟨_,⟨_,⟨n,p,l,c,h1,_,rfl,rfl⟩,rfl⟩,_,rfl,_,⟨_,⟨m,q,k,d,h2,_,rfl,rfl⟩,rfl⟩,_,rfl,rfl⟩:=hv
 exact⟨n,p,l,c,m,q,k,d,rfl,h1,h2⟩
def nBinC(f:FuncId)(G:Nm->Nm->Nm×Bool)(S:Nm->Nm->List Prop)(H:∀(a b:Nm) (n m:Bool) (p q:Option Addr) (l c k d:Nat) (w:World),All (S a b)->NR w n p l c a->NR w m q k d b->Calls Tryz.prog f #[NmV n p l c,NmV m q k d] w (RetNum w (G a b))):Con where
 f:=f
 g:=fun | [⟨true,[.d (.num a)]⟩,⟨true,[.d (.num b)]⟩]=>some (.tup [nmV (G a b).1,blV (G a b).2],S a b)|_=>none
 ok:=by
  intro args res ps h hp
  split at h<;>cases h
  intro W vals hv
  obtain⟨_,_,_,_,_,_,_,_,rfl,h1,h2⟩:=two_nm hv
  exact (H _ _ _ _ _ _ _ _ _ _ W hp h1 h2).mono fun _ _ h=>gv_nb h
theorem cmpP_b(a b:Nm):(cmpP a b).natAbs<=1/\I64 (cmpP a b):=by
 have h : -1<=cmpP a b/\cmpP a b<=1:=by
  unfold cmpP
  split
  ·exact cmpZ_bd _ _
  ·omega
 exact⟨by omega,by unfold I64;omega⟩
def nCmpC(f:FuncId)(H:∀(a b:Nm) (n m:Bool) (p q:Option Addr) (l c k d:Nat) (w:World),NR w n p l c a->NR w m q k d b->Calls Tryz.prog f #[NmV n p l c,NmV m q k d] w fun e w'=>e=.returned (.int .i64 (cmpP a b))/\Ext w w'):Con where
 f:=f
 g:=fun | [⟨true,[.d (.num a)]⟩,⟨true,[.d (.num b)]⟩]=>some (.one (inV (cmpP a b) 1),[])|_=>none
 ok:=by
  intro args res ps h _
  split at h<;>cases h
  intro W vals hv
  obtain⟨_,_,_,_,_,_,_,_,rfl,h1,h2⟩:=two_nm hv
  exact (H _ _ _ _ _ _ _ _ _ _ W h1 h2).mono fun _ _ h=>gv_in (cmpP_b _ _) h
def nDivC(f:FuncId)(H:∀(a b:Nm) (n m:Bool) (p q:Option Addr) (l c k d:Nat) (w:World),NR w n p l c a->NR w m q k d b->Calls Tryz.prog f #[NmV n p l c,NmV m q k d] w (RetDiv w (divP a b))):Con where
 f:=f
 g:=fun | [⟨true,[.d (.num a)]⟩,⟨true,[.d (.num b)]⟩]=>some (.tup [nmV (divP a b).1,nmV (divP a b).2.1,blV (divP a b).2.2],[])|_=>none
 ok:=by
  intro args res ps h _
  split at h<;>cases h
  intro W vals hv
  obtain⟨_,_,_,_,_,_,_,_,rfl,h1,h2⟩:=two_nm hv
  refine (H _ _ _ _ _ _ _ _ _ _ W h1 h2).mono fun e w' h=>?_
  obtain⟨n,p,l,c,m,q,k,d,rfl,h1,h2,_,_,h3⟩:=h
  exact⟨_,rfl,⟨[_,_,_],rfl,rvs_cons.2 ⟨_,rv_t.2 ⟨_,rl_num.2 ⟨n,p,l,c,h1,_,rfl,rfl⟩,rfl⟩,_,rfl,rvs_cons.2 ⟨_,rv_t.2 ⟨_,rl_num.2 ⟨m,q,k,d,h2,_,rfl,rfl⟩,rfl⟩,_,rfl,rvs_cons.2 ⟨_,rv_v.2 ⟨rfl,rfl⟩,_,rfl,rfl⟩⟩⟩⟩,h3⟩
theorem ofP_div{add s:Int}{n d:Nm}(hd:Dig d.d)(hb:ofBad s n d=false)(h0:¬(s=0\/n.z=0)) :
  ofP add s n d=if 8<max (divP n (gcdP n d).1).1.d.length (divP d (gcdP n d).1).1.d.length then (Rt.no,false) else (⟨add,s,(divP n (gcdP n d).1).1,(divP d (gcdP n d).1).1⟩,true):=by
 obtain⟨s1,s2,rn,rd,nn,dp⟩:=ofBad_false hb
 have en:=z_pos nn
 obtain⟨ed,pd⟩:=d_pos dp
 have gp:0<Nat.gcd (val n.d) (val d.d):=Nat.gcd_pos_of_pos_right _ pd
 have rg:small ((Nat.gcd (val n.d) (val d.d):Nat):Int)=true:=by
  refine small_of_le hd rd ?_
  rw[Int.natAbs_natCast]
  exact Nat.gcd_le_right _ pd
 rw[gcdP_right rn rd,divP_nm rn rg gp,divP_nm rd rg gp]
 unfold ofP gcdN
 rw[hb,if_neg (by simp),if_neg h0]
def cNRight:Con:=nRightC 88 fun a _ _ _ _ w h=>num_Right a _ _ _ _ w h
def cNCmp:Con:=nCmpC 95 fun a b _ _ _ _ _ _ _ _ w h1 h2=>num_Cmp a b _ _ _ _ _ _ _ _ w h1 h2
def cNOf:Con:=nOfC 43 fun z w h1 h2=>num_Of z w h1 h2
def cNGcd:Con:=nBinC 90 gcdP (fun _ b=>[b.right=true]) fun a b _ _ _ _ _ _ _ _ w h h1 h2=>gcd_all a b _ _ _ _ _ _ _ _ _ w h1 h2 h.1 rfl
def cNDiv:Con:=nDivC 91 fun a b _ _ _ _ _ _ _ _ w h1 h2=>div_all a b _ _ _ _ _ _ _ _ _ w h1 h2 rfl
def cRSign:Con where
 f:=89
 g:=fun | [⟨true,[.d (.num a)]⟩]=>some (.one (inV (sgn a.z) 1),[a.right=true])|_=>none
 ok:=by
  intro args res ps h hp
  split at h<;>cases h
  rename_i a
  intro W vals hv
  simp only[rvs_cons,rvs_nil,rv_t,rl_num,rl_nil] at hv
  obtain⟨_,⟨_,⟨n,p,l,c,h1,_,rfl,rfl⟩,rfl⟩,_,rfl,rfl⟩:=hv
  refine (root_sign _ _ _ _ _ W h1 hp.1).mono fun _ _ h=>gv_in ?_ h
  have:=sgn_bd a.z
  exact⟨by omega,by unfold I64;omega⟩
def KNm:List Con:=[cNRight,cNOf,cNGcd,cNDiv,cRSign]
theorem rat_tot(a b:Rat):a<=b\/b<=a:=Rat.le_total
theorem rat_div{a b:Rat}(ha:0<a)(hb:0<b):0<a/b:=by rw[Rat.div_def];exact Rat.mul_pos ha (Rat.inv_pos.2 hb)
structure Re where
 f:Nat->Rat
 c:∀e:Rat,0<e->∃N,∀j k,N<=j->N<=k->f j-f k<=e
theorem Re.bd(x:Re):∃(B:Rat) (N:Nat),0<B/\∀k,N<=k -> -B<=x.f k/\x.f k<=B:=by
 obtain⟨N,h⟩:=x.c 1 (by decide)
 refine⟨(if 0<=x.f N then x.f N else -x.f N)+1,N,?_,fun k hk=>?_⟩
 ·split<;>grind
 ·have h1 := h k N hk (Nat.le_refl _)
  have h2:=h N k (Nat.le_refl _) hk
  split<;>grind
def Re.int(z:Int):Re:=⟨fun _=>(z:Rat),fun e he=>⟨0,fun j k _ _=>by grind⟩⟩
def Re.add(x y:Re):Re:=⟨fun k=>x.f k+y.f k,fun e he=>by
 obtain⟨N,h⟩:=x.c (e/2) (by grind)
 obtain⟨M,g⟩:=y.c (e/2) (by grind)
 refine⟨N+M,fun j k hj hk=>?_⟩
 have h1:=h j k (by omega) (by omega)
 have h2:=g j k (by omega) (by omega)
 grind⟩
def Re.neg(x:Re):Re:=⟨fun k => -x.f k,fun e he=>by
 obtain⟨N,h⟩:=x.c e he
 exact⟨N,fun j k hj hk=>by have h1:=h k j hk hj;grind⟩⟩
theorem rmul_bd{a b B e:Rat}(hB:0<B)(h1 : -B<=a)(h2:a<=B)(h3 : -e<=b)(h4:b<=e):a*b<=B*e:=by
 have he:0<=e:=by grind
 rcases rat_tot 0 a with h|h
 ·have k1 := Rat.mul_le_mul_of_nonneg_left h4 h
  have k2:=Rat.mul_le_mul_of_nonneg_right h2 he
  grind
 ·have k1 := Rat.mul_le_mul_of_nonneg_left h3 (show 0 <= -a by grind)
  have k2:=Rat.mul_le_mul_of_nonneg_right (show -a<=B by grind) he
  grind
def Re.mul(x y:Re):Re:=⟨fun k=>x.f k*y.f k,fun e he=>by
 obtain⟨B,N,hB,hb⟩:=x.bd
 obtain⟨C,M,hC,hc⟩:=y.bd
 have e1:0<e/(2*B):=rat_div he (by grind)
 have e2:0<e/(2*C):=rat_div he (by grind)
 obtain⟨K,h⟩:=x.c _ e2
 obtain⟨L,g⟩:=y.c _ e1
 refine⟨N+M+K+L,fun j k hj hk=>?_⟩
 have b1:=hb j (by omega)
 have b2:=hc k (by omega)
 have h1:=h j k (by omega) (by omega)
 have h2:=h k j (by omega) (by omega)
 have g1:=g j k (by omega) (by omega)
 have g2:=g k j (by omega) (by omega)
 have m1:=rmul_bd (e:=e/(2*B)) hB b1.1 b1.2 (show _<=y.f j-y.f k by grind) g1
 have m2:=rmul_bd (e:=e/(2*C)) hC b2.1 b2.2 (show _<=x.f j-x.f k by grind) h1
 have q1:B*(e/(2*B))=e/2:=by grind
 have q2:C*(e/(2*C))=e/2:=by grind
 grind⟩
def nn(x:Re):Prop:=∀e:Rat,0<e->∃N,∀k,N<=k -> -e<=x.f k
theorem nn_eq{x y:Re}(h:nn x)(e:∀k,x.f k=y.f k):nn y:=fun d hd=>by
 obtain⟨N,g⟩:=h d hd
 exact⟨N,fun k hk=>by rw[<- e];exact g k hk⟩
theorem nn_of{x:Re}(h:∀k,0<=x.f k):nn x:=fun d hd=>⟨0,fun k _=>by have:=h k;grind⟩
theorem nn_add{x y:Re}(h:nn x)(g:nn y):nn (x.add y):=fun e he=>by
 obtain⟨N,h⟩:=h (e/2) (by grind)
 obtain⟨M,g⟩:=g (e/2) (by grind)
 refine⟨N+M,fun k hk=>?_⟩
 have h1:=h k (by omega)
 have h2:=g k (by omega)
 show -e<=x.f k+y.f k
 grind
def ps(x:Re):Prop:=∃(e:Rat) (N:Nat),0<e/\∀k,N<=k->e<=x.f k
theorem ps_nn{x:Re}(h:ps x):nn x:=fun e he=>by
 obtain⟨d,N,hd,h⟩:=h
 exact⟨N,fun k hk=>by have:=h k hk;grind⟩
theorem ps_not{x:Re}(h:ps x):¬nn x.neg:=fun g=>by
 obtain⟨d,N,hd,h⟩:=h
 obtain⟨M,g⟩:=g (d/2) (by grind)
 have h1:=h (N+M) (by omega)
 have h2:=g (N+M) (by omega)
 have h3 : -(d/2) <= -x.f (N+M):=h2
 grind
theorem ps_of{x:Re}(h:¬nn x.neg):ps x:=by
 have:∃e:Rat,0<e/\∀N,∃k,N<=k/\e<x.f k:=by
  apply Classical.byContradiction
  intro hn
  apply h
  intro e he
  apply Classical.byContradiction
  intro h2
  apply hn
  refine⟨e,he,fun N=>?_⟩
  apply Classical.byContradiction
  intro h3
  apply h2
  refine⟨N,fun k hk=>?_⟩
  show -e <= -x.f k
  rcases rat_tot (x.f k) e with g|g
  ·grind
  ·rcases Rat.le_iff_lt_or_eq.1 g with g | g
   ·exact absurd ⟨k,hk,g⟩ h3
   ·grind
 obtain⟨e,he,h⟩:=this
 obtain⟨N,g⟩:=x.c (e/2) (by grind)
 obtain⟨j,hj,h⟩:=h N
 exact⟨e/2,N,by grind,fun k hk=>by have:=g j k hj hk;grind⟩
theorem nn_or(x:Re):nn x\/nn x.neg:=by
 by_cases h:nn x.neg
 ·exact .inr h
 ·exact .inl (ps_nn (ps_of h))
theorem ps_mul{x y:Re}(h:ps x)(g:ps y):ps (x.mul y):=by
 obtain⟨d,N,hd,h⟩:=h
 obtain⟨e,M,he,g⟩:=g
 refine⟨d*e,N+M,Rat.mul_pos hd he,fun k hk=>?_⟩
 have h1:=h k (by omega)
 have h2:=g k (by omega)
 have k1:=Rat.mul_le_mul_of_nonneg_left h2 (show 0<=d by grind)
 have k2:=Rat.mul_le_mul_of_nonneg_right h1 (show 0<=y.f k by grind)
 show d*e<=x.f k*y.f k
 grind
theorem ps_add{x y:Re}(h:ps x)(g:nn y):ps (x.add y):=by
 obtain⟨d,N,hd,h⟩:=h
 obtain⟨M,g⟩:=g (d/2) (by grind)
 refine⟨d/2,N+M,by grind,fun k hk=>?_⟩
 have h1:=h k (by omega)
 have h2:=g k (by omega)
 show d/2<=x.f k+y.f k
 grind
theorem nn_mul{x y:Re}(h:nn x)(g:nn y):nn (x.mul y):=fun e he=>by
 obtain⟨B,N,hB,hb⟩:=x.bd
 obtain⟨C,M,hC,hc⟩:=y.bd
 have e1:0<e/(B+C):=rat_div he (by grind)
 obtain⟨K,h⟩:=h _ e1
 obtain⟨L,g⟩:=g _ e1
 refine⟨N+M+K+L,fun k hk=>?_⟩
 have b1:=hb k (by omega)
 have b2:=hc k (by omega)
 have h1:=h k (by omega)
 have h2:=g k (by omega)
 have q:(B+C)*(e/(B+C))=e:=by grind
 obtain⟨t,ht⟩:∃t,e/(B+C)=t:=⟨_,rfl⟩
 rw[ht] at h1 h2 q e1
 show -e<=x.f k*y.f k
 obtain⟨a,ha⟩:∃a,x.f k=a:=⟨_,rfl⟩
 obtain⟨b,hb'⟩:∃b,y.f k=b:=⟨_,rfl⟩
 rw[ha] at b1 h1 ⊢
 rw[hb'] at b2 h2 ⊢
 rcases rat_tot 0 a with s|s
 ·rcases rat_tot 0 b with r | r
  ·have:=Rat.mul_nonneg s r;grind
  ·have k1 := Rat.mul_le_mul_of_nonneg_left h2 s
   have k2:=Rat.mul_le_mul_of_nonneg_right b1.2 (show 0<=t by grind)
   have k3:=Rat.mul_nonneg (show 0<=C by grind) (show 0<=t by grind)
   grind
 ·rcases rat_tot 0 b with r | r
  ·have k1 := Rat.mul_le_mul_of_nonneg_right h1 r
   have k2:=Rat.mul_le_mul_of_nonneg_right b2.2 (show 0<=t by grind)
   have k3:=Rat.mul_nonneg (show 0<=B by grind) (show 0<=t by grind)
   grind
  ·have:=Rat.mul_nonneg (show 0 <= -a by grind) (show 0 <= -b by grind);grind
def isq:Nat->Nat
 | 0=>0
 | m+1=>if (isq m+1)*(isq m+1)<=m+1 then isq m+1 else isq m
theorem isq_ok:∀m,isq m*isq m<=m/\m<(isq m+1)*(isq m+1)
 | 0=>by decide
 | m+1=>by
  obtain⟨h1,h2⟩:=isq_ok m
  unfold isq
  split
  ·rename_i h
   refine⟨h,?_⟩
   have e:(isq m+1+1)*(isq m+1+1)=(isq m+1)*(isq m+1)+2*(isq m+1)+1:=by grind
   omega
  ·omega
theorem pow_cast(k:Nat):((2 ^ k:Nat):Rat)*((2 ^ k:Nat):Rat)=((4 ^ k:Nat):Rat):=by
 rw[<- Rat.natCast_mul,<- Nat.mul_pow]
theorem pow_posR(k:Nat):(0:Rat)<((2 ^ k:Nat):Rat):=by
 have:0<2 ^ k:=Nat.pow_pos (by decide)
 exact Rat.natCast_pos.2 this
theorem sq_canc{a b p:Rat}(hp:0<p)(h:a*(p*p)<=b*(p*p)):a<=b:=by
 rcases rat_tot a b with g|g
 ·exact g
 ·rcases Rat.le_iff_lt_or_eq.1 g with g | g
  ·have:=Rat.mul_lt_mul_of_pos_right g (Rat.mul_pos hp hp);grind
  ·grind
theorem sq_le{a b:Rat}(hb:0<=b)(h:a*a<=b*b):a<=b:=by
 rcases rat_tot a b with g|g
 ·exact g
 ·rcases Rat.le_iff_lt_or_eq.1 g with g | g
  ·have k1 := Rat.mul_lt_mul_of_pos_right g (show 0 < a by grind)
   have k2:=Rat.mul_le_mul_of_nonneg_left (show b<=a by grind) hb
   grind
  ·grind
def rtf(c k:Nat):Rat:=((isq (c*4 ^ k):Nat):Rat)/((2 ^ k:Nat):Rat)
def tk(k:Nat):Rat:=1/((2 ^ k:Nat):Rat)
theorem tk_pos(k:Nat):0<tk k:=rat_div (by decide) (pow_posR k)
theorem rtf_nn(c k:Nat):0<=rtf c k:=by
 unfold rtf
 have hp:=pow_posR k
 have h0:(0:Rat)<=((isq (c*4 ^ k):Nat):Rat):=Rat.natCast_nonneg
 rw[Rat.div_def]
 exact Rat.mul_nonneg h0 (by have:=Rat.inv_pos.2 hp;grind)
theorem rtf_bd(c k:Nat):rtf c k*rtf c k<=(c:Rat)/\(c:Rat)<=(rtf c k+tk k)*(rtf c k+tk k):=by
 obtain⟨h1,h2⟩:=isq_ok (c*4 ^ k)
 have h1:((isq (c*4 ^ k)*isq (c*4 ^ k):Nat):Rat)<=((c*4 ^ k:Nat):Rat):=Rat.natCast_le_natCast.2 h1
 have h2:((c*4 ^ k:Nat):Rat)<=(((isq (c*4 ^ k)+1)*(isq (c*4 ^ k)+1):Nat):Rat):=Rat.natCast_le_natCast.2 (Nat.le_of_lt h2)
 rw[Rat.natCast_mul,Rat.natCast_mul,<- pow_cast] at h1 h2
 rw[Rat.natCast_add] at h2
 have hp:=pow_posR k
 unfold rtf tk
 generalize ((isq (c*4 ^ k):Nat):Rat)=r at *
 generalize ((2 ^ k:Nat):Rat)=p at *
 generalize (c:Rat)=d at *
 have hp0:p≠0:=by grind
 obtain⟨x,X⟩:∃x,r/p=x:=⟨_,rfl⟩
 obtain⟨t,T⟩:∃t,1/p=t:=⟨_,rfl⟩
 have e1:r=x*p:=by rw[<- X];grind
 have e2:1=t*p:=by rw[<- T];grind
 rw[X,T]
 have h3:((1:Nat):Rat)=1:=rfl
 rw[h3] at h2
 constructor
 ·refine sq_canc hp ?_
  rw[e1] at h1
  grind
 ·refine sq_canc hp ?_
  have e3:r+1=(x+t)*p:=by grind
  rw[e3] at h2
  grind
theorem rat_den(e:Rat):e*(e.den:Rat)=(e.num:Rat):=by
 have h:=Rat.mkRat_self e
 rw[Rat.mkRat_eq_div] at h
 have hd:((e.den:Nat):Rat)≠0:=by
  have:=e.den_pos
  have h2:(0:Rat)<((e.den:Nat):Rat):=Rat.natCast_pos.2 this
  grind
 generalize ((e.den:Nat):Rat)=d at *
 generalize ((e.num:Int):Rat)=n at *
 rw[<- h]
 grind
theorem rat_num{e:Rat}(h:0<e):0<e.num:=by
 have:=(Rat.lt_iff _ _).1 h
 simpa using this
theorem arch(b:Nat){e:Rat}(he:0<e):∃N,∀k,N<=k->(b:Rat)*tk k<=e:=by
 refine⟨b*e.den,fun k hk=>?_⟩
 have h1:(b*e.den:Nat)<2 ^ k:=Nat.lt_of_le_of_lt hk Nat.lt_two_pow_self
 have h2:((b*e.den:Nat):Rat)<=((2 ^ k:Nat):Rat):=Rat.natCast_le_natCast.2 (Nat.le_of_lt h1)
 rw[Rat.natCast_mul] at h2
 have h3:e*(e.den:Rat)=(e.num:Rat):=rat_den e
 have h4:(1:Rat)<=(e.num:Rat):=by
  have:0<e.num:=rat_num he
  have:(1:Int)<=e.num:=this
  exact Rat.intCast_le_intCast.2 this
 have h5:=Rat.mul_le_mul_of_nonneg_left h2 (show 0<=e by grind)
 have h6:=Rat.mul_le_mul_of_nonneg_left h4 (show (0:Rat)<=(b:Rat) from Rat.natCast_nonneg)
 have hp:=pow_posR k
 unfold tk
 generalize ((2 ^ k:Nat):Rat)=p at *
 have h7:(b:Rat)<=e*p:=by grind
 obtain⟨t,T⟩:∃t,1/p=t:=⟨_,rfl⟩
 have hp0:p≠0:=by grind
 have e2:1=t*p:=by rw[<- T];grind
 have ht:0<t:=by rw[<- T];exact rat_div (by decide) hp
 rw[T]
 have h8:=Rat.mul_le_mul_of_nonneg_right h7 (show 0<=t by grind)
 have h9:e*p*t=e:=by rw[Rat.mul_assoc,Rat.mul_comm p t,<- e2,Rat.mul_one]
 rw[h9] at h8
 exact h8
def Re.rt(c:Nat):Re:=⟨rtf c,fun e he=>by
 obtain⟨N,h⟩:=arch 1 he
 refine⟨N,fun j k _ hk=>?_⟩
 have h1:=h k hk
 have h2:((1:Nat):Rat)=1:=rfl
 rw[h2] at h1
 have h3:=(rtf_bd c j).1
 have h4:=(rtf_bd c k).2
 have h5:=sq_le (show 0<=rtf c k+tk k by have:=rtf_nn c k;have:=tk_pos k;grind) (show rtf c j*rtf c j<=_ by grind)
 grind⟩
theorem rt_nn(c:Nat):nn (Re.rt c):=nn_of fun k=>rtf_nn c k
theorem rt_le(c:Nat)(k:Nat):rtf c k<=(c:Rat)+1:=by
 have h:=(rtf_bd c k).1
 have h0:(0:Rat)<=(c:Rat):=Rat.natCast_nonneg
 refine sq_le (by grind) ?_
 have:=Rat.mul_nonneg h0 h0
 grind
theorem rt_up(c:Nat):nn ((Re.int c).add ((Re.rt c).mul (Re.rt c)).neg):=nn_of fun k=>by
 have h:=(rtf_bd c k).1
 show 0<=((c:Int):Rat) + -(rtf c k*rtf c k)
 rw[Rat.intCast_natCast]
 grind
theorem rt_dn(c:Nat):nn (((Re.rt c).mul (Re.rt c)).add (Re.int c).neg):=fun e he=>by
 obtain⟨N,h⟩:=arch (2*(c+1)+1) he
 refine⟨N,fun k hk=>?_⟩
 have h1:=h k hk
 have h2:=(rtf_bd c k).2
 have h3:=rt_le c k
 have h4:=tk_pos k
 have h5:tk k<=1:=by
  have hp:=pow_posR k
  have:((1:Nat):Rat)<=((2 ^ k:Nat):Rat):=Rat.natCast_le_natCast.2 (Nat.pow_pos (by decide))
  have h6:((1:Nat):Rat)=1:=rfl
  rw[h6] at this
  unfold tk
  generalize ((2 ^ k:Nat):Rat)=p at *
  obtain⟨t,T⟩:∃t,1/p=t:=⟨_,rfl⟩
  have hp0:p≠0:=by grind
  have e2:1=t*p:=by rw[<- T];grind
  have ht:0<t:=by rw[<- T];exact rat_div (by decide) hp
  rw[T]
  have:=Rat.mul_le_mul_of_nonneg_left this (show 0<=t by grind)
  grind
 show -e<=rtf c k*rtf c k + -((c:Int):Rat)
 rw[Rat.intCast_natCast]
 have e1:((2*(c+1)+1:Nat):Rat)=2*((c:Rat)+1)+1:=by
  rw[Rat.natCast_add,Rat.natCast_mul,Rat.natCast_add];rfl
 rw[e1] at h1
 have k1:=Rat.mul_le_mul_of_nonneg_right h3 (show 0<=tk k by grind)
 have k2:=Rat.mul_le_mul_of_nonneg_right h5 (show 0<=tk k by grind)
 generalize rtf c k=r at *
 generalize tk k=t at *
 generalize (c:Rat)=d at *
 grind

set_option maxHeartbeats 1000000
set_option maxRecDepth 100000
section
theorem root_Sign1(a b c:Nm)(na nb nc:Bool)(pa pb pc:Option Addr)(la ca lb cb lc cc A B C:Nat)(w:World)(ha:NR w na pa la ca a)(hb:NR w nb pb lb cb b)(hc:NR w nc pc lc cc c)(ra:a.right=true)(rb:b.right=true)(rc:c.right=true)
  (s1:∀k,small (prodZ ([a,a].take k))=true) (s2:∀k,small (prodZ ([b,b,c].take k))=true)
  (a0:w.cell? ⟨A,0,none⟩=some (.bool na)) (a1:w.cell? ⟨A,1,none⟩=some (.slice pa la ca)) (b0:w.cell? ⟨B,0,none⟩=some (.bool nb)) (b1:w.cell? ⟨B,1,none⟩=some (.slice pb lb cb)) (c0:w.cell? ⟨C,0,none⟩=some (.bool nc)) (c1:w.cell? ⟨C,1,none⟩=some (.slice pc lc cc)) :
  Calls Tryz.prog 244 #[.pointer (some ⟨A,0,none⟩),.pointer (some ⟨B,0,none⟩),.pointer (some ⟨C,0,none⟩)] w fun e w'=>e=.returned (.int .i64 (sideZ a.z b.z c.z))/\Ext w w':=by
 have S1:=Lib.hid s1
 have S2:=Lib.hid s2
 clear s1 s2
 go_enter Tryz.func244,Tryz.ntmps244
 go_wp2_with fail
 refine (root_side a b c _ _ _ _ _ _ _ _ _ _ _ _ _ ha hb hc ra rb rc S1.out S2.out).mono ?_
 rintro e w1 ⟨rfl,hx⟩
 go_wp2
 go_ret
 exact⟨rfl,hx⟩
theorem root_guarded_sign(a b c:Nm)(na nb nc:Bool)(pa pb pc:Option Addr)(la ca lb cb lc cc A B C:Nat)(w:World)(ha:NR w na pa la ca a)(hb:NR w nb pb lb cb b)(hc:NR w nc pc lc cc c)(ra:a.right=true)(rb:b.right=true)(rc:c.right=true)
  (s1:∀k,small (prodZ ([a,a].take k))=true) (s2:∀k,small (prodZ ([b,b,c].take k))=true)
  (a0:w.cell? ⟨A,0,none⟩=some (.bool na)) (a1:w.cell? ⟨A,1,none⟩=some (.slice pa la ca)) (b0:w.cell? ⟨B,0,none⟩=some (.bool nb)) (b1:w.cell? ⟨B,1,none⟩=some (.slice pb lb cb)) (c0:w.cell? ⟨C,0,none⟩=some (.bool nc)) (c1:w.cell? ⟨C,1,none⟩=some (.slice pc lc cc)) :
  Calls Tryz.prog 96 #[.func (.func 244) #[] #[.pointer (some ⟨A,0,none⟩),.pointer (some ⟨B,0,none⟩),.pointer (some ⟨C,0,none⟩)]] w fun e w'=>e=.returned (.int .i64 (sideZ a.z b.z c.z))/\Ext w w':=by
 have S1:=Lib.hid s1
 have S2:=Lib.hid s2
 clear s1 s2
 have hmf:∀(fn:Fn) (first cap:Array Value) (w:World),(Instr.makeFunc fn first cap).run Tryz.prog w=.ok (.func fn first cap) w:=fun _ _ _ _=>rfl
 have hA:=World.block_lt_of_cell? w _ a0
 have hB:=World.block_lt_of_cell? w _ b0
 have hC:=World.block_lt_of_cell? w _ c0
 have hx0:Ext w (w.alloc (.cells #[.int .i64 0] 3)):=bxx
 go_enter_defers Tryz.func96,Tryz.ntmps96
 go_wp2_with fail
 refine (root_Sign1 a b c _ _ _ _ _ _ _ _ _ _ _ _ A B C _ (ha.ext hx0) (hb.ext hx0) (hc.ext hx0) ra rb rc S1.out S2.out ((hx0.cell (p:=⟨A,0,none⟩) hA).trans a0) ((hx0.cell (p:=⟨A,1,none⟩) hA).trans a1) ((hx0.cell (p:=⟨B,0,none⟩) hB).trans b0) ((hx0.cell (p:=⟨B,1,none⟩) hB).trans b1) ((hx0.cell (p:=⟨C,0,none⟩) hC).trans c0) ((hx0.cell (p:=⟨C,1,none⟩) hC).trans c1)).mono ?_
 rintro e w1 ⟨rfl,hx⟩
 have hx1:Ext w w1:=Ext.step hx0 hx
 obtain⟨_,_,hk_w1_0,_⟩:=keepK1 hx w.heap.size
 go_wp2_with fail
 refine leaves_cons (f:=154) (args:=#[.pointer (some ⟨w.heap.size,0,none⟩)]) (by simp) (by simp[go_sem]) ?_
 refine (catch_idle ⟨w.heap.size,0,none⟩ _).mono ?_
 rintro e u' w'' ⟨rfl,rfl,rfl⟩
 simp[Leaves,settle,results,Tryz.results96,go_sem,hk_w1_0]
 exact bxx
end
end Go.Proofs.YteajakbpmeebnaaGreat
