import Derived.Test.YtceemiodpccbhaaGreatQ25
set_option linter.unusedVariables false
set_option linter.unusedSimpArgs false

namespace Go.Proofs.YtceemiodpccbhaaGreat
open Go.RowKit

set_option maxHeartbeats 4000000
set_option maxRecDepth 100000
section
open Go.RowKit Go.Shelf
attribute [local go_sem] Oper.semAt_some
attribute [local go_sem] Gives givesU
structure KpP (X:List Nat) (A B:World):Prop where
 size:A.heap.size<=B.heap.size
 same:∀(k:Nat) (o:Obj),A.heap[k]? = some o->o.isCells=true->k∉X->B.heap[k]? = some o
theorem KpP.refl(X:List Nat)(A:World):KpP X A A:=⟨Nat.le_refl _,fun _ _ h _ _=>h⟩
theorem KpP.trans{X:List Nat}{A B C:World}(h:KpP X A B)(k:KpP X B C):KpP X A C:=⟨Nat.le_trans h.size k.size,fun i o hi ho hx=>k.same i o (h.same i o hi ho hx) ho hx⟩
theorem KpP.ext{X:List Nat}{A B:World}(h:Ext A B):KpP X A B:=⟨h.size,fun i o hi _ _=>(h.block i (Array.getElem?_eq_some_iff.1 hi).1).trans hi⟩
theorem KpP.drew{X:List Nat}{A B:World}(h:KpP X A B):KpP X A B.drew:=h.trans ⟨Nat.le_refl _,fun _ _ h _ _=>h⟩
theorem KpP.cell{X:List Nat}{A B:World}(h:KpP X A B){k i:Nat}{v:Value}(hc:A.cell? ⟨k,i,none⟩=some v)(hk:k∉X):B.cell? ⟨k,i,none⟩=some v:=by
 obtain⟨o,ho,hcl⟩:=cells_of_cell hc
 exact (World.cell?_of_block (a:=⟨k,i,none⟩) ((h.same k o ho hcl hk).trans ho.symm)).trans hc
theorem EdAt.kept{X:List Nat}{A B:World}{g o:Nat}{e:Ed}(h:EdAt A g o e)(hk:KpP X A B)(hg:g∉X):EdAt B g o e:=⟨hk.cell h.c0 hg,hk.cell h.c1 hg,hk.cell h.c2 hg,hk.cell h.c3 hg,hk.cell h.c4 hg,hk.cell h.c5 hg,hk.cell h.c6 hg⟩
theorem pairs_stops(m:Nat)(hm:1<=m)(X:List Nat)(n n':Nat)(e e':Nat->Ed)(v B1 B2 c c':Nat)(p p':Option Addr)(w:World)(hB1:B1<w.heap.size)(hB2:B2<w.heap.size)(hv:v<=w.heap.size)(hX:∀x∈X,v<=x/\x<w.heap.size)(h1X:B1∉X)(h2X:B2∉X)
  (c0:w.cell? ⟨B1,1,none⟩=some (.slice p n c)) (c1:w.cell? ⟨B2,1,none⟩=some (.slice p' n' c')) (hR:EdRow v w p n e) (hR':EdRow v w p' n' e') (hn:n<=1000) (hn':n'<=1000) :
  SeqStopsK Fence.wide m Tryz.prog 90 #[.pointer (some ⟨B1,0,none⟩),.pointer (some ⟨B2,0,none⟩)] (fun i:Nat=>#[edA (e (i/n')),edA (e' (i%n'))]) (KpP X) (fun xs=>xs=upT (n*n')) (fun pre=>∃k,k<n*n'/\pre=upT (k+1)) (n*n') w:=fun L J Jx W hW hA hAx hY h0=>by
 have k0:W.cell? ⟨B1,1,none⟩=some (.slice p n c):=(hW.cell (p:=⟨B1,1,none⟩) hB1).trans c0
 have k1:W.cell? ⟨B2,1,none⟩=some (.slice p' n' c'):=(hW.cell (p:=⟨B2,1,none⟩) hB2).trans c1
 have hrW:EdRow v W p n e:=hR.below (hW.mono hv)
 have hrW':EdRow v W p' n' e':=hR'.below (hW.mono hv)
 have hWs:=hW.size
 have nX:∀k,W.heap.size<=k->k∉X:=fun k hk hx=>by have:=(hX k hx).2;omega
 have vX:∀k,k<v->k∉X:=fun k hk hx=>by have:=(hX k hx).1;omega
 clear c0 c1 hR hR'
 refine callsIn_of_wp Tryz.func90 rfl trivial ?_ rfl
 simp only[Tryz.ntmps90,List.size_toArray,List.length_cons,List.length_nil,Nat.reduceAdd,Nat.reduceSub,Array.replicate_succ,Array.replicate_zero,List.push_toArray,List.append_toArray,List.nil_append,List.cons_append]
 have NX:=Lib.hid nX
 have VX:=Lib.hid vX
 have HRW:=Lib.hid hrW
 have HRW':=Lib.hid hrW'
 have HA:=Lib.hid hA
 have HY:=Lib.hid hY
 clear nX vX hrW hrW' hA hY hAx
 gi_wp2
 gi_loopw [11] (fun i wr=>∃k:Nat,i=.int .i64 (k:Int)/\k<=n/\J (upT (k*n')) wr/\KpP X W wr) (fun i _=>n-(intOf i).toNat)
 case atStart=>exact⟨0,rfl,by omega,by rw[Nat.zero_mul];exact h0,KpP.refl _ _⟩
 case round =>
  obtain⟨k,rfl,hk,hJ,hK⟩:=hrel
  by_cases hlt:k<n
  ·obtain ⟨g, o, rfl, hg, E0⟩ := HRW.out k hlt
   obtain⟨a0,a1,a2,a3,a4,a5,a6⟩:=E0.kept hK (VX.out g hg)
   have m0:=hK.cell k0 h1X
   have m1:=hK.cell k1 h2X
   have ix0:0<=(k:Int):=by omega
   have ix2:(k:Int)<(n:Int):=by omega
   have b1:B1<wr.heap.size:=by have:=hK.size;omega
   have b2:B2<wr.heap.size:=by have:=hK.size;omega
   have HK:=Lib.hid hK
   have HJ:=Lib.hid hJ
   clear hK hJ E0
   gi_wp2
   have hg0:=KpP.ext (X:=X) (below_alloc wr (.cells #[.int .i64 (e k).k,.int .i64 (e k).ax,.int .i64 (e k).ay,.int .i64 (e k).bx,.int .i64 (e k).by',.int .i64 (e k).cx,.int .i64 (e k).cy] 70))
   have hJ0:J (upT (k*n'+0)) (wr.alloc (.cells #[.int .i64 (e k).k,.int .i64 (e k).ax,.int .i64 (e k).ay,.int .i64 (e k).bx,.int .i64 (e k).by',.int .i64 (e k).cx,.int .i64 (e k).cy] 70)):=HA.out _ _ _ none HJ.out (World.grownBy_alloc _ _ none) (fun r h=>by cases h)
   have hE0:EdAt (wr.alloc (.cells #[.int .i64 (e k).k,.int .i64 (e k).ax,.int .i64 (e k).ay,.int .i64 (e k).bx,.int .i64 (e k).by',.int .i64 (e k).cx,.int .i64 (e k).cy] 70)) wr.heap.size 0 (e k):=⟨by go_simp,by go_simp,by go_simp,by go_simp,by go_simp,by go_simp,by go_simp⟩
   have hK0:=HK.out.trans hg0
   have hsz:wr.heap.size<(wr.alloc (.cells #[.int .i64 (e k).k,.int .i64 (e k).ax,.int .i64 (e k).ay,.int .i64 (e k).bx,.int .i64 (e k).by',.int .i64 (e k).cx,.int .i64 (e k).cy] 70)).heap.size:=by simp
   have IN:=Lib.hid (And.intro hJ0 (And.intro hK0 (And.intro hE0 hsz)))
   have hWr:=Lib.hid (show W.heap.size<=wr.heap.size from HK.out.size)
   obtain⟨z,hz⟩:∃z,wr.heap.size=z:=⟨_,rfl⟩
   clear hg0 hJ0 hE0 hK0 hsz m0 m1 a0 a1 a2 a3 a4 a5 a6 b1 b2
   rw[hz] at IN hWr ⊢
   generalize wr.alloc (.cells #[.int .i64 (e k).k,.int .i64 (e k).ax,.int .i64 (e k).ay,.int .i64 (e k).bx,.int .i64 (e k).by',.int .i64 (e k).cx,.int .i64 (e k).cy] 70)=W0 at IN ⊢
   gi_loopw [18] (fun i W2=>∃q:Nat,i=.int .i64 (q:Int)/\q<=n'/\J (upT (k*n'+q)) W2/\KpP X W W2/\EdAt W2 z 0 (e k)/\z<W2.heap.size) (fun i _=>n'-(intOf i).toNat)
   case atStart=>exact⟨0,rfl,by omega,IN.out⟩
   case round =>
    obtain⟨q,rfl,hq,hJ,hK,hE,hzW⟩:=hrel
    by_cases hlq:q<n'
    ·obtain ⟨g', o', rfl, hg', E1⟩ := HRW'.out q hlq
     obtain⟨b0,b1,b2,b3,b4,b5,b6⟩:=E1.kept hK (VX.out g' hg')
     obtain⟨c0,c1,c2,c3,c4,c5,c6⟩:=hE
     have iy0:0<=(q:Int):=by omega
     have iy2:(q:Int)<(n':Int):=by omega
     have hkk:Hid (k*n'+q<n*n'):=Lib.hid (by have:=Nat.mul_le_mul_right n' (show k+1<=n by omega);rw[Nat.succ_mul] at this;omega)
     have hnX:z∉X:=NX.out z hWr.out
     have hJ1:J (upT (k*n'+q)) (wr.alloc (.cells #[.int .i64 (e' q).k,.int .i64 (e' q).ax,.int .i64 (e' q).ay,.int .i64 (e' q).bx,.int .i64 (e' q).by',.int .i64 (e' q).cx,.int .i64 (e' q).cy] 70)):=HA.out _ _ _ none hJ (World.grownBy_alloc _ _ none) (fun r h=>by cases h)
     obtain⟨f1,t1,x1,y1,hy1,hR1⟩:=HY.out (upT (k*n'+q)) (k*n'+q) _ hJ1 (by rw[upT_len];exact hkk.out)
     have ed:(k*n'+q)/n'=k:=by rw[Nat.mul_comm,Nat.mul_add_div (by omega),Nat.div_eq_of_lt hlq];rfl
     have em:(k*n'+q)%n'=q:=by rw[Nat.mul_comm,Nat.mul_add_mod,Nat.mod_eq_of_lt hlq]
     rw[ed,em] at hy1
     unfold edA at hy1
     have hK1:=hK.trans (KpP.ext (X:=X) (below_alloc wr (.cells #[.int .i64 (e' q).k,.int .i64 (e' q).ax,.int .i64 (e' q).ay,.int .i64 (e' q).bx,.int .i64 (e' q).by',.int .i64 (e' q).cx,.int .i64 (e' q).cy] 70)))
     have hE1:EdAt (wr.alloc (.cells #[.int .i64 (e' q).k,.int .i64 (e' q).ax,.int .i64 (e' q).ay,.int .i64 (e' q).bx,.int .i64 (e' q).by',.int .i64 (e' q).cx,.int .i64 (e' q).cy] 70)) z 0 (e k):=⟨by go_simp,by go_simp,by go_simp,by go_simp,by go_simp,by go_simp,by go_simp⟩
     have hs1:z<(wr.alloc (.cells #[.int .i64 (e' q).k,.int .i64 (e' q).ax,.int .i64 (e' q).ay,.int .i64 (e' q).bx,.int .i64 (e' q).by',.int .i64 (e' q).cx,.int .i64 (e' q).cy] 70)).heap.size:=by simp;omega
     have HK1:=Lib.hid hK1
     have HE1:=Lib.hid hE1
     have HS1:=Lib.hid hs1
     have hR2:=Lib.hid (RoundIn.mono hR1 (R':=fun e W'=>∃b:Bool,e=.returned (.bool b)/\Hid (if b then J (upT (k*n'+q)++[k*n'+q]) W'/\KpP X (wr.alloc (.cells #[.int .i64 (e' q).k,.int .i64 (e' q).ax,.int .i64 (e' q).ay,.int .i64 (e' q).bx,.int .i64 (e' q).by',.int .i64 (e' q).cx,.int .i64 (e' q).cy] 70)) W' else Jx (upT (k*n'+q)++[k*n'+q]) W')) (by
      rintro e' W1 (⟨rfl,h1,h2⟩|⟨rfl,h1⟩)
      ·exact⟨true,rfl,Lib.hid (by rw[if_pos rfl];exact⟨h1,h2⟩)⟩
      ·exact⟨false,rfl,Lib.hid (by rw[if_neg (by decide)];exact h1)⟩))
     clear hJ hJ1 hR1 hK hK1 hE1 hs1 E1 ed em
     gi_wp2
     refine RoundIn.mono hR2.out ?_
     rintro e2 W1 ⟨b,rfl,h1⟩
     cases b
     ·have h2 : Hid (Jx (upT (k * n' + q + 1)) W1) := Lib.hid (by have := h1.out; rw [if_neg (by decide)] at this; rw [upT_succ]; exact this)
      clear h1 hy1 hR2
      gi_wp2
      refine bodyPost_ret (results_none rfl _ _ _) rfl ?_
      exact⟨⟨_,rfl⟩,.inr ⟨_,⟨k*n'+q,hkk.out,rfl⟩,h2.out⟩⟩
     ·have h2:Hid (J (upT (k*n'+(q+1))) W1/\KpP X W W1/\EdAt W1 z 0 (e k)/\z<W1.heap.size):=Lib.hid (by
       have:=h1.out
       rw[if_pos rfl] at this
       rw[<- Nat.add_assoc,upT_succ]
       exact⟨this.1,HK1.out.trans this.2,HE1.out.kept this.2 hnX,Nat.lt_of_lt_of_le HS1.out this.2.size⟩)
      have wq:IntKind.i64.wrap ((q:Int)+1)=((q+1:Nat):Int):=by rw[wrap_in (by unfold I64;omega)];omega
      clear h1 hy1 hR2
      gi_wp2
      exact⟨⟨q+1,by simp,by omega,h2.out⟩,by simp[intOf];omega⟩
    ·obtain rfl : q = n' := by omega
     have ix:¬((q:Int)<(q:Int)):=by omega
     have h2:Hid (J (upT ((k+1)*q)) wr/\KpP X W wr):=Lib.hid ⟨by rw[Nat.succ_mul];exact hJ,hK⟩
     have wk:IntKind.i64.wrap ((k:Int)+1)=((k+1:Nat):Int):=by rw[wrap_in (by unfold I64;omega)];omega
     clear hJ hK hE
     gi_wp2
     exact⟨⟨k+1,by simp,by omega,h2.out⟩,by simp[intOf];omega⟩
  ·obtain rfl : k = n := by omega
   have ix:¬((k:Int)<(k:Int)):=by omega
   have h2:=Lib.hid hJ
   clear hJ hK
   gi_wp2
   go_end0
   first
    | exact⟨⟨_,rfl⟩,.inl ⟨_,rfl,h2.out⟩⟩
    | exact⟨⟨_,rfl⟩,.inl h2.out⟩
end

set_option maxHeartbeats 4000000
set_option maxRecDepth 100000
section
open Go.RowKit Go.Shelf
attribute [local go_sem] Oper.semAt_some
attribute [local go_sem] Gives givesU
abbrev Dg:={ x:Nat // x<4294967296 }
def KR(B:Nat)(p:Option Addr)(n:Nat)(W W':World):Prop:=(∀o,W'.cell? ⟨B,o,none⟩=W.cell? ⟨B,o,none⟩)/\(0<n->∀a,p=some a->∀o,W'.cell? ⟨a.block,o,none⟩=W.cell? ⟨a.block,o,none⟩)
theorem down_stops(n:Nat)(hn:1<=n)(Bc c:Nat)(d:List Nat)(p:Option Addr)(w:World)(hB:Bc<w.heap.size)(c0:w.cell? ⟨Bc,0,none⟩=some (.slice p d.length c))(hr:Row w p c d) :
  SeqStopsK Fence.wide n Tryz.prog 166 #[.pointer (some ⟨Bc,0,none⟩)] (fun x:Dg=>#[.int .u32 (x.1:Int)]) (KR Bc p d.length) (fun xs=>xs.map (·.1)=d.reverse) (fun _=>True) d.length w:=fun L J Jx W hW _ _ hY h0=>by
 have k0:W.cell? ⟨Bc,0,none⟩=some (.slice p d.length c):=(hW.cell (p:=⟨Bc,0,none⟩) hB).trans c0
 have hrW:Row W p c d:=hr.ext hW
 have hma:=hr.max
 have hle:=hr.le
 clear c0 hr
 refine callsIn_of_wp Tryz.func166 rfl trivial ?_ rfl
 simp only[Tryz.ntmps166,List.size_toArray,List.length_cons,List.length_nil,Nat.reduceAdd,Nat.reduceSub,Array.replicate_succ,Array.replicate_zero,List.push_toArray,List.append_toArray,List.nil_append,List.cons_append]
 gi_wp2
 gi_loopw [3] (fun i wr=>∃(k:Nat) (pre:List Dg),i=.int .i64 ((k:Int)-1)/\pre.length+k=d.length/\pre.map (·.1)=(d.drop k).reverse/\J pre wr/\KR Bc p d.length W wr) (fun i _=>(intOf i+1).toNat)
 case atStart=>exact⟨d.length,[],rfl,by simp,by rw[List.drop_eq_nil_of_le (Nat.le_refl _)];rfl,h0,fun _=>rfl,fun _ _ _ _=>rfl⟩
 case round =>
  obtain⟨k,pre,rfl,hk,hpre,hJ,hK1,hK2⟩:=hrel
  have m0:wr.cell? ⟨Bc,0,none⟩=some (.slice p d.length c):=(hK1 0).trans k0
  cases k with
  | zero =>
   have HJ:=Lib.hid hJ
   have HP:=Lib.hid hpre
   clear hJ hpre hK1 hK2 hk
   have e:(((0:Nat):Int)-1) = -1:=by omega
   rw[e]
   clear e
   gi_wp2
   go_end0
   exact⟨⟨_,rfl⟩,.inl ⟨pre,by rw[HP.out,List.drop_zero],HJ.out⟩⟩
  | succ j =>
   have e:(((j+1:Nat):Int)-1)=(j:Int):=by omega
   rw[e]
   clear e
   obtain⟨ba,oa,rfl,hba,hca⟩:=hrW.at (by omega)
   have ca1:wr.cell? ⟨ba,oa+j,none⟩=some (.int .u32 ((d[j]?.getD 0:Nat):Int)):=(hK2 (by omega) _ rfl _).trans (hca j (by omega))
   have hxd:=hrW.dig.getD j
   rw[List.getD_eq_getElem?_getD] at hxd
   have hjd:j<d.length:=by omega
   have hdrop:d.drop j=d[j]?.getD 0::d.drop (j+1):=by rw[List.drop_eq_getElem_cons hjd,getD_eq hjd]
   obtain⟨x,X⟩:∃x,Hid (d[j]?.getD 0=x):=⟨_,rfl⟩
   rw[X.out] at ca1 hxd hdrop
   obtain⟨f1,t1,a1,b1,hy1,hR1⟩:=hY pre ⟨x,hxd⟩ wr hJ (by omega)
   dsimp only at hy1
   have HP:=Lib.hid hpre
   have HD:=Lib.hid hdrop
   have HK1:=Lib.hid hK1
   have HK2:=Lib.hid hK2
   clear hca hpre hJ hdrop hK1 hK2
   gi_wp2
   refine hR1.mono ?_
   rintro e W1 (⟨rfl,hJ1,hkk1,hkk2⟩|⟨rfl,hx1⟩)
   ·have HJ1 := Lib.hid hJ1
    have HL1:=Lib.hid hkk1
    have HL2:=Lib.hid hkk2
    clear hJ1 hkk1 hkk2
    gi_wp2
    refine⟨⟨j,pre++[⟨x,hxd⟩],rfl,by simp;omega,?_,HJ1.out,fun o=>(HL1.out o).trans (HK1.out o),fun h a ha o=>(HL2.out h a ha o).trans (HK2.out h a ha o)⟩,by simp[intOf]⟩
    rw[List.map_append,HP.out,HD.out,List.reverse_cons]
    rfl
   ·gi_wp2
    refine bodyPost_ret (results_none rfl _ _ _) rfl ?_
    exact⟨⟨_,rfl⟩,.inr ⟨_,trivial,hx1⟩⟩
theorem num_down(p:Option Addr)(l c:Nat)(w:World) :
  Calls Tryz.prog 109 #[.slice p l c] w fun e w'=>e=.returned (.func (.func 166) #[] #[.pointer (some ⟨w.heap.size,0,none⟩)])/\Ext w w'/\w'.cell? ⟨w.heap.size,0,none⟩=some (.slice p l c)/\w.heap.size<w'.heap.size:=by
 go_enter Tryz.func109,Tryz.ntmps109
 go_wp2
 go_ret
 exact⟨rfl,bxx,by go_simp,by simp⟩
theorem tight_posD{b:List Nat}(tb:Tight b)(h:0<b.length):0<val b:=by
 rcases Nat.eq_zero_or_pos (val b) with h0|h0
 ·exfalso
  rcases List.eq_nil_or_concat b with rfl|⟨c,x,rfl⟩
  ·simp at h
  ·have hx : x ≠ 0 := by have := tb (by simp); simpa using this
   rw[List.concat_eq_append,val_append,show val [x]=x from (by simp[val])] at h0
   have h1:0<4294967296 ^ c.length:=Nat.pow_pos (by omega)
   have h2:=Nat.mul_pos h1 (show 0<x by omega)
   omega
 ·exact h0
theorem wrapI{n:Int}(h1 : -9223372036854775808<=n)(h2:n<=9223372036854775807):IntKind.i64.wrap n=n:=IntWalk.i64_in _ ⟨h1,h2⟩
def intP(a:Nm):Int×Bool:=if a.right&&decide (a.d.length<=2)&&decide (-9223372036854775808<=a.z)&&decide (a.z<=9223372036854775807) then (a.z,true) else (0,false)
def RetInt(w:World)(r:Int×Bool)(e:Ending)(w':World):Prop:=e=.returned (.tuple #[.int .i64 r.1,.bool r.2])/\Ext w w'
def accD(pre:List Dg):Nat:=pre.foldl (fun m x=>m*4294967296+x.1) 0
theorem accD_snoc(pre:List Dg)(x:Dg):accD (pre++[x])=accD pre*4294967296+x.1:=by simp[accD]
theorem accD_val:∀(pre:List Dg),accD pre=val (pre.map (·.1)).reverse:=by
 intro pre
 have h:∀(l:List Dg) (m:Nat),l.foldl (fun m x=>m*4294967296+x.1) m=val (l.map (·.1)).reverse+4294967296 ^ l.length*m:=by
  intro l
  induction l with
  | nil=>intro m;simp[val]
  | cons x l ih =>
   intro m
   rw[List.foldl_cons,ih,List.map_cons,List.reverse_cons,val_append,show val [x.1]=x.1 from (by simp[val]),List.length_reverse,List.length_map,List.length_cons,Nat.pow_succ]
   rw[Nat.mul_add,Nat.mul_assoc,Nat.mul_comm m]
   omega
 rw[accD,h,Nat.mul_zero,Nat.add_zero]
theorem accD_lt(pre:List Dg):accD pre<4294967296 ^ pre.length:=by
 rw[accD_val]
 have:=val_lt (d:=(pre.map (·.1)).reverse) (by intro y hy;rw[List.mem_reverse,List.mem_map] at hy;obtain⟨z,_,rfl⟩:=hy;exact z.2)
 rwa [List.length_reverse,List.length_map] at this
theorem num_Int(a:Nm)(na:Bool)(pa:Option Addr)(la ca:Nat)(w:World)(ha:NR w na pa la ca a) :
  Calls Tryz.prog 65 #[.agg #[.bool na,.slice pa la ca]] w (RetInt w (intP a)):=by
 have RA:=Lib.hid (fun w' (hx:Ext w w')=>num_Right a na pa la ca w' (ha.ext hx))
 cases ra:a.right with
 | false =>
  rw[ra] at RA
  have hP:intP a=(0,false):=by unfold intP;rw[ra];rfl
  rw[hP]
  go_enter Tryz.func65,Tryz.ntmps65
  go_wp2_with fail
  refine (RA.out _ bxx).mono ?_
  rintro e w1 ⟨rfl,hx⟩
  have hx0:Ext w w1:=Ext.step bxx hx
  go_wp2
  go_ret2
  exact⟨rfl,hx0⟩
 | true =>
  rw[ra] at RA
  by_cases hl:2<la
  ·have hP:intP a=(0,false):=by
    have:=ha.2.1
    unfold intP;rw[if_neg];simp;intros;omega
   rw[hP]
   go_enter Tryz.func65,Tryz.ntmps65
   go_wp2_with fail
   refine (RA.out _ bxx).mono ?_
   rintro e w1 ⟨rfl,hx⟩
   have hx0:Ext w w1:=Ext.step bxx hx
   obtain⟨_,_,hk_w1_0,hf_w1_0⟩:=keepK1 hx w.heap.size
   go_wp2
   go_ret2
   exact⟨rfl,hx0⟩
  ·have dl : decide (2 < (la : Int)) = false := by rw [decide_eq_false_iff_not]; omega
   obtain rfl:la=a.d.length:=ha.2.1
   have hlen:a.d.length<=2:=by omega
   clear hl
   refine (callsIn_wide (n:=6)).1 ?_
   have RA':=Lib.hid (fun w' (hx:Ext w w')=>(callsIn_wide (n:=5)).2 (RA.out w' hx))
   have HA:=Lib.hid ha
   have HLEN:=Lib.hid hlen
   have hrow0:=ha.2.2
   clear ha RA hlen
   refine callsIn_of_wp_marks Tryz.func65 rfl trivial ?_ rfl
   simp only[Tryz.ntmps65,List.size_toArray,List.length_cons,List.length_nil,Nat.reduceAdd,Nat.reduceSub,Array.replicate_succ,Array.replicate_zero,List.push_toArray,List.append_toArray,List.nil_append,List.cons_append]
   gi_wp2
   refine⟨trivial,(RA'.out _ bxx).mono ?_⟩
   rintro e w1 ⟨rfl,hx⟩
   have hx0:Ext w w1:=Ext.step bxx hx
   obtain⟨_,_,hk_w1_0,hf_w1_0⟩:=keepK1 hx w.heap.size
   have g0:w1.cell? ⟨w.heap.size,0,none⟩=some (.bool na):=by go_simp
   have g1:w1.cell? ⟨w.heap.size,1,none⟩=some (.slice pa a.d.length ca):=by go_simp
   clear hk_w1_0 hf_w1_0
   gi_wp2
   refine⟨trivial,(callsIn_wide.2 (num_down pa a.d.length ca _)).mono ?_⟩
   rintro e w2 ⟨rfl,hx2,b0,hb⟩
   have hs2:=hx2.size
   simp at hs2 b0 hb
   have hx3:Ext w w2:=Ext.step bxx hx2
   have e0:w2.cell? ⟨w.heap.size,0,none⟩=some (.bool na):=(hx2.cell (p:=⟨w.heap.size,0,none⟩) (by simp;omega)).trans (by go_simp)
   have e1:w2.cell? ⟨w.heap.size,1,none⟩=some (.slice pa a.d.length ca):=(hx2.cell (p:=⟨w.heap.size,1,none⟩) (by simp;omega)).trans (by go_simp)
   have e2:w2.cell? ⟨w1.heap.size,0,none⟩=some (.int .u64 0):=(hx2.cell (p:=⟨w1.heap.size,0,none⟩) (by simp)).trans (by go_simp)
   have e3:w2.frozen? ⟨w1.heap.size,0,none⟩=false:=(hx2.frozen (p:=⟨w1.heap.size,0,none⟩) (by simp)).trans (by go_simp)
   have hrow:=hrow0.ext hx3
   have hpb:∀x,pa=some x->0<a.d.length->x.block<w.heap.size:=by
    intro x hp h0
    obtain⟨b',o',hp',hlt,_⟩:=hrow0.at h0
    rw[hp] at hp'
    cases hp'
    exact hlt
   clear hx2
   gi_wp2
   refine wpIn_rangeFunc_ownF rfl (by omega) (gf:=166) (lb:=#[.pointer (some ⟨w1.heap.size+1,0,none⟩)]) rfl trivial (enters_of Tryz.func166 (by kernel_rfl) rfl)
    (down_stops 5 (by omega) (w1.heap.size+1) ca a.d pa w2 hb b0 hrow) (fun h k=>⟨fun o=>(k.1 o).trans (h.1 o),fun z x hx o=>(k.2 z x hx o).trans (h.2 z x hx o)⟩)
    (fun W L o o' hL hW ho _=>⟨fun q=>World.cell?_of_block (World.putObj_heap_other (by show w1.heap.size+1≠L;omega)),fun z x hx q=>World.cell?_of_block (World.putObj_heap_other (by have:=hpb x hx z;show x.block≠L;omega))⟩) (Below.refl _ _) (fun _=>rfl)
    (fun pre W=>((W.cell? ⟨w.heap.size,0,none⟩=some (.bool na)/\W.cell? ⟨w.heap.size,1,none⟩=some (.slice pa a.d.length ca)/\W.cell? ⟨w1.heap.size,0,none⟩=some (.int .u64 ((accD pre:Nat):Int))/\W.frozen? ⟨w1.heap.size,0,none⟩=false)/\Below w.heap.size w W)/\w2.heap.size<=W.heap.size)
    (fun _ _ _=>False)
    (OwnFrom.and (OwnFrom.and (Own.from (fun s A B row hs hg hr=>⟨cell_kept hs.1 hg hr,cell_kept hs.2.1 hg hr,cell_kept hs.2.2.1 hg hr,(frozen_kept hs.2.2.1 hg hr).trans hs.2.2.2⟩) _) (ownFrom_below (Nat.le_refl _) (by omega))) (fun s A B row hs hg hr=>Nat.le_trans hs hg.size))
    (fun _ _ _ _ _ hs _ _=>hs)
    ⟨⟨⟨e0,e1,e2,e3⟩,hx3⟩,Nat.le_refl _⟩
    (fun x=>{ tmps:=#[.agg #[.bool na,.slice pa a.d.length ca],.pointer (some ⟨w.heap.size,0,none⟩),.int .i64 0,.bool false,.pointer (some ⟨w1.heap.size,0,none⟩),.int .u32 (x.1:Int),.agg #[.bool na,.slice pa a.d.length ca],.bool true,.bool false,.bool false,.pointer (some ⟨w.heap.size,1,none⟩),.slice pa a.d.length ca,.int .i64 (a.d.length:Int),.bool false,.bool false,.pointer (some ⟨w.heap.size,1,none⟩),.slice pa a.d.length ca,.func (.func 166) #[] #[.pointer (some ⟨w1.heap.size+1,0,none⟩)],.int .u32 (x.1:Int),undef,undef,undef,undef,undef,undef,undef,undef,undef,undef,undef,undef,undef,undef,undef,undef,undef,undef,undef,undef,undef,undef,undef,undef,undef],defers:=[] }) ?assign ?body ?done ?stop
   case assign =>
    intro L x W K hK
    gi_wp2
    exact hK
   case body =>
    rintro L pre x W ⟨⟨⟨c0,c1,c2,c3⟩,hB⟩,hz⟩ hpl
    have hx1:=x.2
    have hac:accD pre<4294967296:=by
     have:=accD_lt pre
     have h1:pre.length<=1:=by have:=HLEN.out;omega
     exact Nat.lt_of_lt_of_le this (Nat.pow_le_pow_right (n:=4294967296) (i:=pre.length) (j:=1) (by omega) h1)
    have OR:=or_u64 (accD pre) x.1 hac hx1
    have SN:=Lib.hid (accD_snoc pre x)
    have hWl:w.heap.size<W.heap.size:=by omega
    have hWm:w1.heap.size<W.heap.size:=by omega
    have hne:w.heap.size≠w1.heap.size:=by omega
    have hne':w1.heap.size≠w.heap.size:=by omega
    clear hpl
    gi_wp2
    refine⟨KeepsOthers.setCell _ _ _,⟨fun o=>?_,fun z y hy o=>?_⟩,⟨⟨?_,?_,?_,?_⟩,?_⟩,?_⟩
    ·go_simp
    ·have hn : w1.heap.size ≠ y.block := by have := hpb y hy z; omega
     have hn':=Ne.symm hn
     go_simp
    ·go_simp
    ·go_simp
    ·rw[SN.out];go_simp
    ·go_simp
    ·exact bxx
    ·simp;omega
   case done =>
    rintro D xs W hD hS ⟨⟨⟨c0,c1,c2,c3⟩,hB⟩,hz⟩ hK
    have hacc:accD xs=val a.d:=by rw[accD_val,hS,List.reverse_reverse]
    have hM64:val a.d<18446744073709551616:=by
     have:=val_lt hrow0.dig
     exact Nat.lt_of_lt_of_le this (Nat.pow_le_pow_right (n:=4294967296) (i:=a.d.length) (j:=2) (by omega) HLEN.out)
    have hsgn:na=a.neg:=HA.out.1
    have hzv:a.z=if na then -(val a.d:Int) else val a.d:=by unfold Nm.z;rw[hsgn]
    have hpos:na=true->0<val a.d:=by
     intro h
     refine tight_posD (a.right_iff.1 ra).2.1 ?_
     rcases Nat.eq_zero_or_pos a.d.length with g|g
     ·have := (a.right_iff.1 ra).2.2 (List.eq_nil_of_length_eq_zero g)
      rw[hsgn,this] at h;cases h
     ·exact g
    have hP:intP a=if decide (-9223372036854775808<=a.z)&&decide (a.z<=9223372036854775807) then (a.z,true) else (0,false):=by
     unfold intP
     rw[ra,show decide (a.d.length<=2)=true by simpa using HLEN.out]
     rfl
    rw[hzv] at hP
    rw[hacc] at c2
    obtain⟨M,HM⟩:∃M,Hid (val a.d=M):=⟨_,rfl⟩
    rw[HM.out] at c2 hM64 hpos hP
    have HP:=Lib.hid hP
    have HK:=Lib.hid hK
    clear hP hzv hsgn hacc hS hpb hrow0 hrow dl
    cases na
    ·by_cases h63 : M < 9223372036854775808
     ·have d1 : decide ((M : Int) < 9223372036854775808) = true := by rw [decide_eq_true_eq]; omega
      have w0:IntKind.i64.wrap (M:Int)=(M:Int):=wrapI (by omega) (by omega)
      have r:(if (decide (-9223372036854775808<=(if false=true then -(M:Int) else (M:Int)))&&decide ((if false=true then -(M:Int) else (M:Int))<=9223372036854775807))=true then ((if false=true then -(M:Int) else (M:Int)),true) else (0,false))=(((M:Int),true):Int×Bool):=by
       rw[if_pos];rfl;simp;omega
      have RES:=Lib.hid (HP.out.trans r)
      clear r HP
      gi_wp2
      refine⟨by simp,.inl ⟨_,_,rfl,run_takeDeferred HK.out,?_⟩⟩
      refine⟨_,results_tmp2 rfl _ _ _,?_,hB.trans (belowK_b (w:=w) (Nat.le_refl _) W D _ _ (by omega) HK.out rfl rfl)⟩
      rw[RES.out]
      rfl
     ·have d1 : decide ((M : Int) < 9223372036854775808) = false := by rw [decide_eq_false_iff_not]; omega
      have r:(if (decide (-9223372036854775808<=(if false=true then -(M:Int) else (M:Int)))&&decide ((if false=true then -(M:Int) else (M:Int))<=9223372036854775807))=true then ((if false=true then -(M:Int) else (M:Int)),true) else (0,false))=((0,false):Int×Bool):=by
       rw[if_neg];simp;omega
      have RES:=Lib.hid (HP.out.trans r)
      clear r HP
      gi_wp2
      refine⟨by simp,.inl ⟨_,_,rfl,run_takeDeferred HK.out,?_⟩⟩
      refine⟨_,results_tmp2 rfl _ _ _,?_,hB.trans (belowK_b (w:=w) (Nat.le_refl _) W D _ _ (by omega) HK.out rfl rfl)⟩
      rw[RES.out]
      rfl
    ·by_cases h63 : M <= 9223372036854775808
     ·have d1 : decide ((M : Int) <= 9223372036854775808) = true := by rw [decide_eq_true_eq]; omega
      have hp:=hpos rfl
      have w1:IntKind.u64.wrap (-(M:Int))=18446744073709551616-(M:Int):=by rw[u64_neg _ (by omega)];omega
      have w2:wrap64 (18446744073709551616-(M:Int)) = -(M:Int):=by
       unfold wrap64
       omega
      have HW:=Lib.hid w1
      have HW2:=Lib.hid w2
      clear w1 w2
      have r:(if (decide (-9223372036854775808<=(if true=true then -(M:Int) else (M:Int)))&&decide ((if true=true then -(M:Int) else (M:Int))<=9223372036854775807))=true then ((if true=true then -(M:Int) else (M:Int)),true) else (0,false))=((-(M:Int),true):Int×Bool):=by
       rw[if_pos];rfl;simp;omega
      have RES:=Lib.hid (HP.out.trans r)
      clear r HP
      gi_wp2
      refine⟨by simp,.inl ⟨_,_,rfl,run_takeDeferred HK.out,?_⟩⟩
      refine⟨_,results_tmp2 rfl _ _ _,?_,hB.trans (belowK_b (w:=w) (Nat.le_refl _) W D _ _ (by omega) HK.out rfl rfl)⟩
      have e:wrap64 (IntKind.u64.wrap (-(M:Int))) = -(M:Int):=by rw[HW.out,HW2.out]
      rw[RES.out]
      exact congrArg (fun z=>Ending.returned (.tuple #[.int .i64 z,.bool true])) e
     ·have d1 : decide ((M : Int) <= 9223372036854775808) = false := by rw [decide_eq_false_iff_not]; omega
      have r:(if (decide (-9223372036854775808<=(if true=true then -(M:Int) else (M:Int)))&&decide ((if true=true then -(M:Int) else (M:Int))<=9223372036854775807))=true then ((if true=true then -(M:Int) else (M:Int)),true) else (0,false))=((0,false):Int×Bool):=by
       rw[if_neg];simp;omega
      have RES:=Lib.hid (HP.out.trans r)
      clear r HP
      gi_wp2
      refine⟨by simp,.inl ⟨_,_,rfl,run_takeDeferred HK.out,?_⟩⟩
      refine⟨_,results_tmp2 rfl _ _ _,?_,hB.trans (belowK_b (w:=w) (Nat.le_refl _) W D _ _ (by omega) HK.out rfl rfl)⟩
      rw[RES.out]
      rfl
   case stop =>
    rintro D c' pre W _ _ h _
    exact h.elim
end
def inI(z:Int):Bool:=decide (-9223372036854775808<=z)&&decide (z<=9223372036854775807)
theorem inI_iff{z:Int}:inI z=true <-> -9223372036854775808<=z/\z<=9223372036854775807:=by
 unfold inI
 rw[Bool.and_eq_true,decide_eq_true_eq,decide_eq_true_eq]
def plusR(a:Rt)(n:Int):Rt×Bool:=if a.right&&inI (a.add+n) then (⟨a.add+n,a.s,a.n,a.d⟩,true) else (Rt.no,false)
theorem ofP_plus{a:Rt}(h:ofP a.add a.s a.n a.d=(a,true))(z:Int):ofP z a.s a.n a.d=(⟨z,a.s,a.n,a.d⟩,true):=by
 obtain⟨add,s,n,d⟩:=a
 simp only at h ⊢
 unfold ofP at h ⊢
 split at h
 ·simp at h
 ·rename_i h1
  rw[if_neg h1]
  split at h
  ·rename_i h2
   rw[if_pos h2]
   simp only[Prod.mk.injEq,Rt.mk.injEq,and_true,true_and] at h ⊢
   exact h
  ·rename_i h2
   rw[if_neg h2]
   split at h
   ·simp at h
   ·rename_i h3
    rw[if_neg h3]
    simp only[Prod.mk.injEq,Rt.mk.injEq,and_true,true_and] at h ⊢
    exact h
theorem plusR_of{a:Rt}(hd:Dig a.n.d/\Dig a.d.d)(hr:a.right=true){n:Int}(hi:inI (a.add+n)=true):plusR a n=ofP (a.add+n) a.s a.n a.d:=by
 rw[ofP_plus (right_ok hd.1 hd.2 hr).2]
 unfold plusR
 rw[hr,hi]
 rfl
def wide(z:Int):Prop := -18446744073709551616<=z/\z<18446744073709551616

set_option maxRecDepth 100000
section
theorem intP_le{z:Int}(h:z.natAbs<=18446744073709551616):intP (ofZ z)=if inI z then (z,true) else (0,false):=by
 have hs:small z=true:=by
  refine small_of_lt (k:=3) ?_ (by decide)
  have:(18446744073709551617:Nat)<4294967296 ^ 3:=by decide +kernel
  omega
 unfold intP
 rw[ofZ_right hs,ofZ_z]
 cases hi:inI z with
 | true =>
  obtain⟨h1,h2⟩:=inI_iff.1 hi
  have hl:(ofZ z).d.length<=2:=by
   simp only[ofZ]
   refine (digs_length_le _ _).2 ?_
   have:(9223372036854775809:Nat)<4294967296 ^ 2:=by decide +kernel
   omega
  rw[if_pos (by simp[hl,h1,h2])]
  rfl
 | false =>
  rw[if_neg]
  ·rfl
  ·intro g
   simp only[Bool.and_eq_true,decide_eq_true_eq] at g
   rw[inI_iff.2 ⟨g.1.2,g.2⟩] at hi
   cases hi
def intV(z:Int):Int:=if inI z then z else 0
theorem intV_i{z:Int}:I64 (intV z):=by
 unfold intV
 split
 ·rename_i h;obtain⟨h1,h2⟩:=inI_iff.1 h;unfold I64;omega
 ·unfold I64;omega
def zIntC(f:FuncId)(H:∀(a:Nm) (na:Bool) (pa:Option Addr) (la ca:Nat) (w:World),NR w na pa la ca a->Calls Tryz.prog f #[.agg #[.bool na,.slice pa la ca]] w fun e w'=>e=.returned (.tuple #[.int .i64 (intP a).1,.bool (intP a).2])/\Ext w w'):Con where
 f:=f
 g:=fun | [⟨true,l⟩]=>(match toZi l with|some (z,B)=>if B<=18446744073709551616 then some (.tup [inV (intV z) lim,blV (inI z)],[]) else none|none=>none)|_=>none
 ok:=by
  intro args res ps h _
  split at h<;>try cases h
  split at h<;>try cases h
  split at h<;>cases h
  rename_i z B hz hB _
  intro W vals hv
  obtain⟨v,hv1,l1,rfl,hv2⟩:=rvs_cons.1 hv
  cases hv2
  obtain⟨b1,n,p,m,c,rfl,h1⟩:=toZi_rep hz hv1
  refine (H _ _ _ _ _ W h1).mono ?_
  rintro e w' ⟨rfl,hx⟩
  have e1:intP (ofZ z)=(intV z,inI z):=by rw[intP_le (by omega)];unfold intV;split<;>simp_all
  rw[e1]
  exact⟨_,rfl,⟨[_,_],rfl,rvs_cons.2 ⟨_,rv_i.2 ⟨lim64 intV_i,rfl⟩,_,rfl,rvs_cons.2 ⟨_,RepI.val (i:=.v (.bool (inI z))) ⟨rfl,rfl⟩,_,rfl,rfl⟩⟩⟩,hx⟩
def cZInt:Con:=zIntC 65 num_Int
def KPl:List Con:=[cZOf,cZAdd,cZInt,cRight,cRtOf]
theorem rtPlus_no(a:Rt)(z:Int)(h:(a.right&&inI (a.add+z))=false):Fok Tryz.prog 26 [rtV a,inV z lim] (rtA (Rt.no,false)):=by
 cases h1:inI (a.add+z) with
 | false=>exact fok KPl [true] [pT (nt_T h1)] (by kernel_rfl)
 | true =>
  have h2:a.right=false:=by rw[h1,Bool.and_true] at h;exact h
  exact fok KPl [false,true] [pF (nt_F h1),pT (nt_T h2)] (by kernel_rfl)
theorem rtPlus_yes(a:Rt)(z:Int)(h1:inI (a.add+z)=true)(h2:a.right=true):Fok Tryz.prog 26 [rtV a,inV z lim] (rtA (ofP (intV (a.add+z)) a.s a.n a.d)) :=
 fok KPl [false,false] [pF (nt_F h1),pF (nt_F h2)] (by kernel_rfl)
theorem rtPlus_fok(a:Rt)(hd:Dig a.n.d/\Dig a.d.d)(z:Int):Fok Tryz.prog 26 [rtV a,inV z lim] (rtA (plusR a z)):=by
 cases h:(a.right&&inI (a.add+z)) with
 | false =>
  rw[show plusR a z=(Rt.no,false) by unfold plusR;rw[h];rfl]
  exact rtPlus_no a z h
 | true =>
  simp only[Bool.and_eq_true] at h
  rw[plusR_of hd h.1 h.2,show a.add+z=intV (a.add+z) by unfold intV;rw[if_pos h.2]]
  exact rtPlus_yes a z h.2 h.1
def plusC(f:FuncId)(H:∀(a:Rt),Dig a.n.d/\Dig a.d.d->∀z,Fok Tryz.prog f [rtV a,inV z lim] (rtA (plusR a z))):Con where
 f:=f
 g:=fun | [⟨true,[.i a _,.i s _,.d (.num n),.d (.num d)]⟩,⟨false,[.i z _]⟩]=>some (rtA (plusR ⟨a,s,n,d⟩ z),[])|_=>none
 ok:=by
  intro args res ps h hp
  split at h<;>cases h
  rename_i a _ s _ n d z _
  intro W vals hv
  obtain⟨_,hx,_,rfl,hw⟩:=rvs_cons.1 hv
  obtain⟨k1,k2,k3,_⟩:=rt_at hx
  exact H ⟨a,s,n,d⟩ ⟨k2,k3⟩ z W _ (rvs_cons.2 ⟨_,k1,_,rfl,rvs_1 in_lim (fun _ h=>h) _ hw⟩)
def cPlus:Con:=plusC 26 rtPlus_fok
end

set_option maxRecDepth 100000
section
def Gp.no:Gp:=⟨false,Rt.no,Sp.no,Sp.no⟩
def Pr.gp(p:Pr):Gp:=⟨false,p.d,p.a,p.b⟩
def gapK(c:Nat->Pr):Nat->Gp
 | 0=>Gp.no
 | k+1=>if (k==0||decide (cmpRt (c k).d (gapK c k).d<0))=true then (c k).gp else gapK c k
def ints64(g:Gp):Prop:=(I64 g.d.add/\I64 g.d.s)/\(I64 g.a.x/\I64 g.a.y/\I64 g.a.dx/\I64 g.a.dy/\I64 g.a.p/\I64 g.a.q/\I64 g.a.len)/\I64 g.b.x/\I64 g.b.y/\I64 g.b.dx/\I64 g.b.dy/\I64 g.b.p/\I64 g.b.q/\I64 g.b.len
def GpC(W:World)(g:Gp)(cs:List Value):Prop:=∃n p l c m q k d,cs=[.bool g.m,.int .i64 g.d.add,.int .i64 g.d.s,.bool n,.slice p l c,.bool m,.slice q k d,.int .i64 g.a.x,.int .i64 g.a.y,.int .i64 g.a.dx,.int .i64 g.a.dy,.int .i64 g.a.p,.int .i64 g.a.q,.int .i64 g.a.len,.int .i64 g.b.x,.int .i64 g.b.y,.int .i64 g.b.dx,.int .i64 g.b.dy,.int .i64 g.b.p,.int .i64 g.b.q,.int .i64 g.b.len]/\NR W n p l c g.d.n/\NR W m q k d g.d.d/\ints64 g
theorem GpC.ext{W W':World}{g:Gp}{cs:List Value}(h:GpC W g cs)(hx:Ext W W'):GpC W' g cs:=by
 obtain⟨n,p,l,c,m,q,k,d,e,h1,h2,h3⟩:=h
 exact⟨n,p,l,c,m,q,k,d,e,h1.ext hx,h2.ext hx,h3⟩
theorem nr_kp{X:List Nat}{W W':World}{n:Bool}{p:Option Addr}{l c:Nat}{x:Nm}(hX:∀g∈X,∃xs T,W.heap[g]? = some (.cells xs T)/\∀v∈xs.toList,nd v)(hk:KpP X W W')(h:NR W n p l c x):NR W' n p l c x:=by
 refine⟨h.1,h.2.1,h.2.2.1,h.2.2.2.1,h.2.2.2.2.1,fun h0=>?_⟩
 obtain⟨b,o,e,hb,hc⟩:=h.2.2.at h0
 have hbX:b∉X:=fun hx=>by
  obtain⟨xs,T,h1,h2⟩:=hX b hx
  have:=hc 0 h0
  obtain⟨xs⟩:=xs
  rw[cell_of_row _ _ _ _ _ _ h1] at this
  exact h2 _ (List.mem_of_getElem? (by simpa using this)) _ rfl
 exact⟨b,o,e,Nat.lt_of_lt_of_le hb hk.size,fun i hi=>hk.cell (hc i hi) hbX⟩
theorem GpC.kp{X:List Nat}{W W':World}{g:Gp}{cs:List Value}(hX:∀g∈X,∃xs T,W.heap[g]? = some (.cells xs T)/\∀v∈xs.toList,nd v)(hk:KpP X W W')(h:GpC W g cs):GpC W' g cs:=by
 obtain⟨n,p,l,c,m,q,k,d,e,h1,h2,h3⟩:=h
 exact⟨n,p,l,c,m,q,k,d,e,nr_kp hX hk h1,nr_kp hX hk h2,h3⟩
theorem GpC.nd{W:World}{g:Gp}{cs:List Value}(h:GpC W g cs):∀v∈cs,Go.Proofs.YtceemiodpccbhaaGreat.nd v:=by
 obtain⟨n,p,l,c,m,q,k,d,rfl,_⟩:=h
 intro v hv
 simp only[List.mem_cons,List.not_mem_nil,or_false] at hv
 rcases hv with rfl|rfl|rfl|rfl|rfl|rfl|rfl|rfl|rfl|rfl|rfl|rfl|rfl|rfl|rfl|rfl|rfl|rfl|rfl|rfl|rfl<;>exact fun z h=>nomatch h
def GpAt(W:World)(B:Nat)(g:Gp):Prop:=∃cs,W.heap[B]? = some (.cells cs.toArray 42)/\GpC W g cs
theorem GpAt.ext{W W':World}{B:Nat}{g:Gp}(h:GpAt W B g)(hx:Ext W W'):GpAt W' B g:=by
 obtain⟨cs,h1,h2⟩:=h
 exact⟨cs,heap_ext h1 hx,h2.ext hx⟩
theorem gp_rt{W:World}{g:Gp}{n m:Bool}{p q:Option Addr}{l c k d:Nat}(h1:NR W n p l c g.d.n)(h2:NR W m q k d g.d.d)(h3:ints64 g):RepV W W (fun _=>0) 0 (rtV g.d) (.agg #[.int .i64 g.d.add,.int .i64 g.d.s,.bool n,.slice p l c,.bool m,.slice q k d]) :=
 rv_t.2 ⟨_,rl_i.2 ⟨lim64 h3.1.1,_,rfl,rl_i.2 ⟨lim64 h3.1.2,_,rfl,rl_num.2 ⟨_,_,_,_,h1,_,rfl,rl_num.2 ⟨_,_,_,_,h2,_,rfl,rfl⟩⟩⟩⟩,rfl⟩
theorem keep_gp(Bs Bl:Nat)(g h:Gp)(ys:List Value)(sm:Bool)(w:World)(hs:w.heap[Bs]? = some (.cells #[.bool sm] 4))(hl:GpAt w Bl h)(hne:Bs≠Bl)(hy:GpC w g ys) :
  Calls Tryz.prog 88 #[.agg ys.toArray,.pointer (some ⟨Bs,0,none⟩),.pointer (some ⟨Bl,0,none⟩)] w fun e W'=>(∃v,e=.returned v)/\But2 Bs Bl w W'/\W'.heap[Bs]? = some (.cells #[.bool true] 4)/\GpAt W' Bl (if (!sm||decide (cmpRt g.d h.d<0))=true then g else h):=by
 obtain⟨cs,hc,hcs⟩:=hl
 have ndx:=hcs.nd
 obtain⟨n,p,l,c,m,q,k,d,rfl,h1,h2,h3⟩:=id hcs
 obtain⟨n',p',l',c',m',q',k',d',rfl,y1,y2,y3⟩:=id hy
 have hcmp:∀W,Ext w W->Calls Tryz.prog 24 #[.agg #[.int .i64 g.d.add,.int .i64 g.d.s,.bool n',.slice p' l' c',.bool m',.slice q' k' d'],.agg #[.int .i64 h.d.add,.int .i64 h.d.s,.bool n,.slice p l c,.bool m,.slice q k d]] W fun e W'=>e=.returned (.int .i64 (cmpRt g.d h.d))/\Ext W W':=fun W hW=>by
  have f:=cCmp.ok (args:=[rtV g.d,rtV h.d]) (res:=_) (ps:=_) rfl (by trivial)
  refine (f W _ (rvs_cons.2 ⟨_,gp_rt (y1.ext hW) (y2.ext hW) y3,_,rfl,rvs_cons.2 ⟨_,gp_rt (h1.ext hW) (h2.ext hW) h3,_,rfl,rfl⟩⟩)).mono ?_
  rintro e W' ⟨v,rfl,hv,hx⟩
  exact⟨congrArg _ (rv_i.1 hv).2,hx⟩
 have one:∀v ∈ [.bool g.m,.int .i64 g.d.add,.int .i64 g.d.s,.bool n',.slice p' l' c',.bool m',.slice q' k' d',.int .i64 g.a.x,.int .i64 g.a.y,.int .i64 g.a.dx,.int .i64 g.a.dy,.int .i64 g.a.p,.int .i64 g.a.q,.int .i64 g.a.len,.int .i64 g.b.x,.int .i64 g.b.y,.int .i64 g.b.dx,.int .i64 g.b.dy,.int .i64 g.b.p,.int .i64 g.b.q,.int .i64 g.b.len],Value.oneCell' v=true:=fun v hv=>by
  simp only[List.mem_cons,List.not_mem_nil,or_false] at hv
  rcases hv with rfl|rfl|rfl|rfl|rfl|rfl|rfl|rfl|rfl|rfl|rfl|rfl|rfl|rfl|rfl|rfl|rfl|rfl|rfl|rfl|rfl<;>rfl
 refine (keep_ok Bs Bl _ _ _ _ _ _ _ _ _ _ _ _ _ _ _ _ _ _ _ _ _ _ _ _ _ _ _ _ _ _ _ _ _ _ _ _ _ _ _ _ _ _ sm (cmpRt g.d h.d) w hs hc hne one hcmp).mono ?_
 rintro e W' ⟨h4,h5,h6⟩
 refine⟨h4,h5,?_⟩
 split at h6
 ·rename_i hif
  rw[if_pos hif]
  have hk:KpP [Bs,Bl] w W':=⟨h5.size,fun i o hi _ hx=>by
   simp only[List.mem_cons,List.not_mem_nil,or_false,not_or] at hx
   exact (h5.block i (Array.getElem?_eq_some_iff.1 hi).1 hx.1 hx.2).trans hi⟩
  refine⟨h6.1,_,h6.2,hy.kp (X:=[Bs,Bl]) (fun x hx=>?_) hk⟩
  simp only[List.mem_cons,List.not_mem_nil,or_false] at hx
  rcases hx with rfl|rfl
  ·exact⟨_,_,hs,fun v hv=>by rw[List.mem_singleton.1 hv];exact fun z h=>nomatch h⟩
  ·exact⟨_,_,hc,ndx⟩
 ·rename_i hif
  rw[if_neg hif]
  have hsm:sm=true:=by cases sm with|true=>rfl|false=>exact absurd rfl hif
  subst hsm
  exact⟨heap_ext hs h6,_,heap_ext hc h6,hcs.ext h6⟩
end

set_option maxHeartbeats 1000000
set_option maxRecDepth 100000
section
open Go.RowKit Go.Shelf
attribute [local go_sem] Oper.semAt_some
attribute [local go_sem] Gives givesU
def zGp:List Value:=[.bool false,.int .i64 0,.int .i64 0,.bool false,.slice none 0 0,.bool false,.slice none 0 0,.int .i64 0,.int .i64 0,.int .i64 0,.int .i64 0,.int .i64 0,.int .i64 0,.int .i64 0,.int .i64 0,.int .i64 0,.int .i64 0,.int .i64 0,.int .i64 0,.int .i64 0,.int .i64 0]
theorem gap_nearest(w:World) :
  Calls Tryz.prog 48 #[] w fun e w'=>e=.returned (.tuple #[.func (.func 88) #[] #[.pointer (some ⟨w.heap.size+1,0,none⟩),.pointer (some ⟨w.heap.size,0,none⟩)],.func (.func 89) #[] #[.pointer (some ⟨w.heap.size,0,none⟩)]])/\Ext w w'/\w'.heap[w.heap.size+1]? = some (.cells #[.bool false] 4)/\w'.heap[w.heap.size]? = some (.cells zGp.toArray 42):=by
 have h0:∀w:World,(w.alloc (.cells zGp.toArray 42)).heap[w.heap.size]? = some (.cells zGp.toArray 42):=fun w=>World.alloc_heap_new _ _
 have H0:=Lib.hid h0
 clear h0
 go_enter Tryz.func48,Tryz.ntmps48
 go_wp2
 refine bodyPost_ret (results_tmp2 rfl _ _ _) rfl ?_
 refine⟨rfl,bxx,?_,?_⟩
 ·go_simp
  have:=World.alloc_heap_new (w.alloc (.cells zGp.toArray 42)) (.cells #[.bool false] 4)
  simpa[zGp] using this
 ·have := H0.out w
  exact heap_ext this (below_alloc _ _)
theorem gap_pairs(k r k' r':Int)(p p':Option Addr)(n c n' c':Nat)(w:World) :
  Calls Tryz.prog 49 #[.agg #[.int .i64 k,.slice p n c,.int .i64 r],.agg #[.int .i64 k',.slice p' n' c',.int .i64 r']] w fun e w'=>e=.returned (.func (.func 90) #[] #[.pointer (some ⟨w.heap.size,0,none⟩),.pointer (some ⟨w.heap.size+1,0,none⟩)])/\Ext w w'/\w'.cell? ⟨w.heap.size,1,none⟩=some (.slice p n c)/\w'.cell? ⟨w.heap.size+1,1,none⟩=some (.slice p' n' c')/\w.heap.size+1<w'.heap.size:=by
 go_enter Tryz.func49,Tryz.ntmps49
 go_wp2
 go_ret
 exact⟨rfl,bxx,by go_simp,by go_simp,by simp⟩
end

section
def dfA(D:List Deferred)(a:Act):Act:={ tmps:=a.tmps,defers:=D }
theorem eval_df(D:List Deferred)(a:Act):(dfA D a).eval=a.eval:=by funext x;cases x<;>rfl
theorem put_df(D:List Deferred)(a:Act)(d:Option Nat)(v:Value):(dfA D a).put d v=dfA D (a.put d v):=by cases d<;>rfl
def offT(l:List Oper)(t:Nat):Bool:=l.all fun o=>!(o.dst==some t)
theorem put_off{a:Act}{o:Oper}{v:Value}{t:Nat}(h:(!(o.dst==some t))=true):(a.put o.dst v).tmps.getD t undef=a.tmps.getD t undef:=by
 cases hd:o.dst with
 | none=>rfl
 | some d =>
  have hne:d≠t:=by rw[hd] at h;simpa using h
  simp[Act.put,Array.getElem?_setIfInBounds,hne]
section
variable {P:Program} {ops:Array Oper} {S:World->Prop} {Q Q':Act->World->Prop}
theorem Gives.df{o:Oper}{a:Act}{w:World}{R:Value->World->Prop}(D:List Deferred)(h:Gives P o a w R):Gives P o (dfA D a) w R:=h.of_same (by rw[eval_df])
theorem WpF.df(D:List Deferred):∀ {l:List Oper} {a:Act} {own:List Nat} {F:World->Prop},WpF P ops S Q l a own F->(∀a' W,Q a' W->(∀t,offT l t=true->a'.tmps.getD t undef=a.tmps.getD t undef)->Q' (dfA D a') W)->WpF P ops S Q' l (dfA D a) own F
 | [],a,own,F,h,hQ=>fun w hw=>hQ _ _ (h w hw) fun _ _=>rfl
 | o::l,a,own,F,h,hQ=>by
  have nx:∀(v:Value) (a':Act) (W:World),Q a' W->(∀t,offT l t=true->a'.tmps.getD t undef=(a.put o.dst v).tmps.getD t undef)->Q' (dfA D a') W:=fun v a' W hq ht=>hQ a' W hq fun t hoff=>by
   unfold offT at hoff
   rw[List.all_cons,Bool.and_eq_true] at hoff
   rw[ht t hoff.2,put_off hoff.1]
  cases (show StepF P ops S (WpF P ops S Q l) o a own F from h) with
  | pure v hy h=>exact .pure v (by unfold YieldsIf at *;rw[eval_df];exact hy) (by rw[put_df];exact WpF.df D h (nx v))
  | flo hk hw obj hr h=>exact .flo hk hw obj (by rw[eval_df];exact hr) fun g hg hs=>by rw[put_df];exact WpF.df D (h g hg hs) (nx _)
  | eff hk hw I sh T hm hg h=>exact .eff hk hw I sh T hm (fun w hw'=>(hg w hw').df D) fun t ht=>by rw[put_df];exact WpF.df D (h t ht) (nx _)
  | sto hk hw I sh T hm hs hg h=>exact .sto hk hw I sh T hm hs (fun w hw'=>(hg w hw').df D) fun t ht=>by rw[put_df];exact WpF.df D (h t ht) (nx _)
  | mu hk hw B hB I sh T hm hs hg h=>exact .mu hk hw B hB I sh T hm hs (fun w hw'=>(hg w hw').df D) fun t ht=>by rw[put_df];exact WpF.df D (h t ht) (nx _)
end
noncomputable def runD(X:List Eff)(K:List Con)(ops:List Oper)(n:Nat)(d d':Ds)(q:List Bool):Option (List Prop) :=
 match aOps Tryz.prog (env X) (callK X K) ops.toArray noQ ops { mkS n d with al:=1 } q with
 | some (s',ob,[])=>if Tryz.prog.follows .mixedOrders&&floatB ops.toArray&&ob.ld.all (fun b=>(mb d.m b).isSome&&!(ob.st.contains b))&&(s'.t.n==n) then (leS s' d').map (ob.ps++·) else none
 | _=>none
theorem regD_wp{X:List Eff}{K:List Con}{id n:Nat}{ops:List Oper}{d d':Ds}{q:List Bool}(pf:List Pf)(h:runD X K ops n d d' q=some (pf.map Pf.p)){V w:World}{a:Act}{Q:Exit->Act->World->Prop}(hJ:JJ V (mkS n d) (dfA [] a) w)
  (hQ:∀a' W,JJ V (mkS n d') a' W->(∀t,offT ops t=true->a'.tmps.getD t undef=a.tmps.getD t undef)->Q .normal (dfA a.defers a') W):(Code.region id ops.toArray true).wp Tryz.prog Q a w:=by
 have hp:=all_pf pf
 generalize pf.map Pf.p=ps at h hp
 unfold runD at h
 split at h
 ·rename_i s' ob h1
  split at h
  ·rename_i hc
   simp only[Bool.and_eq_true,beq_iff_eq] at hc
   obtain⟨⟨⟨hm,hB⟩,hd⟩,hn⟩:=hc
   cases h2:leS s' d' with
   | none=>simp[h2] at h
   | some ps2 =>
    simp only[h2,Option.map_some,Option.some.injEq] at h
    subst h
    obtain⟨p1,p2⟩:=All.app hp
    obtain⟨r,cm,hj⟩:=hJ
    have hC:Cond V (alB { mkS n d with al:=1 }) r cm (mkS n d).m ob.st (List.range w.heap.size) r cm (mkS n d).m :=
     ⟨Nat.le_refl _,fun _ _=>rfl,fun b x hb _=>⟨rfl,hb⟩,fun _ b x hb=>List.mem_range.2 (Array.getElem?_eq_some_iff.1 (hj.1.1.blk b x hb).1).1,fun g hg=>List.mem_range.2 (Nat.lt_of_lt_of_le hg hj.1.1.ext.size)⟩
    have hW:=aOps_any (snd_ok X K) (Q:=fun a' W=>JJ V s' a' W) (n0:=w.heap.size) (ops:=ops.toArray) (s:={ mkS n d with al:=1 }) (m0:=(mkS n d).m) (X:=ob.st) h1 p1 (show (1:Nat)≠0 by decide) (fun b hb=>hb) (fun b hb=>by
     have:=List.all_eq_true.1 hd b hb
     simp only[Bool.and_eq_true,Bool.not_eq_true',List.contains_eq_mem,decide_eq_false_iff_not] at this
     exact this) hC ⟨w,⟨hC.s0 (s:=mkS n d) hj (Nat.le_refl _),hj,Nat.le_refl _⟩⟩ (F:=fun W=>S0 V w.heap.size r cm (mkS n d).m ob.st W/\J V r cm (mkS n d) (dfA [] a) W/\w.heap.size<=W.heap.size) (fun W hW=>hW.2) (fun a' W r' cm' hJ=>⟨r',cm',hJ⟩)
    have ha:a=dfA a.defers (dfA [] a):=rfl
    rw[ha]
    refine wp_region_G (id:=id) (l:=ops) (S0 V w.heap.size r cm (mkS n d).m ob.st) (fun W=>J V r cm (mkS n d) (dfA [] a) W/\w.heap.size<=W.heap.size) hm hB ⟨hC.s0 (s:=mkS n d) hj (Nat.le_refl _),hj,Nat.le_refl _⟩
     (fun W W' hh hb=>⟨hC.s0 (s:=mkS n d) (J.mono _ _ hh.2.1 hb) (Nat.le_trans hh.2.2 hb.size),J.mono _ _ hh.2.1 hb,Nat.le_trans hh.2.2 hb.size⟩) (fun W hW=>hW.1.2)
     (WpF.df a.defers hW fun a' W hq ht=>hQ a' W (le_J h2 p2 hn hq) ht)
  ·cases h
 ·cases h
end
end Go.Proofs.YtceemiodpccbhaaGreat
