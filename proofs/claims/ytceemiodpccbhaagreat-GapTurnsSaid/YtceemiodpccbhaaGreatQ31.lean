import Derived.Test.YtceemiodpccbhaaGreatQ30
set_option linter.unusedVariables false
set_option linter.unusedSimpArgs false

namespace Go.Proofs.YtceemiodpccbhaaGreat
open Go.RowKit

set_option maxHeartbeats 4000000
set_option maxRecDepth 100000
section
attribute [local go_sem] Gives givesU
theorem mvCall{e:Ed}(h:e.ok=true){x y t:Int}(m:Bool)(hx:x.natAbs<=c26)(hy:y.natAbs<=c26)(ht : -8<=t/\t<=8)(W:World):Calls Tryz.prog 55 #[edA e,.agg #[.int .i64 x,.int .i64 y,.int .i64 t,.bool m]] W fun e' W'=>e'=.returned (edA (moveE e x y (modZ t 4) m))/\Ext W W':=by
 have c:c26<=9223372036854775807:=by decide
 have c8:8<=c26:=by decide
 refine (move_fok e x y t m h ht W _ (rvs_cons.2 ⟨_,edV_rep h,_,rfl,rvs_cons.2 ⟨_,rv_t.2 ⟨_,rl_i.2 ⟨⟨hx,by unfold I64;omega⟩,_,rfl,rl_i.2 ⟨⟨hy,by unfold I64;omega⟩,_,rfl,rl_i.2 ⟨⟨by omega,by unfold I64;omega⟩,_,rfl,rl_v.2 ⟨rfl,_,rfl,rfl⟩⟩⟩⟩,rfl⟩,_,rfl,rfl⟩⟩)).mono ?_
 rintro e' W' ⟨v,rfl,hv,hx⟩
 refine⟨?_,hx⟩
 have:=toEd_rep (l:=edI (moveE e x y (modZ t 4) m)) rfl hv
 rw[this]
 rfl
theorem moveE_I{e:Ed}(h:e.ok=true){x y t:Int}(m:Bool)(hx:x.natAbs<=c26)(hy:y.natAbs<=c26):EdI (moveE e x y (modZ t 4) m):=by
 have hk:=kind_of h
 obtain⟨⟨h1,h2⟩,⟨h3,h4⟩,h5,h6⟩:=ok_right h
 unfold Co at h1 h2 h3 h4 h5 h6
 have b:∀u v:Int,u.natAbs<=c26->v.natAbs<=c26->I64 (applyP x y (modZ t 4) m u v).1/\I64 (applyP x y (modZ t 4) m u v).2:=fun u v hu hv=>by
  obtain⟨b1,b2⟩:=applyQ_bd (ax:=x) (ay:=y) (n:=t) (x:=u) (y:=v) (m:=m) hx hy hu hv
  unfold c26 at b1 b2
  unfold applyQ at b1 b2
  unfold I64
  omega
 have c1:=b e.ax e.ay (by unfold c26;omega) (by unfold c26;omega)
 have c2:=b e.bx e.by' (by unfold c26;omega) (by unfold c26;omega)
 have c3:=b e.cx e.cy (by unfold c26;omega) (by unfold c26;omega)
 have k0:I64 (if m then (fam e.k).k else e.k):=by
  rcases hk with k|k|k<;>rw[k]<;>cases m<;>(unfold I64;decide)
 refine⟨k0,c1.1,c1.2,c2.1,c2.2,?_,?_⟩
 ·show I64 (if e.k = 1 then e.cx else _)
  split
  ·unfold I64;omega
  ·exact c3.1
 ·show I64 (if e.k = 1 then e.cy else _)
  split
  ·unfold I64;omega
  ·exact c3.2
theorem shMove(s:Sh)(x y t:Int)(m:Bool)(p:Option Addr)(c:Nat)(w:World)(h:ShAt w s p c)(h1:1<=s.n)(hn:s.n<=1000)(hok:∀i,i<s.n->(s.e i).ok=true)(hx:x.natAbs<=c26)(hy:y.natAbs<=c26)(ht : -8<=t/\t<=8) :
  Calls Tryz.prog 22 #[.agg #[.int .i64 s.k,.slice p s.n c,.int .i64 s.r],.agg #[.int .i64 x,.int .i64 y,.int .i64 t,.bool m]] w fun e w'=>∃g cp,e=.returned (.agg #[.int .i64 s.k,.slice (some ⟨g,0,none⟩) s.n cp,.int .i64 s.r])/\ShAt w' (movS s x y t m) (some ⟨g,0,none⟩) cp/\Ext w w':=by
 have CL:=Lib.hid (fun W (hW:Ext w W)=>cloneEd s.n s.e p c W (h.ext hW).edr h1 hn)
 have MV:=Lib.hid (fun k (hk:k<s.n) W=>mvCall (hok k hk) m hx hy ht W)
 have OK:=Lib.hid (fun i (hi:i<s.n)=>moveE_I (hok i hi) m hx hy (t:=t))
 have H:=Lib.hid h
 have X0:Ext w (((w.alloc (.cells #[.int .i64 s.k,.slice p s.n c,.int .i64 s.r] 24)).alloc (.cells #[.int .i64 x,.int .i64 y,.int .i64 t,.bool m] 59)).alloc (.cells #[.int .i64 0,.slice none 0 0,.int .i64 0] 24)):=bxx
 have X0:=Lib.hid X0
 clear h hok hx hy ht
 go_enter Tryz.func22,Tryz.ntmps22
 go_wp2_with fail
 refine (CL.out _ X0.out).mono ?_
 rintro e W1 ⟨_,rfl,g,cp,cur,rfl,hg,hc,hcp,hmx,htk,hx1⟩
 have M0:MI w (W1.setCell ⟨w.heap.size,1,none⟩ (.slice (some ⟨g,0,none⟩) s.n cp)) s x y t m g cp (cur.toList.drop (s.n*7)) 0:=by
  have a0:=World.alloc_heap_new w (.cells #[.int .i64 s.k,.slice p s.n c,.int .i64 s.r] 24)
  have a1:=World.alloc_heap_new (w.alloc (.cells #[.int .i64 s.k,.slice p s.n c,.int .i64 s.r] 24)) (.cells #[.int .i64 x,.int .i64 y,.int .i64 t,.bool m] 59)
  have a2:=World.alloc_heap_new ((w.alloc (.cells #[.int .i64 s.k,.slice p s.n c,.int .i64 s.r] 24)).alloc (.cells #[.int .i64 x,.int .i64 y,.int .i64 t,.bool m] 59)) (.cells #[.int .i64 0,.slice none 0 0,.int .i64 0] 24)
  have b0:=heap_ext (heap_ext (heap_ext a0 (below_alloc _ _)) (below_alloc _ _)) hx1
  have b1:=heap_ext (heap_ext a1 (below_alloc _ _)) hx1
  have b2:=heap_ext a2 hx1
  simp only[World.size_alloc] at b1 b2 hg
  have hlt:w.heap.size+1+1<g:=by omega
  refine⟨(Ext.step X0.out hx1).setCell (p:=⟨w.heap.size,1,none⟩) (Nat.le_refl _) _,?_,?_,?_,?_,hlt⟩
  ·exact row_set _ b0
  ·exact (row_oth _ (by omega)).trans b1
  ·exact (row_oth _ (by omega)).trans b2
  ·refine (row_oth _ (by omega)).trans ?_
   rw[hc,show rowL (ptE s.e (movS s x y t m).e 0) s.n=rowL s.e s.n from rowL_congr fun i _=>if_neg (Nat.not_lt_zero _),<- htk,List.take_append_drop]
 have HM:=Lib.hid M0
 have FN:=Lib.hid hcp
 have FX:=Lib.hid hmx
 clear M0 hc hcp hmx htk hg
 obtain⟨sl,hsl⟩:∃sl,cur.toList.drop (s.n*7)=sl:=⟨_,rfl⟩
 rw[hsl] at HM
 clear hsl
 rename_i K1 HK1 K2 HK2
 have hp1:w.heap.size+1+1<W1.heap.size:=by have:=hx1.size;simp at this;omega
 have c1:W1.heap[w.heap.size]? = some (.cells #[.int .i64 s.k,.slice p s.n c,.int .i64 s.r] 24):=heap_ext (heap_ext (heap_ext (World.alloc_heap_new w _) (below_alloc _ _)) (below_alloc _ _)) hx1
 have fz:W1.frozen? ⟨w.heap.size,1,none⟩=false:=by simp[World.frozen?,c1]
 have k1:W1.cell? ⟨w.heap.size,1,none⟩=some (.slice p s.n c):=by rw[cell_of_row _ _ _ _ _ _ c1];simp
 clear c1
 clear hx1 X0
 go_wp2
 go_loopw [13] (fun i wr=>∃k:Nat,i=.int .i64 (k:Int)/\k<=s.n/\MI w wr s x y t m g cp sl k) (fun i _=>s.n-(intOf i).toNat)
 case atStart=>exact⟨0,rfl,Nat.zero_le _,HM.out⟩
 case round =>
  obtain⟨k,rfl,hk,hM⟩:=hrel
  clear HM fz k1 hp1
  by_cases hlt:k<s.n
  ·obtain ⟨⟨a0, a1, a2⟩, a3, a4, a5, a6⟩ := hM.cells
   have hE:=hM.edge hlt
   have ix0:0<=(k:Int):=by omega
   have ix2:(k:Int)<(s.n:Int):=by omega
   have HM:=Lib.hid hM
   clear hM
   have CC:=Lib.hid (fun W (hW:Ext wr W)=>And.intro (HM.out.ext hW).cells ((HM.out.ext hW).edge hlt))
   obtain⟨mv,hmv⟩:∃mv,moveE (s.e k) x y (modZ t 4) m=mv:=⟨_,rfl⟩
   have MVk:=MV.out k hlt
   rw[hmv] at MVk
   unfold edA at MVk
   have MVk:=Lib.hid MVk
   have EM:=Lib.hid hmv
   clear hmv
   go_upto_region 5 with (fail)
   refine wp_region_T 11 (fun W=>Ext wr W) (by kernel_rfl) (by kernel_rfl) (by kernel_rfl) (Below.refl _ _) (fun W W' h hb=>Ext.step h hb) (fun W h=>h.size) ?_
   simp only[List.take_succ_cons,List.take_zero,List.drop_succ_cons,List.drop_zero]
   repeat (refine T_run (v:=?_) (by rfl) ?_ ?_;rotate_left;(· (intro W hW;obtain⟨⟨⟨a0,a1,a2⟩,a3,a4,a5,a6⟩,e0,e1,e2,e3,e4,e5,e6⟩:=CC.out W hW;go_simp;try with_reducible rfl));simp only[Act.put,List.setIfInBounds_toArray,List.set_cons_zero,List.set_cons_succ])
   (refine T_call (v:=.agg #[.int .i64 mv.k,.int .i64 mv.ax,.int .i64 mv.ay,.int .i64 mv.bx,.int .i64 mv.by',.int .i64 mv.cx,.int .i64 mv.cy]) (by rfl) (by rfl) ?_ ?_;(· (intro W hW;(try dsimp only at hW);go_simp;refine (MVk.out _).mono ?_;rintro e w' ⟨rfl,hx⟩;exact⟨_,rfl,rfl,hx⟩)));simp only[Act.put,List.setIfInBounds_toArray,List.set_cons_zero,List.set_cons_succ]
   repeat (refine T_run (v:=?_) (by rfl) ?_ ?_;rotate_left;(· (intro W hW;obtain⟨⟨⟨a0,a1,a2⟩,a3,a4,a5,a6⟩,e0,e1,e2,e3,e4,e5,e6⟩:=CC.out W hW;go_simp;try with_reducible rfl));simp only[Act.put,List.setIfInBounds_toArray,List.set_cons_zero,List.set_cons_succ])
   refine T_done ?_
   refine F_store (fun W=>MI w W s x y t m g cp sl (k+1)) (fun W W' h hb=>h.ext hb) (fun _ _=>trivial) (by rfl) (by rfl) (fun W hW=>?_) ?_
   ·have M := HM.out.ext hW
    have hb:=M.bg
    have hf:(movS s x y t m).e k=mv:=EM.out
    have hp:=row_put s.e (movS s x y t m).e hlt sl
    rw[hf] at hp
    obtain⟨o1,o2⟩:=onlyB_setRow (cs':=((rowL (ptE s.e (movS s x y t m).e k) s.n++sl).take (k*7)++(edL mv++(rowL (ptE s.e (movS s x y t m).e k) s.n++sl).drop (k*7+(edL mv).length))).toArray) hb
    refine gives_skip (W:=W.setRow g ((rowL (ptE s.e (movS s x y t m).e k) s.n++sl).take (k*7)++(edL mv++(rowL (ptE s.e (movS s x y t m).e k) s.n++sl).drop (k*7+(edL mv).length))).toArray) (ex_store (vs:=edL mv) rfl (by rfl) hb (by rfl) (n:=7) (by kernel_rfl) rfl (by rw[List.length_append,rowL_len,edL_len];omega) (edL_one mv)) ⟨rfl,by rw[o1.size];exact Nat.le_refl _,?_⟩
    have hl:=M.lt
    exact⟨M.ex.trans (o1.below (by omega)),(o1.block _ (by omega)).trans M.b2,(o1.block _ (by omega)).trans M.b3,(o1.block _ (by omega)).trans M.b4,o2.trans (by rw[hp]),hl⟩
   ·rintro W ⟨hM', _⟩
    have HM2:=Lib.hid hM'
    clear hM'
    have wk:IntKind.i64.wrap ((k:Int)+1)=((k+1:Nat):Int):=by rw[wrap_in (by unfold I64;omega)];omega
    go_wp2
    exact⟨⟨k+1,by simp,by omega,HM2.out⟩,by simp[intOf];omega⟩
  ·obtain rfl : k = s.n := by omega
   have ix:¬((s.n:Int)<(s.n:Int)):=by omega
   obtain⟨⟨a0,a1,a2⟩,a3,a4,a5,a6⟩:=hM.cells
   have e4:=hM.b4
   have d0:wr.cell? ⟨w.heap.size+1+1,0,none⟩=some (.int .i64 0):=by rw[cell_of_row _ _ _ _ _ _ e4];rfl
   have d1:wr.cell? ⟨w.heap.size+1+1,1,none⟩=some (.slice none 0 0):=by rw[cell_of_row _ _ _ _ _ _ e4];rfl
   have d2:wr.cell? ⟨w.heap.size+1+1,2,none⟩=some (.int .i64 0):=by rw[cell_of_row _ _ _ _ _ _ e4];rfl
   have f4:∀o,wr.frozen? ⟨w.heap.size+1+1,o,none⟩=false:=fun o=>by simp[World.frozen?,e4]
   have HM:=Lib.hid hM
   clear hM e4
   go_wp2
   refine bodyPost_ret (v:=.agg #[.int .i64 s.k,.slice (some ⟨g,0,none⟩) s.n cp,.int .i64 s.r]) (by simp only[results,Tryz.results22];go_simp) rfl ?_
   have M:=HM.out
   have hl:=M.lt
   refine⟨g,cp,rfl,?_,?_⟩
   ·have hs := H.out
    refine⟨hs.k,hs.r,FN.out,FX.out,_,cp,rfl,FN.out,FX.out,fun i hi=>?_⟩
    have hi:i<s.n:=hi
    have hb:(((wr.setCell ⟨w.heap.size+1+1,0,none⟩ (.int .i64 s.k)).setCell ⟨w.heap.size+1+1,1,none⟩ (.slice (some ⟨g,0,none⟩) s.n cp)).setCell ⟨w.heap.size+1+1,2,none⟩ (.int .i64 s.r)).heap[g]? = some (.cells (rowL (ptE s.e (movS s x y t m).e s.n) s.n++sl).toArray 70):=by
     rw[row_oth _ (by omega),row_oth _ (by omega),row_oth _ (by omega)];exact M.bg
    refine⟨g,0,_,(70,(0,0)),rfl,hb,by simp only[List.size_toArray,List.length_append,rowL_len];have:=Nat.mul_le_mul_right 7 (show i<=s.n by omega);omega,edL ((movS s x y t m).e i),((rowL (ptE s.e (movS s x y t m).e s.n) s.n++sl).drop (i*7)).drop 7,?_,?_⟩
    ·have := row_mid (ptE s.e (movS s x y t m).e s.n) hi sl
     rw[show ptE s.e (movS s x y t m).e s.n i=(movS s x y t m).e i from if_pos hi] at this
     show (rowL (ptE s.e (movS s x y t m).e s.n) s.n++sl).drop (0+i*7)=_
     rw[Nat.zero_add,<- this]
     exact (List.take_append_drop 7 _).symm
    ·exact (OK.out i hi).rep _
   ·exact (((M.ex.setCell (p:=⟨w.heap.size+1+1,0,none⟩) (by show w.heap.size<=w.heap.size+1+1;omega) _).setCell (p:=⟨w.heap.size+1+1,1,none⟩) (by show w.heap.size<=w.heap.size+1+1;omega) _).setCell (p:=⟨w.heap.size+1+1,2,none⟩) (by show w.heap.size<=w.heap.size+1+1;omega) _)
end
noncomputable def tailF(X:List Eff)(K:List Con)(f:FuncId)(m:Nat)(c:Code)(d:Ds)(q:List Bool):Option (AV×List Prop) :=
 match Tryz.prog.funcs[f]? with
 | none=>none
 | some fn=>match aCodeL Tryz.prog (env X) (callK X K) [] c (mkS m d) q with
  | some (e,s,ps,[])=>(match e with
   | .ex _=>none
   | _=>match aRess Tryz.prog s fn.results.toList with
    | some l=>(match outVs (blI (l.map V1.l).flatten) l,outB s.m (blI (l.map V1.l).flatten) with
     | some l',some []=>some (oneA l',ps)
     | _,_=>none)
    | none=>none)
  | _=>none
theorem tail_wp{X:List Eff}{K:List Con}{f:FuncId}{fn:Func}{m:Nat}{c:Code}{d:Ds}{res:AV}(q:List Bool)(pf:List Pf)(h:tailF X K f m c d q=some (res,pf.map Pf.p))(hf:Tryz.prog.funcs[f]? = some fn){V w:World}{a:Act}{R:Ending->World->Prop}(hJ:JJ V (mkS m d) a w)(hR:∀v w',RepA w' w' (fun _=>0) 0 res v->Ext V w'->R (.returned v) w') :
  c.wp Tryz.prog (bodyPost Tryz.prog fn R) a w:=by
 have hp:=all_pf pf
 generalize pf.map Pf.p=ps at h hp
 unfold tailF at h
 rw[hf] at h
 simp only at h
 split at h
 ·rename_i e s ps1 hc
  split at h
  ·cases h
  ·rename_i hex
   split at h
   ·rename_i l hl
    split at h
    ·rename_i l' hl' hms
     simp only[Option.some.injEq,Prod.mk.injEq] at h
     obtain⟨h1,rfl⟩:=h
     refine aCodeL_wp (snd_ok X K) LpOk.nil hc hp hJ fun a' W' hJ'=>?_
     have key:=fin_ok hl hl' hms (res:=(res,[])) (by rw[h1]) hJ'
     obtain⟨k1,v,k2,v',r,cm,k3,k4,k5⟩:=key
     cases k3
     have post:∃v,(results fn a'.tmps).run Tryz.prog W'=.ok v W'/\R (.returned v) W':=⟨v,k2,hR _ _ (RepA.none k5) k4.ext⟩
     cases e with
     | nm=>exact⟨k1,post⟩
     | rt=>exact⟨k1,post⟩
     | ex k=>exact absurd rfl (hex k)
    ·cases h
   ·cases h
 ·cases h

set_option maxHeartbeats 4000000
set_option maxRecDepth 100000
section
attribute [local go_sem] Gives givesU
theorem moveC(s:Sh){x y t:Int}(m:Bool)(h1:1<=s.n)(hn:s.n<=1000)(hok:∀i,i<s.n->(s.e i).ok=true)(hx:x.natAbs<=c26)(hy:y.natAbs<=c26)(ht : -8<=t/\t<=8)(v:Value)(W:World)(hv:RepV W W (fun _=>0) 0 (shpV s) v) :
  Calls Tryz.prog 22 #[v,.agg #[.int .i64 x,.int .i64 y,.int .i64 t,.bool m]] W fun e w'=>∃v,e=.returned v/\RepV w' w' (fun _=>0) 0 (shpV (movS s x y t m)) v/\Ext W w':=by
 obtain⟨p,c,rfl,h⟩:=ShAt.of hv
 refine (shMove s x y t m p c W h h1 hn hok hx hy ht).mono ?_
 rintro e w' ⟨g,cp,rfl,h2,hx⟩
 exact⟨_,rfl,h2.rep,hx⟩
theorem madeC(L:List Int)(v:Value)(W:World)(hv:IntsC W L v):Calls Tryz.prog 12 #[v] W fun e w'=>∃v,e=.returned v/\RepV w' w' (fun _=>0) 0 (shpV (madeS L)) v/\Ext W w' :=
 made_fok L W [v] (rvs_cons.2 ⟨_,RepI.val (i:=.ds L) ⟨_,rfl,hv⟩,_,rfl,rfl⟩)
theorem ShAt.only{W W':World}{s:Sh}{p:Option Addr}{c B:Nat}{xs:Array Value}{T:TypeId}(h:ShAt W s p c)(ho:OnlyB B W W')(hB:W.heap[B]? = some (.cells xs T))(hs:xs.size<7):ShAt W' s p c:=by
 refine⟨h.k,h.r,h.le,h.mx,?_⟩
 obtain⟨a,c',e,h1,h2,h3⟩:=h.row
 refine⟨a,c',e,h1,h2,fun i hi=>?_⟩
 obtain⟨g,o,ys,T',k1,k2,k3,cs,d,k4,k5⟩:=h3 i hi
 have hl:7<=ys.size:=by
  obtain⟨_,_,rfl,⟨rfl,_⟩,_,_,rfl,⟨rfl,_⟩,_,_,rfl,⟨rfl,_⟩,_,_,rfl,⟨rfl,_⟩,_,_,rfl,⟨rfl,_⟩,_,_,rfl,⟨rfl,_⟩,_,_,rfl,⟨rfl,_⟩,rfl⟩:=k5
  have:=congrArg List.length k4
  simp only[List.length_drop,Array.length_toList,List.length_append,List.length_cons,List.length_nil] at this
  omega
 have hg:g≠B:=fun e=>by
  subst e
  rw[k2] at hB
  injection hB with hB
  injection hB with hB
  subst hB
  omega
 refine⟨g,o,ys,T',k1,(ho.block g hg).trans k2,k3,cs,d,k4,?_⟩
 obtain⟨c0,d0,e0,a0,c1,d1,e1,a1,c2,d2,e2,a2,c3,d3,e3,a3,c4,d4,e4,a4,c5,d5,e5,a5,c6,d6,e6,a6,e7⟩:=k5
 exact⟨c0,d0,e0,a0,c1,d1,e1,a1,c2,d2,e2,a2,c3,d3,e3,a3,c4,d4,e4,a4,c5,d5,e5,a5,c6,d6,e6,a6,e7⟩
theorem sto_sh{a:Act}{o:Oper}{x y:Operand}{B:Nat}{W:World}(s:Sh)(p:Option Addr)(c:Nat)(hB:W.heap[B]? = some (.cells #[.int .i64 0,.slice none 0 0,.int .i64 0] 24))(ho:o.op=.store 24 x y)(hx:a.eval x=.pointer (some ⟨B,0,none⟩))(hy:a.eval y=.agg #[.int .i64 s.k,.slice p s.n c,.int .i64 s.r]) :
  ∃W',(execOp a.eval o).run Tryz.prog W=.ok .skip W'/\OnlyB B W W'/\W'.heap[B]? = some (.cells #[.int .i64 s.k,.slice p s.n c,.int .i64 s.r] 24):=by
 obtain⟨o1,o2⟩:=onlyB_setRow (cs':=(([.int .i64 0,.slice none 0 0,.int .i64 0]:List Value).take 0++(([.int .i64 s.k,.slice p s.n c,.int .i64 s.r]:List Value)++([.int .i64 0,.slice none 0 0,.int .i64 0]:List Value).drop (0+3))).toArray) hB
 exact⟨_,ex_store (vs:=[.int .i64 s.k,.slice p s.n c,.int .i64 s.r]) (old:=[.int .i64 0,.slice none 0 0,.int .i64 0]) ho hx hB (by rw[hy];rfl) (n:=3) (by kernel_rfl) rfl (by simp) (fun v hv=>by simp only[List.mem_cons,List.not_mem_nil,or_false] at hv;rcases hv with rfl|rfl|rfl<;>rfl),o1,o2⟩
theorem giv_sh{a:Act}{o:Oper}{x y:Operand}{B:Nat}{W:World}{R:Value->World->Prop}(s:Sh)(p:Option Addr)(c:Nat)(hB:W.heap[B]? = some (.cells #[.int .i64 0,.slice none 0 0,.int .i64 0] 24))(ho:o.op=.store 24 x y)(hx:a.eval x=.pointer (some ⟨B,0,none⟩))(hy:a.eval y=.agg #[.int .i64 s.k,.slice p s.n c,.int .i64 s.r])
  (hR:∀W',OnlyB B W W'->W'.heap[B]? = some (.cells #[.int .i64 s.k,.slice p s.n c,.int .i64 s.r] 24)->R undef W'):Gives Tryz.prog o a W R:=by
 obtain⟨W',h1,h2,h3⟩:=sto_sh s p c hB ho hx hy
 exact gives_skip h1 (hR _ h2 h3)
theorem mod_bd(z:Int):(z.tmod 60).natAbs<=c26:=by
 obtain⟨h1,h2⟩:=tmod_bd z (show (0:Int)<60 by decide)
 generalize z.tmod 60=u at *
 unfold c26
 omega
theorem shapesC(L M:List Int)(bx by':Int)(v1 v2:Value)(w:World)(h1:IntsC w L v1)(h2:IntsC w M v2)(hm:1<=(madeS M).n/\(madeS M).n<=1000)(hok:∀i,i<(madeS M).n->((madeS M).e i).ok=true) :
  Calls Tryz.prog 20 #[v1,v2,.agg #[.int .i64 bx,.int .i64 by']] w fun e w'=>∃u1 u2,e=.returned (.tuple #[u1,u2])/\RepV w' w' (fun _=>0) 0 (shpV (madeS L)) u1/\RepV w' w' (fun _=>0) 0 (shpV (movS (madeS M) (bx.tmod 60) (by'.tmod 60) 0 false)) u2/\Ext w w':=by
 have C1:=Lib.hid (fun W (hW:Ext w W)=>madeC L v1 W (h1.ext hW))
 have C2:=Lib.hid (fun W (hW:Ext w W)=>madeC M v2 W (h2.ext hW))
 clear h1 h2
 have X0:Ext w (((w.alloc (.cells #[.int .i64 bx,.int .i64 by'] 32)).alloc (.cells #[.int .i64 0,.slice none 0 0,.int .i64 0] 24)).alloc (.cells #[.int .i64 0,.slice none 0 0,.int .i64 0] 24)):=bxx
 have X0:=Lib.hid X0
 go_enter Tryz.func20,Tryz.ntmps20
 go_wp2_with fail
 refine (C2.out _ X0.out).mono ?_
 rintro e W1 ⟨v,rfl,hv,hx⟩
 obtain⟨p,c,rfl,hS⟩:=ShAt.of hv
 have b5:=heap_ext (heap_ext (heap_ext (World.alloc_heap_new w (.cells #[.int .i64 bx,.int .i64 by'] 32)) (below_alloc _ (.cells #[.int .i64 0,.slice none 0 0,.int .i64 0] 24))) (below_alloc _ (.cells #[.int .i64 0,.slice none 0 0,.int .i64 0] 24))) hx
 have b6:=heap_ext (heap_ext (World.alloc_heap_new (w.alloc (.cells #[.int .i64 bx,.int .i64 by'] 32)) (.cells #[.int .i64 0,.slice none 0 0,.int .i64 0] 24)) (below_alloc _ (.cells #[.int .i64 0,.slice none 0 0,.int .i64 0] 24))) hx
 have b7:=heap_ext (World.alloc_heap_new ((w.alloc (.cells #[.int .i64 bx,.int .i64 by'] 32)).alloc (.cells #[.int .i64 0,.slice none 0 0,.int .i64 0] 24)) (.cells #[.int .i64 0,.slice none 0 0,.int .i64 0] 24)) hx
 simp only[World.size_alloc] at b6 b7
 have B5:=Lib.hid b5
 have B6:=Lib.hid b6
 have B7:=Lib.hid b7
 have X1:=Lib.hid (Ext.step X0.out hx)
 have HS:=Lib.hid hS
 clear b5 b6 b7 hx hv hS X0 C2
 generalize hs:madeS M=s at *
 obtain⟨k,r,n,hk,hr,hn⟩:∃k r n,s.k=k/\s.r=r/\s.n=n:=⟨_,_,_,rfl,rfl,rfl⟩
 have KRN:=Lib.hid (And.intro hk (And.intro hr hn))
 rw[hk,hr,hn]
 clear hk hr hn
 go_upto_region 2 with (fail)
 have b8:=World.alloc_heap_new W1 (.cells #[.int .i64 k,.slice p n c,.int .i64 r] 24)
 have zB:=(Array.getElem?_eq_some_iff.1 B7.out).1
 have CC:Hid (∀W,((Ext w W/\W1.heap.size+1<=W.heap.size)/\W.heap[W1.heap.size]? = some (.cells #[.int .i64 k,.slice p n c,.int .i64 r] 24)/\W.heap[w.heap.size]? = some (.cells #[.int .i64 bx,.int .i64 by'] 32)) ->
   (W.cell? ⟨W1.heap.size,0,none⟩=some (.int .i64 k)/\W.cell? ⟨W1.heap.size,1,none⟩=some (.slice p n c)/\W.cell? ⟨W1.heap.size,2,none⟩=some (.int .i64 r))/\W.cell? ⟨w.heap.size,0,none⟩=some (.int .i64 bx)/\W.cell? ⟨w.heap.size,1,none⟩=some (.int .i64 by')):=Lib.hid fun W h=>by
  obtain⟨_,r8,r5⟩:=h
  refine⟨⟨?_,?_,?_⟩,?_,?_⟩
  ·rw[cell_of_row _ _ _ _ _ _ r8];rfl
  ·rw[cell_of_row _ _ _ _ _ _ r8];rfl
  ·rw[cell_of_row _ _ _ _ _ _ r8];rfl
  ·rw[cell_of_row _ _ _ _ _ _ r5];rfl
  ·rw[cell_of_row _ _ _ _ _ _ r5];rfl
 refine wp_region_G (fun W=>(Ext w W/\W1.heap.size+1<=W.heap.size)/\W.heap[W1.heap.size]? = some (.cells #[.int .i64 k,.slice p n c,.int .i64 r] 24)/\W.heap[w.heap.size]? = some (.cells #[.int .i64 bx,.int .i64 by'] 32))
  (fun W=>ShAt W s p c/\W.heap[w.heap.size+1]? = some (.cells #[.int .i64 0,.slice none 0 0,.int .i64 0] 24)/\W.heap[w.heap.size+1+1]? = some (.cells #[.int .i64 0,.slice none 0 0,.int .i64 0] 24)) (by kernel_rfl) (by kernel_rfl) ?_ ?_ ?_ ?_
 ·exact⟨⟨⟨Ext.step X1.out (below_alloc _ _),by simp⟩,b8,heap_ext B5.out (below_alloc _ _)⟩,HS.out.ext (below_alloc _ _),heap_ext B6.out (below_alloc _ _),heap_ext B7.out (below_alloc _ _)⟩
 ·rintro W W' ⟨⟨⟨h1, h2⟩, h3, h4⟩, h5, h6, h7⟩ hb
  exact⟨⟨⟨Ext.step h1 hb,Nat.le_trans h2 hb.size⟩,heap_ext h3 hb,heap_ext h4 hb⟩,h5.ext hb,heap_ext h6 hb,heap_ext h7 hb⟩
 ·rintro W ⟨⟨h1, h2⟩, _⟩
  simpa using h2
 repeat (refine F_run (v:=?_) (by rfl) ?_ ?_;rotate_left;(· (intro W hW;obtain⟨⟨c0,c1,c2⟩,c3,c4⟩:=CC.out W hW;go_simp;try with_reducible rfl));simp only[Act.put,List.setIfInBounds_toArray,List.set_cons_zero,List.set_cons_succ])
 refine F_callE (I:=Value) (fun v=>v) (fun v W=>RepV W W (fun _=>0) 0 (shpV (madeS L)) v) (shpV_mono _) (by rfl) (by rfl) (fun W hW=>?_) fun u1 hu1=>?_
 ·refine gives_enter (f := 12) (args := #[v1]) (by go_simp; try with_reducible rfl) ((C1.out W hW.1.1.1).mono ?_)
  rintro e W' ⟨v,rfl,hv,hx⟩
  exact⟨v,rfl,v,rfl,hx,hv⟩
 simp only[Act.put,List.setIfInBounds_toArray,List.set_cons_zero,List.set_cons_succ]
 repeat (refine F_run (v:=?_) (by rfl) ?_ ?_;rotate_left;(· (intro W hW;obtain⟨⟨c0,c1,c2⟩,c3,c4⟩:=CC.out W hW;go_simp;try with_reducible rfl));simp only[Act.put,List.setIfInBounds_toArray,List.set_cons_zero,List.set_cons_succ])
 obtain⟨rfl,rfl,rfl⟩:=KRN.out
 obtain⟨X,hX⟩:∃X,bx.tmod 60=X:=⟨_,rfl⟩
 obtain⟨Y,hY⟩:∃Y,by'.tmod 60=Y:=⟨_,rfl⟩
 have bX:X.natAbs<=c26:=hX ▸ mod_bd bx
 have bY:Y.natAbs<=c26:=hY ▸ mod_bd by'
 rw[hX,hY]
 obtain⟨Wx,_,hux⟩:=hu1
 obtain⟨p1,c1,rfl,_⟩:=ShAt.of hux
 clear hux
 refine F_callE (I:=Value) (fun v=>v) (fun v W=>RepV W W (fun _=>0) 0 (shpV (movS s X Y 0 false)) v) (shpV_mono _) (by rfl) (by rfl) (fun W hW=>?_) fun u2 hu2=>?_
 ·refine gives_enter (f := 22) (args := #[.agg #[.int .i64 s.k, .slice p s.n c, .int .i64 s.r], .agg #[.int .i64 X, .int .i64 Y, .int .i64 0, .bool false]]) (by go_simp; try with_reducible rfl) ((moveC s (x := X) (y := Y) (t := 0) false hm.1 hm.2 hok bX bY (by omega) _ W hW.1.2.1.rep).mono ?_)
  rintro e W' ⟨v,rfl,hv,hx⟩
  exact⟨v,rfl,v,rfl,hx,hv⟩
 simp only[Act.put,List.setIfInBounds_toArray,List.set_cons_zero,List.set_cons_succ]
 obtain⟨Wy,_,huy⟩:=hu2
 obtain⟨p2,c2,rfl,_⟩:=ShAt.of huy
 clear huy
 refine F_store (fun W=>(((Ext w W/\W1.heap.size+1<=W.heap.size)/\W.heap[W1.heap.size]? = some (.cells #[.int .i64 s.k,.slice p s.n c,.int .i64 s.r] 24)/\W.heap[w.heap.size]? = some (.cells #[.int .i64 bx,.int .i64 by'] 32))/\W.heap[w.heap.size+1]? = some (.cells #[.int .i64 (madeS L).k,.slice p1 (madeS L).n c1,.int .i64 (madeS L).r] 24)/\W.heap[w.heap.size+1+1]? = some (.cells #[.int .i64 0,.slice none 0 0,.int .i64 0] 24))/\ShAt W (madeS L) p1 c1/\ShAt W (movS s X Y 0 false) p2 c2)
  ?_ ?_ (by rfl) (by rfl) (fun W hW=>?_) ?_
 ·rintro W W' ⟨⟨⟨⟨h1, h2⟩, h3, h4⟩, h5, h6⟩, h7, h8⟩ hb
  exact⟨⟨⟨⟨Ext.step h1 hb,Nat.le_trans h2 hb.size⟩,heap_ext h3 hb,heap_ext h4 hb⟩,heap_ext h5 hb,heap_ext h6 hb⟩,h7.ext hb,h8.ext hb⟩
 ·exact fun W h=>h.1.1
 ·obtain ⟨⟨⟨⟨⟨x1, z1⟩, r8, r5⟩, _, r6, r7⟩, q1⟩, q2⟩ := hW
  obtain⟨p',c',e',q1⟩:=ShAt.of q1
  cases e'
  obtain⟨p',c',e',q2⟩:=ShAt.of q2
  cases e'
  refine giv_sh (madeS L) p1 c1 r6 rfl (by rfl) (by rfl) fun W2 o1 o2=>⟨rfl,by rw[o1.size];exact Nat.le_refl _,⟨⟨⟨x1.trans (o1.below (by omega)),by rw[o1.size];exact z1⟩,(o1.block _ (by omega)).trans r8,(o1.block _ (by omega)).trans r5⟩,o2,(o1.block _ (by omega)).trans r7⟩,q1.only o1 r6 (by simp),q2.only o1 r6 (by simp)⟩
 simp only[Act.put,List.setIfInBounds_toArray,List.set_cons_zero,List.set_cons_succ]
 refine F_store (fun W=>(((Ext w W/\W1.heap.size+1<=W.heap.size)/\W.heap[W1.heap.size]? = some (.cells #[.int .i64 s.k,.slice p s.n c,.int .i64 s.r] 24)/\W.heap[w.heap.size]? = some (.cells #[.int .i64 bx,.int .i64 by'] 32))/\W.heap[w.heap.size+1]? = some (.cells #[.int .i64 (madeS L).k,.slice p1 (madeS L).n c1,.int .i64 (madeS L).r] 24)/\W.heap[w.heap.size+1+1]? = some (.cells #[.int .i64 (movS s X Y 0 false).k,.slice p2 (movS s X Y 0 false).n c2,.int .i64 (movS s X Y 0 false).r] 24))/\ShAt W (madeS L) p1 c1/\ShAt W (movS s X Y 0 false) p2 c2)
  ?_ ?_ (by rfl) (by rfl) (fun W hW=>?_) ?_
 ·rintro W W' ⟨⟨⟨⟨h1, h2⟩, h3, h4⟩, h5, h6⟩, h7, h8⟩ hb
  exact⟨⟨⟨⟨Ext.step h1 hb,Nat.le_trans h2 hb.size⟩,heap_ext h3 hb,heap_ext h4 hb⟩,heap_ext h5 hb,heap_ext h6 hb⟩,h7.ext hb,h8.ext hb⟩
 ·exact fun W h=>h.1.1
 ·obtain ⟨⟨⟨⟨⟨x1, z1⟩, r8, r5⟩, r6, r7⟩, q1, q2⟩, _⟩ := hW
  refine giv_sh (movS s X Y 0 false) p2 c2 r7 rfl (by rfl) (by rfl) fun W2 o1 o2=>⟨rfl,by rw[o1.size];exact Nat.le_refl _,⟨⟨⟨x1.trans (o1.below (by omega)),by rw[o1.size];exact z1⟩,(o1.block _ (by omega)).trans r8,(o1.block _ (by omega)).trans r5⟩,(o1.block _ (by omega)).trans r6,o2⟩,q1.only o1 r7 (by simp),q2.only o1 r7 (by simp)⟩
 simp only[Act.put,List.setIfInBounds_toArray,List.set_cons_zero,List.set_cons_succ]
 rintro W ⟨⟨⟨⟨⟨x1,_⟩,_,_⟩,r6,r7⟩,q1,q2⟩,_⟩
 have e0:W.cell? ⟨w.heap.size+1,0,none⟩=some (.int .i64 (madeS L).k):=by rw[cell_of_row _ _ _ _ _ _ r6];rfl
 have e1:W.cell? ⟨w.heap.size+1,1,none⟩=some (.slice p1 (madeS L).n c1):=by rw[cell_of_row _ _ _ _ _ _ r6];rfl
 have e2:W.cell? ⟨w.heap.size+1,2,none⟩=some (.int .i64 (madeS L).r):=by rw[cell_of_row _ _ _ _ _ _ r6];rfl
 have e3:W.cell? ⟨w.heap.size+1+1,0,none⟩=some (.int .i64 (movS s X Y 0 false).k):=by rw[cell_of_row _ _ _ _ _ _ r7];rfl
 have e4:W.cell? ⟨w.heap.size+1+1,1,none⟩=some (.slice p2 (movS s X Y 0 false).n c2):=by rw[cell_of_row _ _ _ _ _ _ r7];rfl
 have e5:W.cell? ⟨w.heap.size+1+1,2,none⟩=some (.int .i64 (movS s X Y 0 false).r):=by rw[cell_of_row _ _ _ _ _ _ r7];rfl
 have Q1:=Lib.hid q1
 have Q2:=Lib.hid q2
 have XX:=Lib.hid x1
 have HXY:=Lib.hid (And.intro hX hY)
 clear q1 q2 x1 r6 r7 hX hY bX bY
 go_wp2
 refine bodyPost_ret (v:=.tuple #[.agg #[.int .i64 (madeS L).k,.slice p1 (madeS L).n c1,.int .i64 (madeS L).r],.agg #[.int .i64 (movS s X Y 0 false).k,.slice p2 (movS s X Y 0 false).n c2,.int .i64 (movS s X Y 0 false).r]]) (by simp only[results,Tryz.results20];go_simp) rfl ?_
 obtain⟨hX,hY⟩:=HXY.out
 exact⟨_,_,rfl,Q1.out.rep,by rw[hX,hY];exact Q2.out.rep,XX.out⟩
end
structure OkS (s:Sh):Prop where
 k:s.k=1\/s.k=2
 n0:fewS s<=s.n
 n1:s.n<=40
 ok:∀i,i<s.n->(s.e i).ok=true
 ch:∀i,i+1<s.n->(s.e (i+1)).ax=(s.e i).bx/\(s.e (i+1)).ay=(s.e i).by'
 cl:s.k=2->(s.e 0).ax=(s.e (s.n-1)).bx/\(s.e 0).ay=(s.e (s.n-1)).by'
 r:(0<=s.r/\s.r<=4194304)/\(s.k=2->s.r=0)
theorem errN_z{e:Nat->Ed}:∀ {n:Nat},(∀i,i<n->(e i).ok=true)->errN e n=0
 | 0,_=>rfl
 | n+1,h=>by
  unfold errN
  rw[if_pos (errN_z fun i hi=>h i (by omega))]
  unfold checkZ
  rw[if_pos (h n (by omega))]
theorem OkS.chk{s:Sh}(h:OkS s):chkS s=0:=by
 unfold chkS
 have h0:=h.n0
 have h1:=h.n1
 have hk:=h.k
 rw[if_neg (by omega),if_neg (by omega),if_neg (by omega),if_neg (by rw[errN_z h.ok];omega),if_neg,if_neg]
 ·obtain ⟨⟨r0, r1⟩, r2⟩ := h.r
  rintro (⟨k2,g⟩|g|g)
  ·exact g (r2 k2)
  ·omega
  ·omega
 ·rintro (g | ⟨k2, g⟩)
  ·have:allB (jn s.e) (s.n-1)=true:=allB_t.2 fun i hi=>by
    obtain⟨e1,e2⟩:=h.ch i (by omega)
    unfold jn
    rw[e1,e2]
    simp
   rw[this] at g
   cases g
  ·obtain ⟨e1, e2⟩ := h.cl k2
   unfold clsB at g
   rw[e1,e2] at g
   simp at g
def chainL:List Ed->Prop
 | []=>True
 | e::l=>(match l with | []=>True|f::_=>f.ax=e.bx/\f.ay=e.by')/\chainL l
theorem chainL_at:∀ {l:List Ed},chainL l->∀i,i+1<l.length->(rowE l (i+1)).ax=(rowE l i).bx/\(rowE l (i+1)).ay=(rowE l i).by'
 | [],_,i,hi=>absurd hi (Nat.not_lt_zero _)
 | [e],_,i,hi=>by simp at hi
 | e::f::l,h,0,_=>h.1
 | e::f::l,h,i+1,hi=>chainL_at (l:=f::l) h.2 i (by simpa using hi)
theorem rowE_mem{l:List Ed}{i:Nat}(h:i<l.length):rowE l i∈l:=by
 unfold rowE
 rw[List.getElem?_eq_getElem h]
 exact List.getElem_mem h
theorem okS_list{k:Int}{l:List Ed}{r:Int}(hk:k=1\/k=2)(h0:(if k=1 then 1 else 2)<=l.length)(h1:l.length<=40)(ho:∀e∈l,e.ok=true)(hc:chainL l)(hl:k=2->(rowE l 0).ax=(rowE l (l.length-1)).bx/\(rowE l 0).ay=(rowE l (l.length-1)).by')(hr:(0<=r/\r<=4194304)/\(k=2->r=0)):OkS (shL' k l r) :=
 ⟨hk,by show fewS (shL' k l r)<=(l.length:Int);unfold fewS;show (if k=1 then (1:Int) else 2)<=l.length;split<;>simp_all<;>omega,h1,fun i hi=>ho _ (rowE_mem hi),chainL_at hc,hl,hr⟩
def Sm3(x:Int):Prop := -1000<=x/\x<=1000
def EdSm(e:Ed):Prop:=(Sm3 e.ax/\Sm3 e.ay)/\(Sm3 e.bx/\Sm3 e.by')/\Sm3 e.cx/\Sm3 e.cy
theorem lnEd_ok{ax ay bx by':Int}(h1:Sm3 ax)(h2:Sm3 ay)(h3:Sm3 bx)(h4:Sm3 by'):(lnEd ax ay bx by').ok=true/\EdSm (lnEd ax ay bx by'):=by
 unfold Sm3 at h1 h2 h3 h4
 refine⟨?_,⟨⟨by unfold lnEd Sm3;exact h1,by unfold lnEd Sm3;exact h2⟩,⟨by unfold lnEd Sm3;exact h3,by unfold lnEd Sm3;exact h4⟩,by unfold lnEd Sm3;simp,by unfold lnEd Sm3;simp⟩⟩
 simp only[Ed.ok,Ed.right,lnEd,Bool.and_eq_true]
 refine⟨⟨⟨coordB_iff.2 ?_,coordB_iff.2 ?_⟩,coordB_iff.2 ?_⟩,by simp[Ed.lone]⟩
 all_goals (unfold Co;omega)
theorem arcEd_ok{k ax ay bx by' cx cy:Int}(h1:Sm3 ax)(h2:Sm3 ay)(h3:Sm3 bx)(h4:Sm3 by')(h5:Sm3 cx)(h6:Sm3 cy)(hd:(ax-cx=0/\ay-cy≠0)\/(ax-cx≠0/\ay-cy=0))
  (hk:(k=2/\bx-cx = -(ay-cy)/\by'-cy=ax-cx)\/(k=3/\bx-cx=ay-cy/\by'-cy = -(ax-cx))):(Ed.mk k ax ay bx by' cx cy).ok=true/\EdSm (Ed.mk k ax ay bx by' cx cy):=by
 refine⟨?_,⟨⟨h1,h2⟩,⟨h3,h4⟩,h5,h6⟩⟩
 unfold Sm3 at *
 simp only[Ed.ok,Ed.right,Bool.and_eq_true]
 refine⟨⟨⟨coordB_iff.2 ?_,coordB_iff.2 ?_⟩,coordB_iff.2 ?_⟩,?_⟩
 ·unfold Co;omega
 ·unfold Co;omega
 ·unfold Co;omega
 ·rcases hk with⟨rfl,g1,g2⟩|⟨rfl,g1,g2⟩<;>rcases hd with⟨d1,d2⟩|⟨d1,d2⟩<;>simp[Ed.quarter,quarterB,rot,g1,g2,d1,d2]
theorem quartE_ok{px py r t:Int}(g:Bool)(h1 : -900<=px/\px<=900)(h2 : -900<=py/\py<=900)(hr:1<=r/\r<=16)(ht:0<=t/\t<4):(quartE px py r t g).ok=true/\EdSm (quartE px py r t g):=by
 have m0:modZ 0 4=0:=by decide
 have m1:modZ 1 4=1:=by decide
 have m2:modZ 2 4=2:=by decide
 have m3:modZ 3 4=3:=by decide
 obtain rfl|rfl|rfl|rfl:t=0\/t=1\/t=2\/t=3:=by omega
 all_goals cases g
 all_goals
  simp only[quartE,tn0 m0,tn1 m1,tn2 m2,tn3 m3,Bool.false_eq_true,if_false,if_true]
  refine arcEd_ok ?_ ?_ ?_ ?_ ?_ ?_ ?_ ?_
  all_goals first|omega|(unfold Sm3;omega)
def FineS(s:Sh):Prop:=OkS s/\(∀i,i<s.n->EdSm (s.e i))/\s.r<=100
theorem fineS_list{k:Int}{l:List Ed}{r:Int}(hk:k=1\/k=2)(h0:(if k=1 then 1 else 2)<=l.length)(h1:l.length<=40)(ho:∀e∈l,e.ok=true/\EdSm e)(hc:chainL l)(hl:k=2->(rowE l 0).ax=(rowE l (l.length-1)).bx/\(rowE l 0).ay=(rowE l (l.length-1)).by')(hr:(0<=r/\r<=100)/\(k=2->r=0)):FineS (shL' k l r) :=
 ⟨okS_list hk h0 h1 (fun e he=>(ho e he).1) hc hl ⟨⟨hr.1.1,by omega⟩,hr.2⟩,fun i hi=>(ho _ (rowE_mem hi)).2,hr.1.2⟩
theorem all1{P:Ed->Prop}{a:Ed}{l:List Ed}(h1:P a)(h2:∀e∈l,P e):∀e∈a::l,P e:=fun e he=>by
 rcases List.mem_cons.1 he with rfl|he
 ·exact h1
 ·exact h2 e he
theorem all0{P:Ed->Prop}:∀e∈([]:List Ed),P e:=fun e he=>by cases he
theorem rect_fine{x y u v:Int}(h1:0<=x/\x<=500)(h2:0<=y/\y<=500)(h3:0<=u/\u<=500)(h4:0<=v/\v<=500):FineS (rectS x y u v):=by
 unfold rectS
 refine fineS_list (.inr rfl) (by simp) (by simp) (all1 (lnEd_ok ?_ ?_ ?_ ?_) (all1 (lnEd_ok ?_ ?_ ?_ ?_) (all1 (lnEd_ok ?_ ?_ ?_ ?_) (all1 (lnEd_ok ?_ ?_ ?_ ?_) all0)))) ⟨⟨rfl,rfl⟩,⟨rfl,rfl⟩,⟨rfl,rfl⟩,trivial,trivial⟩ (fun _=>⟨rfl,rfl⟩) ⟨by decide,fun _=>rfl⟩
 all_goals (unfold Sm3;omega)
theorem disc_fine{x y r:Int}(h1:0<=x/\x<=500)(h2:0<=y/\y<=500)(hr:0<=r/\r<=100):FineS (discS x y r):=by
 unfold discS
 refine fineS_list (.inl rfl) (by simp) (by simp) (all1 (lnEd_ok ?_ ?_ ?_ ?_) all0) ⟨trivial,trivial⟩ (fun h=>by cases h) ⟨hr,fun h=>by cases h⟩
 all_goals (unfold Sm3;omega)
theorem round_fine{x y r w h:Int}(h1:0<=x/\x<=100)(h2:0<=y/\y<=100)(hr:1<=r/\r<=16)(hw:0<=w/\w<=100)(hh:0<=h/\h<=100):FineS (roundS x y r w h):=by
 unfold roundS
 refine fineS_list (.inr rfl) (by simp) (by simp) (all1 (lnEd_ok ?_ ?_ ?_ ?_) (all1 (arcEd_ok ?_ ?_ ?_ ?_ ?_ ?_ ?_ ?_) (all1 (lnEd_ok ?_ ?_ ?_ ?_) (all1 (arcEd_ok ?_ ?_ ?_ ?_ ?_ ?_ ?_ ?_) (all1 (lnEd_ok ?_ ?_ ?_ ?_) (all1 (arcEd_ok ?_ ?_ ?_ ?_ ?_ ?_ ?_ ?_) (all1 (lnEd_ok ?_ ?_ ?_ ?_) (all1 (arcEd_ok ?_ ?_ ?_ ?_ ?_ ?_ ?_ ?_) all0)))))))) ⟨⟨rfl,rfl⟩,⟨rfl,rfl⟩,⟨rfl,rfl⟩,⟨rfl,rfl⟩,⟨rfl,rfl⟩,⟨rfl,rfl⟩,⟨rfl,rfl⟩,trivial,trivial⟩ (fun _=>⟨rfl,rfl⟩) ⟨by decide,fun _=>rfl⟩
 all_goals first|omega|(unfold Sm3;omega)
theorem path_fine{L:List Int}(n:Nat):∀(k a:Nat) (px py:Int),k+n<=4->(0<=k)->(-(64*(k:Int))-100<=px/\px<=64*(k:Int)+100)->(-(64*(k:Int))-100<=py/\py<=64*(k:Int)+100) ->
  (∀e∈pathL L n a px py,e.ok=true/\EdSm e)/\chainL (pathL L n a px py)/\(pathL L n a px py).length=n/\(∀f l,pathL L n a px py=f::l->f.ax=px/\f.ay=py):=by
 induction n with
 | zero=>intro k a px py _ _ _ _;exact⟨all0,trivial,rfl,fun f l h=>by cases h⟩
 | succ n ih =>
  intro k a px py hk hk0 hx hy
  have n0:=nV_bd L a (m:=21) (by omega)
  have n1:=nV_bd L (a+1) (m:=21) (by omega)
  have n3:=nV_bd L (a+3) (m:=9) (by omega)
  have n4:=nV_bd L (a+4) (m:=4) (by omega)
  have E:((pathE L a px py).ok=true/\EdSm (pathE L a px py))/\((pathE L a px py).ax=px/\(pathE L a px py).ay=py)/\(-(64*((k+1:Nat):Int))-100<=(pathE L a px py).bx/\(pathE L a px py).bx<=64*((k+1:Nat):Int)+100)/\(-(64*((k+1:Nat):Int))-100<=(pathE L a px py).by'/\(pathE L a px py).by'<=64*((k+1:Nat):Int)+100):=by
   unfold pathE
   split
   ·refine ⟨quartE_ok _ (by omega) (by omega) (by omega) n4, ⟨rfl, rfl⟩, ?_⟩
    obtain⟨⟨_,_,_⟩,⟨b1,b2⟩,_⟩:=quart_bd (px:=px-px) (py:=py-py) (r:=1+nV L (a+3) 9) (t:=nV L (a+4) 4) (g:=decide (nV L (a+5) 2=1)) (A:=0) (B:=0) (by omega) (by omega) (by omega)
    have e1:(quartE (px-px) (py-py) (1+nV L (a+3) 9) (nV L (a+4) 4) (decide (nV L (a+5) 2=1))).bx=(quartE px py (1+nV L (a+3) 9) (nV L (a+4) 4) (decide (nV L (a+5) 2=1))).bx-px:=by
     unfold quartE
     simp only
     rw[show px-px-(px-px+(applyQ 0 0 (nV L (a+4) 4) false (1+nV L (a+3) 9) 0).1)=px-(px+(applyQ 0 0 (nV L (a+4) 4) false (1+nV L (a+3) 9) 0).1) by omega,show py-py-(py-py+(applyQ 0 0 (nV L (a+4) 4) false (1+nV L (a+3) 9) 0).2)=py-(py+(applyQ 0 0 (nV L (a+4) 4) false (1+nV L (a+3) 9) 0).2) by omega]
     omega
    have e2:(quartE (px-px) (py-py) (1+nV L (a+3) 9) (nV L (a+4) 4) (decide (nV L (a+5) 2=1))).by'=(quartE px py (1+nV L (a+3) 9) (nV L (a+4) 4) (decide (nV L (a+5) 2=1))).by'-py:=by
     unfold quartE
     simp only
     rw[show px-px-(px-px+(applyQ 0 0 (nV L (a+4) 4) false (1+nV L (a+3) 9) 0).1)=px-(px+(applyQ 0 0 (nV L (a+4) 4) false (1+nV L (a+3) 9) 0).1) by omega,show py-py-(py-py+(applyQ 0 0 (nV L (a+4) 4) false (1+nV L (a+3) 9) 0).2)=py-(py+(applyQ 0 0 (nV L (a+4) 4) false (1+nV L (a+3) 9) 0).2) by omega]
     omega
    rw[e1] at b1
    rw[e2] at b2
    omega
   ·refine ⟨lnEd_ok ?_ ?_ ?_ ?_, ⟨rfl, rfl⟩, ?_⟩
    ·unfold Sm3;omega
    ·unfold Sm3;omega
    ·unfold Sm3;omega
    ·unfold Sm3;omega
    ·simp only [lnEd]
     omega
  obtain⟨E1,E2,E3,E4⟩:=E
  obtain⟨i1,i2,i3,i4⟩:=ih (k+1) (pathN L a) (pathE L a px py).bx (pathE L a px py).by' (by omega) (by omega) E3 E4
  refine⟨all1 E1 i1,⟨?_,i2⟩,by show _+1=n+1;rw[i3],fun f l h=>?_⟩
  ·cases hp : pathL L n (pathN L a) (pathE L a px py).bx (pathE L a px py).by' with
   | nil=>trivial
   | cons f l=>exact i4 f l hp
  ·obtain ⟨rfl, _⟩ := List.cons.inj h
   exact E2
theorem made_fine(L:List Int):FineS (madeS L):=by
 have b0:=nV_bd L 0 (m:=50) (by omega)
 have b1:=nV_bd L 1 (m:=50) (by omega)
 unfold madeS
 simp only
 split
 ·have b3 := nV_bd L 3 (m := 20) (by omega)
  have b4:=nV_bd L 4 (m:=20) (by omega)
  exact rect_fine (by omega) (by omega) (by omega) (by omega)
 split
 ·have b3 := nV_bd L 3 (m := 6) (by omega)
  have b4:=nV_bd L 4 (m:=9) (by omega)
  have b5:=nV_bd L 5 (m:=9) (by omega)
  exact round_fine (by omega) (by omega) (by omega) (by omega) (by omega)
 split
 ·have b3 := nV_bd L 3 (m := 20) (by omega)
  have b4:=nV_bd L 4 (m:=9) (by omega)
  have b5:=nV_bd L 5 (m:=9) (by omega)
  have b6:=nV_bd L 6 (m:=20) (by omega)
  refine fineS_list (.inr rfl) (by simp) (by simp) (all1 (lnEd_ok ?_ ?_ ?_ ?_) (all1 (lnEd_ok ?_ ?_ ?_ ?_) (all1 (lnEd_ok ?_ ?_ ?_ ?_) all0))) ⟨⟨rfl,rfl⟩,⟨rfl,rfl⟩,trivial,trivial⟩ (fun _=>⟨rfl,rfl⟩) ⟨by decide,fun _=>rfl⟩
  all_goals (unfold Sm3;omega)
 split
 ·have b3 := nV_bd L 3 (m := 9) (by omega)
  exact disc_fine (by omega) (by omega) (by omega)
 ·have b3 := nV_bd L 3 (m := 6) (by omega)
  have b4:=nV_bd L 4 (m:=3) (by omega)
  obtain⟨i1,i2,i3,_⟩:=path_fine (L:=L) (1+nV L 4 3).toNat 0 5 (nV L 0 50) (nV L 1 50) (by omega) (by omega) (by omega) (by omega)
  exact fineS_list (.inl rfl) (by rw[i3,if_pos rfl];omega) (by rw[i3];omega) i1 i2 (fun h=>by cases h) ⟨by omega,fun h=>by cases h⟩
def countC(d:Int)(l:List (Int×Int)):Int:=if d<0 then 0 else (if goodS d 1 l then 1 else 0)+(if d=0 then 0 else if goodS d (-1) l then 1 else 0)
theorem countZ_eq(d:Int)(l:List (Int×Int)):countZ d l=countC d l:=by
 unfold countZ countL countC signL
 by_cases h:d<0
 ·simp[h]
 ·have hd : decide (d < 0) = false := by simpa using h
  rw[hd,if_neg h]
  simp only[Bool.false_eq_true,if_false]
  by_cases h0:d=0
  ·subst h0
   have:(digs (Int.natAbs 0)).length=0:=by simp[digs_zero]
   rw[if_pos this,if_pos rfl]
   cases hg:goodS 0 1 l<;>simp[sP,hg]
  ·have:¬(digs d.natAbs).length=0:=by
    intro e
    have:=digs_eq_nil.1 (List.eq_nil_of_length_eq_zero e)
    omega
   rw[if_neg this,if_neg h0]
   cases hg:goodS d 1 l<;>cases hg':goodS d (-1) l<;>simp[sP,sM,hg,hg']
theorem sideI_pos{n:Int}(h:0<n):sideI n=1:=by unfold sideI;(repeat' split)<;>omega
theorem sideI_neg{n:Int}(h:n<0):sideI n = -1:=by unfold sideI;(repeat' split)<;>omega
theorem sgn_pos{n:Int}(h:0<n):sgn n=1:=by unfold sgn cmpZ;(repeat' split)<;>omega
theorem sgn_neg{n:Int}(h:n<0):sgn n = -1:=by unfold sgn cmpZ;(repeat' split)<;>omega
theorem sgn_zero:sgn 0=0:=rfl
theorem sgn_nneg{x:Int}(h:0<=x):0<=sgn x:=by unfold sgn cmpZ;(repeat' split)<;>omega
theorem sq_leM{a b:Int}(h0:0<=a)(h:a<=b):a*a<=b*b:=Int.mul_le_mul h h h0 (by omega)
theorem sideZ_sq{x z n:Int}(hn:0<=n)(h:0<=x+z*n):0<=sideZ x z (n*n):=by
 unfold sideZ
 rcases Int.lt_or_eq_of_le hn with h0|h0
 ·have hnn : 0 < n * n := Int.mul_pos h0 h0
  rw[sgn_pos hnn,Int.mul_one]
  rcases Int.lt_trichotomy x 0 with hx|hx|hx
  ·rw [sgn_neg hx]
   rcases Int.lt_trichotomy z 0 with hz|hz|hz
   ·exfalso
    have:=Int.mul_neg_of_neg_of_pos hz h0
    omega
   ·subst hz;exfalso;omega
   ·rw [sgn_pos hz, if_neg (by decide)]
    have h1:=sq_leM (a := -x) (b:=z*n) (by omega) (by omega)
    have e:z*z*(n*n)=z*n*(z*n):=by grind
    have e2 : -x * -x=x*x:=by grind
    rw[e]
    unfold cmpZ
    (repeat' split)<;>omega
  ·subst hx
   have:0<=z:=by
    rcases (show z<0\/0<=z by omega) with hz|hz
    ·have:=Int.mul_neg_of_neg_of_pos hz h0;omega
    ·exact hz
   have h2:=sgn_nneg this
   have h3:=sgn_bd z
   have e0:sgn 0=0:=rfl
   rw[e0,Int.zero_mul,if_pos (Int.le_refl _)]
   omega
  ·rw [sgn_pos hx]
   rcases Int.lt_trichotomy z 0 with hz|hz|hz
   ·rw [sgn_neg hz, if_neg (by decide)]
    have h1:=sq_leM (a := -(z*n)) (b:=x) (by have:=Int.mul_neg_of_neg_of_pos hz h0;omega) (by omega)
    have e:z*z*(n*n) = -(z*n) * -(z*n):=by grind
    rw[e]
    unfold cmpZ
    (repeat' split)<;>omega
   ·subst hz
    rw[show sgn 0=0 from rfl,if_pos (by omega)]
    decide
   ·rw [sgn_pos hz, if_pos (by decide)]
    decide
 ·subst h0
  have e0:sgn (0*0)=0:=rfl
  have hx:=sgn_nneg (show 0<=x by omega)
  have h3:=sgn_bd x
  rw[e0,Int.mul_zero,Int.mul_zero,if_pos (Int.le_refl _)]
  omega
theorem sideZ_m{x y m s:Int}(hs:(s=1/\0<=m)\/(s = -1/\m<0))(h:0<=x+y*m):0<=sideZ x (s*y) (m*m):=by
 rcases hs with⟨rfl,hm⟩|⟨rfl,hm⟩
 ·rw[Int.one_mul];exact sideZ_sq hm h
 ·have e : m * m = -m * -m := by grind
  rw[e]
  refine sideZ_sq (by omega) ?_
  have : -1*y * -m=y*m:=by grind
  omega
theorem countC_root{m:Int}{l:List (Int×Int)}(h:∀p∈l,0<=p.1+p.2*m):1<=countC (m*m) l:=by
 have hsq:0<=m*m:=by rw[<- Int.natAbs_mul_self];omega
 have hg (s:Int) (hs:(s=1/\0<=m)\/(s = -1/\m<0)):goodS (m*m) s l=true:=by
  unfold goodS
  rw[List.all_eq_true]
  intro p hp
  simpa using sideZ_m hs (h p hp)
 unfold countC
 rw[if_neg (by omega)]
 rcases (show m<0\/0<=m by omega) with hm|hm
 ·have hne:¬m*m=0:=by
   have:=Int.mul_pos_of_neg_of_neg hm hm
   omega
  rw[if_neg hne,hg (-1) (.inr ⟨rfl,hm⟩),if_pos rfl]
  split<;>omega
 ·rw [hg 1 (.inl ⟨rfl, hm⟩), if_pos rfl]
  split
  ·omega
  ·split<;>omega
def Btw(a x b:Int):Prop:=min a b<=x/\x<=max a b
theorem btw_mul{x d:Int}(h:Btw 0 x d):0<=x*d/\x*d<=d*d/\0<=x*(d-x):=by
 unfold Btw at h
 rcases Int.le_total 0 d with h0|h0
 ·have h1 : 0 <= x := by omega
  have h2:x<=d:=by omega
  exact⟨Int.mul_nonneg h1 h0,Int.mul_le_mul_of_nonneg_right h2 h0,Int.mul_nonneg h1 (by omega)⟩
 ·have h1 : x <= 0 := by omega
  have h2:d<=x:=by omega
  have a:=Int.mul_nonneg (show 0 <= -x by omega) (show 0 <= -d by omega)
  have b:=Int.mul_le_mul_of_nonneg_right (show -x <= -d by omega) (show 0 <= -d by omega)
  have c:=Int.mul_nonneg (show 0 <= -x by omega) (show 0 <= -(d-x) by omega)
  have e1 : -x * -d=x*d:=by grind
  have e2 : -d * -d=d*d:=by grind
  have e3 : -x * -(d-x)=x*(d-x):=by grind
  omega
theorem btw_shift{a x b:Int}(h:Btw a x b):Btw 0 (x-a) (b-a):=by unfold Btw at *;omega
theorem side_not{a b:Int}(h:a*b<=0):¬0<sideI a*sideI b:=by
 rcases Int.lt_trichotomy a 0 with ha|ha|ha<;>rcases Int.lt_trichotomy b 0 with hb|hb|hb
 ·have:=Int.mul_pos_of_neg_of_neg ha hb;omega
 ·subst hb;simp[sideI]
 ·rw[sideI_neg ha,sideI_pos hb];decide
 ·subst ha;simp[sideI]
 ·subst ha;simp[sideI]
 ·subst ha;simp[sideI]
 ·rw[sideI_pos ha,sideI_neg hb];decide
 ·subst hb;simp[sideI]
 ·have:=Int.mul_pos ha hb;omega
theorem nonneg_of_sq{p c:Int}(hc:c≠0)(h:0<=p*(c*c)):0<=p:=by
 have hcc:0<c*c:=by
  rcases Int.lt_or_gt_of_ne hc with h|h
  ·exact Int.mul_pos_of_neg_of_neg h h
  ·exact Int.mul_pos h h
 rcases (show p<0\/0<=p by omega) with hp|hp
 ·have:=Int.mul_neg_of_neg_of_pos hp hcc;omega
 ·exact hp
theorem zero_of_mul{p c:Int}(hc:c≠0)(h:p*c=0):p=0:=by
 rcases Int.mul_eq_zero.1 h with h|h
 ·exact h
 ·exact absurd h hc
theorem cut_prod{X Y dx dy gx gy:Int}(hX:Btw 0 X dx)(hY:Btw 0 Y dy)(hc:X*dy=Y*dx)(hd:¬(dx=0/\dy=0)) :
  0<=(gx*X+gy*Y)*(gx*(dx-X)+gy*(dy-Y)):=by
 have h1:=(btw_mul hX).2.2
 have h2:=(btw_mul hY).2.2
 have hg:0<=(gx*dx+gy*dy)*(gx*dx+gy*dy):=by rw[<- Int.natAbs_mul_self];omega
 by_cases h:dx=0
 ·have hy : dy ≠ 0 := fun e => hd ⟨h, e⟩
  refine nonneg_of_sq hy ?_
  have e:(gx*X+gy*Y)*(gx*(dx-X)+gy*(dy-Y))*(dy*dy)=Y*(dy-Y)*((gx*dx+gy*dy)*(gx*dx+gy*dy)):=by grind
  rw[e]
  exact Int.mul_nonneg h2 hg
 ·refine nonneg_of_sq h ?_
  have e:(gx*X+gy*Y)*(gx*(dx-X)+gy*(dy-Y))*(dx*dx)=X*(dx-X)*((gx*dx+gy*dy)*(gx*dx+gy*dy)):=by grind
  rw[e]
  exact Int.mul_nonneg h1 hg
end Go.Proofs.YtceemiodpccbhaaGreat
