import Derived.Test.YtceemiodpccbhaaGreatP33
import Derived.Deep.Upon
set_option linter.unusedVariables false
set_option linter.unusedSimpArgs false

namespace Go.Proofs.YtceemiodpccbhaaGreat
open Go.RowKit

set_option maxHeartbeats 4000000
set_option maxRecDepth 100000
section
attribute [local go_sem] Gives givesU
theorem cpy_at(d:List Nat)(p:Option Addr)(l c:Nat)(W:World)(h:Row W p c d)(hl:l=d.length)(h8:d.length<=8) :
  ∃p' c' w',(Builtin.append_ #[34,34] 34 #[.slice (some ⟨W.heap.size,0,none⟩) 0 0,.slice p l c]).run Tryz.prog (W.alloc (.cells #[] 140))=.ok (.slice p' l c') w'/\Row w' p' c' d/\Ext W w':=by
 obtain⟨i,hi,hz0,hz1,hz2⟩:=info_parts info32
 have hT:=Tryz.underlying34
 subst hl
 rcases Nat.eq_zero_or_pos d.length with h0|h0
 ·have hd : d = [] := List.eq_nil_of_length_eq_zero h0
  subst hd
  have hs:Src Tryz.prog i.size 34 (.slice p ([]:List Nat).length c) 0 [] (W.alloc (.cells #[] 140)):=by
   cases p with
   | none=>exact Src.ofNil _ hT c
   | some a=>exact Src.ofSlice _ hT a 0 c [] (by simp) (fun j u hj=>by simp at hj) (fun u hu=>by cases hu)
  refine⟨some ⟨W.heap.size,0,none⟩,0,_,run_append_nothing _ _ _ _ _ i hT hi _ 0 0 (Nat.le_refl _) _ hs,⟨by simp,by omega,Dig.nil,fun g=>absurd g (by simp)⟩,bxx⟩
 ·obtain ⟨b, o, rfl, hb, hc⟩ := h.at h0
  have hW:Ext W (W.alloc (.cells #[] 140)):=bxx
  obtain⟨v',w',hr,hown,hgr,_⟩:=run_append_own (P:=Tryz.prog) (W.alloc (.cells #[] 140)) W.heap.size 34 34 140 i (.int .u32 0) 1 4 hT hi hz0 hz1 hz2 rfl (by decide) _ _ _ (World.ownsRow_made W #[] 0 (Nat.le_refl _) (by decide) rfl) ⟨b,o,none⟩ d.length c (enc d) (by simp[enc]) (row_news (fun i hi=>cell_later hW (hc i hi))) (enc_one d) (by unfold maxLen;omega) (by omega) (by simp)
  obtain⟨p',c',rfl,hrow,hnew⟩:=row_of_owns (d:=d) (by simpa using hown) h.dig
  exact⟨p',c',w',hr,hrow,((Below.refl _ _).alloc (Nat.le_refl _) _).grown hgr (by simp) (fun k hk=>by simp[Value.ownBlock] at hk;omega)⟩
theorem ex_append{P:Program}{o:Oper}{a:Act}{w w':World}{s x:Operand}{t:TypeId}{u v z:Value}(ho:o.op=.call { callee:=.builtin .append,args:=#[s,x],argTypes:=#[t,t] })(hs:a.eval s=u)(hx:a.eval x=v)
  (hr:(Builtin.append_ #[t,t] o.type #[u,v]).run P w=.ok z w'):(execOp a.eval o).run P w=.ok (.value z) w':=by
 unfold execOp
 simp only[ho,resolve,invoke,builtin,Sem.run_bind,Sem.run_pure,Result.andThen_ok,List.map_toArray,List.map_cons,List.map_nil,hs,hx,hr]
theorem ex_field{P:Program}{o:Oper}{a:Act}{w:World}{t ft:TypeId}{x:Operand}{f g j k n:Nat}(ho:o.op=.fieldAddr t x f)(hx:a.eval x=.pointer (some ⟨g,j,none⟩))(hf:fld P t f=some (k,ft))(hn:szT P ft=some (n+1)) :
  (execOp a.eval o).run P w=.ok (.value (.pointer (some ⟨g,j+k,none⟩))) w:=by
 obtain⟨fs,fd,f1,f2,f3,f4⟩:=fld_und hf
 refine exec_val (m:=Instr.fieldAt t (a.eval x) f) (by unfold execOp;rw[ho]) ?_
 rw[hx]
 simp only[Instr.fieldAt,Sem.run_bind,run_underlying f1,Result.andThen_ok,f2,Instr.sureAddr,Sem.run_pure,fieldPlace,f4,run_sizeT hn,if_neg (Nat.succ_ne_zero n),f3,Addr.add_mid]
theorem ex_slice0{o:Oper}{a:Act}{w:World}(ho:o.op=.buildSlice 34 0 #[]):(execOp a.eval o).run Tryz.prog w=.ok (.value (.slice (some ⟨w.heap.size,0,none⟩) 0 0)) (w.alloc (.cells #[] 140)):=by
 obtain⟨i,hi,hz0,hz1,hz2⟩:=info_parts info32
 refine exec_val (m:=Instr.buildSlice 34 0 ((#[]:Array (Nat×Operand)).map fun (i,x)=>(i,a.eval x))) (by unfold execOp;rw[ho]) ?_
 simp[Instr.buildSlice,run_underlying Tryz.underlying34,sizeOf,typeInfo,zeroValue,hi,hz0,newRow,Instr.fill]
 rw[show Array.range 0=#[] from Array.eq_empty_of_size_eq_zero (by simp),Array.map_empty]
noncomputable def p2R(id:Nat):List Oper:=match lpC 84 (2*id+1) with | .region _ ops _=>ops.toList|_=>[]
noncomputable def p2O (id i : Nat) : Oper := ((p2R id)[i]?).getD ⟨none, .move (.tmp 0), 0, "", #[], none⟩
def zRt0:List It:=[.k 0,.k 0,.b false,.v (.slice none 0 0),.b false,.v (.slice none 0 0)]
def pl2L(z s:Int)(x y:It):List It:=[.i z lim,.i s lim,x,y]
def pl2D(z s:Int)(x y:It):Ds:=⟨[(2,.eq (ptrN 0)),(4,.eq (ptrN 1))],[some ⟨38,pl2L z s x y⟩,some ⟨38,zRt0⟩]⟩
theorem put_y(a:Act)(d n:Nat)(V:Value)(h:a.tmps.size=n)(hd:d<n):∃b:Act,a.put (some d) V=b/\b.tmps.size=n/\b.tmps.getD d undef=V/\(∀t,t≠d->b.tmps.getD t undef=a.tmps.getD t undef)/\b.defers=a.defers :=
 ⟨_,rfl,by rw[put_size,h],put_lt (by omega),fun t g=>put_ne (Ne.symm g),rfl⟩
theorem pl2_rep{V W:World}{r:Nat->Nat}{K:Nat}{z s:Int}{x y:It}{n m:Bool}{p q:Option Addr}{l c k d:Nat}(i1:z.natAbs<=lim/\I64 z)(i2:s.natAbs<=lim/\I64 s)(nx:RepI V W r K x [.bool n,.slice p l c])(ny:RepI V W r K y [.bool m,.slice q k d]):RepL V W r K (pl2L z s x y) [.int .i64 z,.int .i64 s,.bool n,.slice p l c,.bool m,.slice q k d] :=
 ⟨[_],_,rfl,⟨rfl,i1⟩,[_],_,rfl,⟨rfl,i2⟩,[_,_],_,rfl,nx,[_,_],[],rfl,ny,rfl⟩
theorem cpy_6(z s:Int)(x y:Nm)(hl:x.d.length<=8):OrcOk Tryz.prog (lpC 84 (2*6+1)) ⟨nF 84,pl2D z s (.o (.num x)) (.o (.num y)),.nm,pl2D z s (.d (.num x)) (.o (.num y))⟩:=by
 intro V a w Q hJ hQ
 obtain⟨r,cm,⟨hM,hd⟩,hsz,hT⟩:=hJ
 have hn:a.tmps.size=45:=hsz.trans (by kernel_rfl)
 have t2:RepV V w r 2 (ptrN 0) (a.tmps.getD 2 undef):=hT 2 (.one (ptrN 0)) (by kernel_rfl)
 have e2:a.tmps.getD 2 undef=.pointer (some ⟨r 0,0,none⟩):=by simpa using t2.scal.2
 have t4:RepV V w r 2 (ptrN 1) (a.tmps.getD 4 undef):=hT 4 (.one (ptrN 1)) (by kernel_rfl)
 have e4:a.tmps.getD 4 undef=.pointer (some ⟨r 1,0,none⟩):=by simpa using t4.scal.2
 obtain⟨h0,ca,dd,hc,rl,hnd⟩:=hM.blk 0 ⟨38,pl2L z s (.o (.num x)) (.o (.num y))⟩ (by kernel_rfl)
 obtain⟨_,_,rfl,⟨rfl,i1⟩,_,_,rfl,⟨rfl,i2⟩,_,_,rfl,⟨n,p,l,c,rfl,nx⟩,_,_,rfl,⟨m,q,k,d,rfl,ny⟩,rfl⟩:=rl
 have hc':cm 0=[.int .i64 z,.int .i64 s,.bool n,.slice p l c,.bool m,.slice q k d]++dd:=hc
 have nX:=nx
 replace nx:=nx.ext hM.ext
 obtain⟨p',c',w',hrun,row,hx⟩:=cpy_at x.d p l c w nx.2.2 nx.2.1 hl
 have x0:Ext w (w.alloc (.cells #[] 140)):=below_alloc _ _
 have g0:=heap_ext h0 x0
 have g1:=heap_ext h0 hx
 refine wp_as (c':=Code.region 6 (p2R 6).toArray false) (by kernel_rfl) ?_
 refine wp_region_lit (WpS.wp ?_)
 rw[show p2R 6=[p2O 6 0,p2O 6 1,p2O 6 2,p2O 6 3,p2O 6 4,p2O 6 5,p2O 6 6,p2O 6 7] by kernel_rfl]
 have d0:(p2O 6 0).dst=some 30:=by kernel_rfl
 have d1:(p2O 6 1).dst=some 31:=by kernel_rfl
 have d2:(p2O 6 2).dst=some 32:=by kernel_rfl
 have d3:(p2O 6 3).dst=some 33:=by kernel_rfl
 have d4:(p2O 6 4).dst=some 34:=by kernel_rfl
 have d5:(p2O 6 5).dst=some 35:=by kernel_rfl
 have d6:(p2O 6 6).dst=some 36:=by kernel_rfl
 have d7:(p2O 6 7).dst=none:=by kernel_rfl
 refine wpS_val (x:=.slice (some ⟨w.heap.size,0,none⟩) 0 0) (W:=w.alloc (.cells #[] 140)) (by kernel_rfl) (ex_slice0 (by kernel_rfl)) ?_
 rw[d0]
 obtain⟨a1,q1,z1,g1',f1,u1⟩:=put_y a 30 45 (.slice (some ⟨w.heap.size,0,none⟩) 0 0) hn (by decide)
 rw[q1]
 refine wpS_val (x:=.pointer (some ⟨r 0,2,none⟩)) (by kernel_rfl) (ex_field (t:=38) (ft:=36) (f:=2) (x:=.tmp 2) (j:=0) (k:=2) (n:=1) (by kernel_rfl) ((f1 2 (by decide)).trans e2) (by kernel_rfl) (by kernel_rfl)) ?_
 rw[d1]
 obtain⟨a2,q2,z2,g2',f2,u2⟩:=put_y a1 31 45 (.pointer (some ⟨r 0,2,none⟩)) z1 (by decide)
 rw[q2]
 refine wpS_val (x:=.pointer (some ⟨r 0,3,none⟩)) (by kernel_rfl) (ex_field (t:=36) (ft:=34) (f:=1) (x:=.tmp 31) (j:=2) (k:=1) (n:=0) (by kernel_rfl) g2' (by kernel_rfl) (by kernel_rfl)) ?_
 rw[d2]
 obtain⟨a3,q3,z3,g3',f3,u3⟩:=put_y a2 32 45 (.pointer (some ⟨r 0,3,none⟩)) z2 (by decide)
 rw[q3]
 refine wpS_val (x:=.slice p l c) (W:=w.alloc (.cells #[] 140)) (by kernel_rfl) ?_ ?_
 ·have := ex_load (P := Tryz.prog) (o := p2O 6 3) (a := a3) (w := w.alloc (.cells #[] 140)) (t := 34) (x := .tmp 32) (j := 3) (n := 1) (b := false) (cs := cm 0) (by kernel_rfl) g3' g0 (by kernel_rfl) (by kernel_rfl) (by rw [hc']; simp) (fun _ => rfl)
  rw[hc'] at this
  exact this
 rw[d3]
 obtain⟨a4,q4,z4,g4',f4,u4⟩:=put_y a3 33 45 (.slice p l c) z3 (by decide)
 rw[q4]
 refine wpS_val (x:=.slice p' l c') (W:=w') (by kernel_rfl) (ex_append (s:=.tmp 30) (x:=.tmp 33) (t:=34) (by kernel_rfl) ((((f4 30 (by decide)).trans (f3 30 (by decide))).trans (f2 30 (by decide))).trans g1') g4' hrun) ?_
 rw[d4]
 obtain⟨a5,q5,z5,g5',f5,u5⟩:=put_y a4 34 45 (.slice p' l c') z4 (by decide)
 rw[q5]
 refine wpS_val (x:=.pointer (some ⟨r 0,2,none⟩)) (by kernel_rfl) (ex_field (t:=38) (ft:=36) (f:=2) (x:=.tmp 2) (j:=0) (k:=2) (n:=1) (by kernel_rfl) ((((((f5 2 (by decide)).trans (f4 2 (by decide))).trans (f3 2 (by decide))).trans (f2 2 (by decide))).trans (f1 2 (by decide))).trans e2) (by kernel_rfl) (by kernel_rfl)) ?_
 rw[d5]
 obtain⟨a6,q6,z6,g6',f6,u6⟩:=put_y a5 35 45 (.pointer (some ⟨r 0,2,none⟩)) z5 (by decide)
 rw[q6]
 refine wpS_val (x:=.pointer (some ⟨r 0,3,none⟩)) (by kernel_rfl) (ex_field (t:=36) (ft:=34) (f:=1) (x:=.tmp 35) (j:=2) (k:=1) (n:=0) (by kernel_rfl) g6' (by kernel_rfl) (by kernel_rfl)) ?_
 rw[d6]
 obtain⟨a7,q7,z7,g7',f7,u7⟩:=put_y a6 36 45 (.pointer (some ⟨r 0,3,none⟩)) z6 (by decide)
 rw[q7]
 obtain⟨o1,o2⟩:=onlyB_setRow (cs':=((cm 0).take 3++([Value.slice p' l c']++(cm 0).drop (3+1))).toArray) g1
 have ec:(cm 0).take 3++([Value.slice p' l c']++(cm 0).drop (3+1))=[.int .i64 z,.int .i64 s,.bool n,.slice p' l c',.bool m,.slice q k d]++dd:=by rw[hc'];rfl
 refine wpS_skip (W:=w'.setRow (r 0) ((cm 0).take 3++([Value.slice p' l c']++(cm 0).drop (3+1))).toArray) (by kernel_rfl) (ex_store (t:=34) (vs:=[.slice p' l c']) (x:=.tmp 36) (y:=.tmp 34) (n:=1) (by kernel_rfl) g7' g1 (by rw[show a7.eval (.tmp 34)=.slice p' l c' from (((f7 34 (by decide)).trans (f6 34 (by decide))).trans g5')];rfl) (by kernel_rfl) rfl (by rw[hc'];simp) (by simp[Value.oneCell'])) ?_
 rw[d7,put_none]
 have hM1:=(hM.step hx).set (b:=0) (x:=⟨38,pl2L z s (.o (.num x)) (.o (.num y))⟩) (l:=pl2L z s (.d (.num x)) (.o (.num y))) (c:=[.int .i64 z,.int .i64 s,.bool n,.slice p' l c',.bool m,.slice q k d]++dd) (by kernel_rfl) ⟨[.int .i64 z,.int .i64 s,.bool n,.slice p' l c',.bool m,.slice q k d],dd,rfl,pl2_rep i1 i2 ⟨_,_,_,_,rfl,nx.1,nx.2.1,row⟩ ⟨_,_,_,_,rfl,ny⟩,hnd⟩ o1 (by rw[<- ec];exact o2) (by rw[hc'];rfl)
 refine hQ _ _ ⟨r,_,⟨hM1,u7.trans (u6.trans (u5.trans (u4.trans (u3.trans (u2.trans (u1.trans hd))))))⟩,z7,fun i v hv=>?_⟩
 rcases Tr.sets_get (Tm.get_lt hv).2 with rfl|⟨x',hx',rfl⟩
 ·trivial
 ·simp only [pl2D, List.mem_cons, List.not_mem_nil, or_false, Prod.mk.injEq] at hx'
  rcases hx' with⟨rfl,rfl⟩|⟨rfl,rfl⟩
  ·show RepV _ _ _ _ (ptrN 0) _
   rw[((((((((f7 2 (by decide)).trans (f6 2 (by decide))).trans (f5 2 (by decide))).trans (f4 2 (by decide))).trans (f3 2 (by decide))).trans (f2 2 (by decide))).trans (f1 2 (by decide))).trans e2)]
   exact RepI.val (i:=.p 0 0) ⟨(show 0<2 by decide),rfl⟩
  ·show RepV _ _ _ _ (ptrN 1) _
   rw[((((((((f7 4 (by decide)).trans (f6 4 (by decide))).trans (f5 4 (by decide))).trans (f4 4 (by decide))).trans (f3 4 (by decide))).trans (f2 4 (by decide))).trans (f1 4 (by decide))).trans e4)]
   exact RepI.val (i:=.p 1 0) ⟨(show 1<2 by decide),rfl⟩
theorem cpy_7(z s:Int)(x y:Nm)(hl:y.d.length<=8):OrcOk Tryz.prog (lpC 84 (2*7+1)) ⟨nF 84,pl2D z s (.d (.num x)) (.o (.num y)),.nm,pl2D z s (.d (.num x)) (.d (.num y))⟩:=by
 intro V a w Q hJ hQ
 obtain⟨r,cm,⟨hM,hd⟩,hsz,hT⟩:=hJ
 have hn:a.tmps.size=45:=hsz.trans (by kernel_rfl)
 have t2:RepV V w r 2 (ptrN 0) (a.tmps.getD 2 undef):=hT 2 (.one (ptrN 0)) (by kernel_rfl)
 have e2:a.tmps.getD 2 undef=.pointer (some ⟨r 0,0,none⟩):=by simpa using t2.scal.2
 have t4:RepV V w r 2 (ptrN 1) (a.tmps.getD 4 undef):=hT 4 (.one (ptrN 1)) (by kernel_rfl)
 have e4:a.tmps.getD 4 undef=.pointer (some ⟨r 1,0,none⟩):=by simpa using t4.scal.2
 obtain⟨h0,ca,dd,hc,rl,hnd⟩:=hM.blk 0 ⟨38,pl2L z s (.d (.num x)) (.o (.num y))⟩ (by kernel_rfl)
 obtain⟨_,_,rfl,⟨rfl,i1⟩,_,_,rfl,⟨rfl,i2⟩,_,_,rfl,⟨n,p,l,c,rfl,nx⟩,_,_,rfl,⟨m,q,k,d,rfl,ny⟩,rfl⟩:=rl
 have hc':cm 0=[.int .i64 z,.int .i64 s,.bool n,.slice p l c,.bool m,.slice q k d]++dd:=hc
 have nX:=ny
 replace ny:=ny.ext hM.ext
 obtain⟨p',c',w',hrun,row,hx⟩:=cpy_at y.d q k d w ny.2.2 ny.2.1 hl
 have x0:Ext w (w.alloc (.cells #[] 140)):=below_alloc _ _
 have g0:=heap_ext h0 x0
 have g1:=heap_ext h0 hx
 refine wp_as (c':=Code.region 7 (p2R 7).toArray false) (by kernel_rfl) ?_
 refine wp_region_lit (WpS.wp ?_)
 rw[show p2R 7=[p2O 7 0,p2O 7 1,p2O 7 2,p2O 7 3,p2O 7 4,p2O 7 5,p2O 7 6,p2O 7 7] by kernel_rfl]
 have d0:(p2O 7 0).dst=some 37:=by kernel_rfl
 have d1:(p2O 7 1).dst=some 38:=by kernel_rfl
 have d2:(p2O 7 2).dst=some 39:=by kernel_rfl
 have d3:(p2O 7 3).dst=some 40:=by kernel_rfl
 have d4:(p2O 7 4).dst=some 41:=by kernel_rfl
 have d5:(p2O 7 5).dst=some 42:=by kernel_rfl
 have d6:(p2O 7 6).dst=some 43:=by kernel_rfl
 have d7:(p2O 7 7).dst=none:=by kernel_rfl
 refine wpS_val (x:=.slice (some ⟨w.heap.size,0,none⟩) 0 0) (W:=w.alloc (.cells #[] 140)) (by kernel_rfl) (ex_slice0 (by kernel_rfl)) ?_
 rw[d0]
 obtain⟨a1,q1,z1,g1',f1,u1⟩:=put_y a 37 45 (.slice (some ⟨w.heap.size,0,none⟩) 0 0) hn (by decide)
 rw[q1]
 refine wpS_val (x:=.pointer (some ⟨r 0,4,none⟩)) (by kernel_rfl) (ex_field (t:=38) (ft:=36) (f:=3) (x:=.tmp 2) (j:=0) (k:=4) (n:=1) (by kernel_rfl) ((f1 2 (by decide)).trans e2) (by kernel_rfl) (by kernel_rfl)) ?_
 rw[d1]
 obtain⟨a2,q2,z2,g2',f2,u2⟩:=put_y a1 38 45 (.pointer (some ⟨r 0,4,none⟩)) z1 (by decide)
 rw[q2]
 refine wpS_val (x:=.pointer (some ⟨r 0,5,none⟩)) (by kernel_rfl) (ex_field (t:=36) (ft:=34) (f:=1) (x:=.tmp 38) (j:=4) (k:=1) (n:=0) (by kernel_rfl) g2' (by kernel_rfl) (by kernel_rfl)) ?_
 rw[d2]
 obtain⟨a3,q3,z3,g3',f3,u3⟩:=put_y a2 39 45 (.pointer (some ⟨r 0,5,none⟩)) z2 (by decide)
 rw[q3]
 refine wpS_val (x:=.slice q k d) (W:=w.alloc (.cells #[] 140)) (by kernel_rfl) ?_ ?_
 ·have := ex_load (P := Tryz.prog) (o := p2O 7 3) (a := a3) (w := w.alloc (.cells #[] 140)) (t := 34) (x := .tmp 39) (j := 5) (n := 1) (b := false) (cs := cm 0) (by kernel_rfl) g3' g0 (by kernel_rfl) (by kernel_rfl) (by rw [hc']; simp) (fun _ => rfl)
  rw[hc'] at this
  exact this
 rw[d3]
 obtain⟨a4,q4,z4,g4',f4,u4⟩:=put_y a3 40 45 (.slice q k d) z3 (by decide)
 rw[q4]
 refine wpS_val (x:=.slice p' k c') (W:=w') (by kernel_rfl) (ex_append (s:=.tmp 37) (x:=.tmp 40) (t:=34) (by kernel_rfl) ((((f4 37 (by decide)).trans (f3 37 (by decide))).trans (f2 37 (by decide))).trans g1') g4' hrun) ?_
 rw[d4]
 obtain⟨a5,q5,z5,g5',f5,u5⟩:=put_y a4 41 45 (.slice p' k c') z4 (by decide)
 rw[q5]
 refine wpS_val (x:=.pointer (some ⟨r 0,4,none⟩)) (by kernel_rfl) (ex_field (t:=38) (ft:=36) (f:=3) (x:=.tmp 2) (j:=0) (k:=4) (n:=1) (by kernel_rfl) ((((((f5 2 (by decide)).trans (f4 2 (by decide))).trans (f3 2 (by decide))).trans (f2 2 (by decide))).trans (f1 2 (by decide))).trans e2) (by kernel_rfl) (by kernel_rfl)) ?_
 rw[d5]
 obtain⟨a6,q6,z6,g6',f6,u6⟩:=put_y a5 42 45 (.pointer (some ⟨r 0,4,none⟩)) z5 (by decide)
 rw[q6]
 refine wpS_val (x:=.pointer (some ⟨r 0,5,none⟩)) (by kernel_rfl) (ex_field (t:=36) (ft:=34) (f:=1) (x:=.tmp 42) (j:=4) (k:=1) (n:=0) (by kernel_rfl) g6' (by kernel_rfl) (by kernel_rfl)) ?_
 rw[d6]
 obtain⟨a7,q7,z7,g7',f7,u7⟩:=put_y a6 43 45 (.pointer (some ⟨r 0,5,none⟩)) z6 (by decide)
 rw[q7]
 obtain⟨o1,o2⟩:=onlyB_setRow (cs':=((cm 0).take 5++([Value.slice p' k c']++(cm 0).drop (5+1))).toArray) g1
 have ec:(cm 0).take 5++([Value.slice p' k c']++(cm 0).drop (5+1))=[.int .i64 z,.int .i64 s,.bool n,.slice p l c,.bool m,.slice p' k c']++dd:=by rw[hc'];rfl
 refine wpS_skip (W:=w'.setRow (r 0) ((cm 0).take 5++([Value.slice p' k c']++(cm 0).drop (5+1))).toArray) (by kernel_rfl) (ex_store (t:=34) (vs:=[.slice p' k c']) (x:=.tmp 43) (y:=.tmp 41) (n:=1) (by kernel_rfl) g7' g1 (by rw[show a7.eval (.tmp 41)=.slice p' k c' from (((f7 41 (by decide)).trans (f6 41 (by decide))).trans g5')];rfl) (by kernel_rfl) rfl (by rw[hc'];simp) (by simp[Value.oneCell'])) ?_
 rw[d7,put_none]
 have hM1:=(hM.step hx).set (b:=0) (x:=⟨38,pl2L z s (.d (.num x)) (.o (.num y))⟩) (l:=pl2L z s (.d (.num x)) (.d (.num y))) (c:=[.int .i64 z,.int .i64 s,.bool n,.slice p l c,.bool m,.slice p' k c']++dd) (by kernel_rfl) ⟨[.int .i64 z,.int .i64 s,.bool n,.slice p l c,.bool m,.slice p' k c'],dd,rfl,pl2_rep i1 i2 ⟨_,_,_,_,rfl,nx.ext hx⟩ ⟨_,_,_,_,rfl,ny.1,ny.2.1,row⟩,hnd⟩ o1 (by rw[<- ec];exact o2) (by rw[hc'];rfl)
 refine hQ _ _ ⟨r,_,⟨hM1,u7.trans (u6.trans (u5.trans (u4.trans (u3.trans (u2.trans (u1.trans hd))))))⟩,z7,fun i v hv=>?_⟩
 rcases Tr.sets_get (Tm.get_lt hv).2 with rfl|⟨x',hx',rfl⟩
 ·trivial
 ·simp only [pl2D, List.mem_cons, List.not_mem_nil, or_false, Prod.mk.injEq] at hx'
  rcases hx' with⟨rfl,rfl⟩|⟨rfl,rfl⟩
  ·show RepV _ _ _ _ (ptrN 0) _
   rw[((((((((f7 2 (by decide)).trans (f6 2 (by decide))).trans (f5 2 (by decide))).trans (f4 2 (by decide))).trans (f3 2 (by decide))).trans (f2 2 (by decide))).trans (f1 2 (by decide))).trans e2)]
   exact RepI.val (i:=.p 0 0) ⟨(show 0<2 by decide),rfl⟩
  ·show RepV _ _ _ _ (ptrN 1) _
   rw[((((((((f7 4 (by decide)).trans (f6 4 (by decide))).trans (f5 4 (by decide))).trans (f4 4 (by decide))).trans (f3 4 (by decide))).trans (f2 4 (by decide))).trans (f1 4 (by decide))).trans e4)]
   exact RepI.val (i:=.p 1 0) ⟨(show 1<2 by decide),rfl⟩
end

set_option maxRecDepth 100000
section
def d1ZInt:Con:=zIntC 140 r01_Int
def K2Pl:List Con:=[d1ZOf,d1ZAdd,d1ZInt,d02Right]
theorem r2Plus_no(a:Rt)(z:Int)(h:(a.right&&inI (a.add+z))=false):Fok Tryz.prog 84 [rtV a,inV z lim] (rtA (Rt.no,false)):=by
 cases h2:a.right with
 | false=>exact fok K2Pl [true] [pT (nt_T h2)] (by kernel_rfl)
 | true =>
  have h1:inI (a.add+z)=false:=by rw[h2,Bool.true_and] at h;exact h
  exact fok K2Pl [false,true] [pF (nt_F h2),pT (nt_T h1)] (by kernel_rfl)
def pSl:Pf:=⟨It.v (.slice none 0 0)=It.v (.slice none 0 0),rfl⟩
def pl2P(z s:Int)(x y:It):List Pf:=[pR (ptrN 0),pR (ptrN 1),⟨z=z,rfl⟩,⟨s=s,rfl⟩,⟨x=x,rfl⟩,⟨y=y,rfl⟩,pSl,pSl]
noncomputable def pl2T(z s:Int)(x y:Nm):List (Nat×Orc):=[(2*6+1,⟨nF 84,pl2D z s (.o (.num x)) (.o (.num y)),.nm,pl2D z s (.d (.num x)) (.o (.num y))⟩),(2*7+1,⟨nF 84,pl2D z s (.d (.num x)) (.o (.num y)),.nm,pl2D z s (.d (.num x)) (.d (.num y))⟩)]
theorem r2Plus_yes(a:Rt)(z:Int)(h1:inI (a.add+z)=true)(h2:a.right=true)(l1:a.n.d.length<=8)(l2:a.d.d.length<=8):Fok Tryz.prog 84 [rtV a,inV z lim] (rtA (⟨intV (a.add+z),a.s,a.n,a.d⟩,true)) :=
 fokL [] K2Pl (pl2T (intV (a.add+z)) a.s a.n a.d) (LT.cons (cpy_6 _ _ _ _ l1) (LT.cons (cpy_7 _ _ _ _ l2) LT.nil)) [false,false] ([pF (nt_F h2),pF (nt_F h1)]++pl2P (intV (a.add+z)) a.s (.o (.num a.n)) (.o (.num a.d))++pl2P (intV (a.add+z)) a.s (.d (.num a.n)) (.o (.num a.d))) (by kernel_rfl)
theorem r2Plus_fok(a:Rt)(hd:Dig a.n.d/\Dig a.d.d)(z:Int):Fok Tryz.prog 84 [rtV a,inV z lim] (rtA (plusR a z)):=by
 cases h:(a.right&&inI (a.add+z)) with
 | false =>
  rw[show plusR a z=(Rt.no,false) by unfold plusR;rw[h];rfl]
  exact r2Plus_no a z h
 | true =>
  have e:plusR a z=(⟨intV (a.add+z),a.s,a.n,a.d⟩,true):=by
   unfold plusR
   rw[h,if_pos rfl]
   unfold intV
   simp only[Bool.and_eq_true] at h
   rw[if_pos h.2]
  simp only[Bool.and_eq_true] at h
  have k:=(right_ok (a:=a) hd.1 hd.2 h.1).1
  rw[e]
  exact r2Plus_yes a z h.2 h.1 k.nl k.dl
def d02Plus:Con:=plusC 84 r2Plus_fok
theorem r2Whole_fok(z:Int):Fok Tryz.prog 141 [inV z lim] (.one (rtV ⟨z,0,zero,ofZ 1⟩)):=fok [d01Of] [] [] (by kernel_rfl)
def d02Whole:Con where
 f:=141
 g:=fun | [⟨false,[.i z _]⟩]=>some (.one (rtV ⟨z,0,zero,ofZ 1⟩),[])|_=>none
 ok:=by
  intro args res ps h hp
  split at h<;>cases h
  exact (r2Whole_fok _).pre fun W=>rvs_1 in_lim fun _ h=>h
theorem r2CmpInt_fok(a:Rt)(z:Int):Fok Tryz.prog 86 [rtV a,inV z lim] (.one (inV (cmpRt a ⟨z,0,zero,ofZ 1⟩) lim)):=fok [d02Cmp,d02Whole] [] [] (by kernel_rfl)
def d02CmpInt:Con where
 f:=86
 g:=fun | [⟨true,[.i a _,.i s _,.d (.num n),.d (.num d)]⟩,⟨false,[.i z _]⟩]=>some (.one (inV (cmpRt ⟨a,s,n,d⟩ ⟨z,0,zero,ofZ 1⟩) 1),[])|_=>none
 ok:=by
  intro args res ps h hp
  split at h<;>cases h
  rename_i a _ s _ n d z _
  exact ((r2CmpInt_fok ⟨a,s,n,d⟩ z).bd (cmpRt_bd _ _).1).pre fun W=>rvs_1 (fun _ h=>(rt_at h).1) (rvs_1 in_lim fun _ h=>h)
end

set_option maxHeartbeats 4000000
set_option maxRecDepth 100000
section
theorem r5(a:Act)(W:World)(s u:Sh)(p q:Option Addr)(c d B2 B3:Nat)(Q:Act->World->Prop)(hsz:a.tmps.size=94)(h2:a.tmps.getD 2 undef=ptrA B2)(h3:a.tmps.getD 3 undef=ptrA B3)(g2:W.heap[B2]? = some (.cells (shC3 s p c) 24))(g3:W.heap[B3]? = some (.cells (shC3 u q d) 24))
  (hQ:∀a' W',a'.tmps.size=94->a'.defers=a.defers->(∀t,38≠t->39≠t->40≠t->a'.tmps.getD t undef=a.tmps.getD t undef)->a'.tmps.getD 40 undef=.func (.func 90) #[] #[ptrA W.heap.size,ptrA (W.heap.size+1)]->Ext W W'->W'.cell? ⟨W.heap.size,1,none⟩=some (.slice p s.n c)->W'.cell? ⟨W.heap.size+1,1,none⟩=some (.slice q u.n d)->W.heap.size+1<W'.heap.size->Q a' W'):WpS Tryz.prog (gR 5).toArray Q (gR 5) a W:=by
 have es:gR 5=[gO 5 0,gO 5 1,gO 5 2]:=by kernel_rfl
 have d0:(gO 5 0).dst=some 38:=by kernel_rfl
 have d1:(gO 5 1).dst=some 39:=by kernel_rfl
 have d2:(gO 5 2).dst=some 40:=by kernel_rfl
 rw[show WpS Tryz.prog (gR 5).toArray Q (gR 5) a W=WpS Tryz.prog (gR 5).toArray Q [gO 5 0,gO 5 1,gO 5 2] a W by rw[<- es]]
 have v1:=ex_load (P:=Tryz.prog) (o:=gO 5 0) (a:=a) (w:=W) (t:=24) (x:=.tmp 2) (j:=0) (n:=3) (b:=true) (cs:=(shC3 s p c).toList) (by kernel_rfl) h2 (by simpa using g2) (by kernel_rfl) (by kernel_rfl) (by simp[shC3]) nofun
 refine wpS_val (x:=.agg (shC3 s p c)) (W:=W) (by kernel_rfl) v1 ?_
 rw[d0]
 have v2:=ex_load (P:=Tryz.prog) (o:=gO 5 1) (a:=a.put (some 38) (.agg (shC3 s p c))) (w:=W) (t:=24) (x:=.tmp 3) (j:=0) (n:=3) (b:=true) (cs:=(shC3 u q d).toList) (by kernel_rfl) (show (a.put (some 38) (.agg (shC3 s p c))).tmps.getD 3 undef=_ by rw[put_ne (show 38≠3 by decide)];exact h3) (by simpa using g3) (by kernel_rfl) (by kernel_rfl) (by simp[shC3]) nofun
 refine wpS_val (x:=.agg (shC3 u q d)) (W:=W) (by kernel_rfl) v2 ?_
 rw[d1]
 have en:(execOp ((a.put (some 38) (.agg (shC3 s p c))).put (some 39) (.agg (shC3 u q d))).eval (gO 5 2)).run Tryz.prog W=.ok (.enter 49 #[.agg (shC3 s p c),.agg (shC3 u q d)]) W:=by
  have:=run_enter (P:=Tryz.prog) (o:=gO 5 2) (a:=(a.put (some 38) (.agg (shC3 s p c))).put (some 39) (.agg (shC3 u q d))) (f:=49) (x:=.func 49) (caps:=#[]) (cl:={ callee:=.value (.func 49),args:=#[.tmp 38,.tmp 39],argTypes:=#[24,24] }) prog_nm Tryz.func49 rfl (by kernel_rfl) rfl rfl W
  rw[this]
  simp only[List.map_toArray,List.map_cons,List.map_nil]
  rw[show ((a.put (some 38) (.agg (shC3 s p c))).put (some 39) (.agg (shC3 u q d))).eval (.tmp 38)=.agg (shC3 s p c) from (put_ne (by decide)).trans (put_lt (by rw[hsz];decide)),show ((a.put (some 38) (.agg (shC3 s p c))).put (some 39) (.agg (shC3 u q d))).eval (.tmp 39)=.agg (shC3 u q d) from put_lt (by rw[put_size,hsz];decide)]
  rfl
 refine wpS_call (by kernel_rfl) en (gap_pairs s.k s.r u.k u.r p q s.n c u.n d W) (fun e W h=>⟨_,h.1⟩) fun v W1 ⟨e,hx1,c0,c1,hz⟩=>?_
 cases e
 rw[d2]
 exact hQ _ W1 (by rw[put_size,put_size,put_size,hsz]) rfl (fun t n1 n2 n3=>by rw[put_ne n3,put_ne n2,put_ne n1]) (put_lt (by rw[put_size,put_size,hsz];decide)) hx1 c0 c1 hz
theorem edL_one(e:Ed):∀v∈edL e,v.oneCell'=true:=fun v hv=>by
 simp only[edL,List.mem_cons,List.not_mem_nil,or_false] at hv
 rcases hv with rfl|rfl|rfl|rfl|rfl|rfl|rfl<;>rfl
theorem r6(a:Act)(W:World)(x:Ed)(Q:Act->World->Prop)(hsz:a.tmps.size=94)(h41:a.tmps.getD 41 undef=edA x)(hQ:∀W',Ext W W'->W.heap.size<W'.heap.size->W'.heap[W.heap.size]? = some (.cells (edL x).toArray 70)->Q (a.put (some 9) (ptrA W.heap.size)) W'):WpS Tryz.prog (gR 6).toArray Q (gR 6) a W:=by
 have es:gR 6=[gO 6 0,gO 6 1]:=by kernel_rfl
 rw[show WpS Tryz.prog (gR 6).toArray Q (gR 6) a W=WpS Tryz.prog (gR 6).toArray Q [gO 6 0,gO 6 1] a W by rw[<- es]]
 exact al_sto a W 70 7 9 41 (.agg #[.int .i64 0,.int .i64 0,.int .i64 0,.int .i64 0,.int .i64 0,.int .i64 0,.int .i64 0]) [.int .i64 0,.int .i64 0,.int .i64 0,.int .i64 0,.int .i64 0,.int .i64 0,.int .i64 0] (edL x) Q (by kernel_rfl) (by kernel_rfl) (by kernel_rfl) (by kernel_rfl) (by kernel_rfl) (by kernel_rfl) (by kernel_rfl) rfl (by kernel_rfl) rfl (by rw[hsz];decide) (by decide) (by rw[h41];rfl) rfl (edL_one x) hQ
theorem r7(a:Act)(W:World)(x:Ed)(Q:Act->World->Prop)(hsz:a.tmps.size=94)(h42:a.tmps.getD 42 undef=edA x)(hQ:∀W',Ext W W'->W.heap.size<W'.heap.size->W'.heap[W.heap.size]? = some (.cells (edL x).toArray 70)->Q (a.put (some 10) (ptrA W.heap.size)) W'):WpS Tryz.prog (gR 7).toArray Q (gR 7) a W:=by
 have es:gR 7=[gO 7 0,gO 7 1]:=by kernel_rfl
 rw[show WpS Tryz.prog (gR 7).toArray Q (gR 7) a W=WpS Tryz.prog (gR 7).toArray Q [gO 7 0,gO 7 1] a W by rw[<- es]]
 exact al_sto a W 70 7 10 42 (.agg #[.int .i64 0,.int .i64 0,.int .i64 0,.int .i64 0,.int .i64 0,.int .i64 0,.int .i64 0]) [.int .i64 0,.int .i64 0,.int .i64 0,.int .i64 0,.int .i64 0,.int .i64 0,.int .i64 0] (edL x) Q (by kernel_rfl) (by kernel_rfl) (by kernel_rfl) (by kernel_rfl) (by kernel_rfl) (by kernel_rfl) (by kernel_rfl) rfl (by kernel_rfl) rfl (by rw[hsz];decide) (by decide) (by rw[h42];rfl) rfl (edL_one x) hQ
end

set_option maxHeartbeats 4000000
set_option maxRecDepth 100000
section
open Go.RowKit Go.Shelf
theorem rowG_ed{W:World}{n:Nat}{e:Nat->Ed}{v:Value}(h:RowC (RepF W) W 7 n (fun i=>edI (e i)) v):RowC (RepG W) W 7 n (fun i=>edI (e i)) v:=by
 obtain⟨a,c,e1,h1,h2,h3⟩:=h
 refine⟨a,c,e1,h1,h2,fun i hi=>?_⟩
 obtain⟨g,o,xs,T,k1,k2,k3,cs,d,k4,k5⟩:=h3 i hi
 obtain⟨c0,d0,e0,a0,c1,d1,e1,a1,c2,d2,e2,a2,c3,d3,e3,a3,c4,d4,e4,a4,c5,d5,e5,a5,c6,d6,e6,a6,e7⟩:=k5
 exact⟨g,o,xs,T,k1,k2,k3,cs,d,k4,c0,d0,e0,a0,c1,d1,e1,a1,c2,d2,e2,a2,c3,d3,e3,a3,c4,d4,e4,a4,c5,d5,e5,a5,c6,d6,e6,a6,e7⟩
theorem ShAt.repF{W:World}{s:Sh}{p:Option Addr}{c:Nat}(h:ShAt W s p c):RepF W (shL s) [.int .i64 s.k,.slice p s.n c,.int .i64 s.r] :=
 ⟨[_],_,rfl,⟨rfl,i64_lim h.k,h.k⟩,[_],_,rfl,⟨_,rfl,rowG_ed h.row⟩,[_],[],rfl,⟨rfl,i64_lim h.r,h.r⟩,rfl⟩
theorem rest4_eq:rest4=.seq (.region 4 (gR 4).toArray false) (.seq (.label 0) (.seq (.seq (.region 5 (gR 5).toArray false) (.block 0 (.rangeFunc (.tmp 40) #[41,42] (.seq (.region 6 (gR 6).toArray false) (.region 7 (gR 7).toArray false)) rfBody))) rest12)):=by kernel_rfl
def ofG(a b:Sh):Gp:=if metB a b=true then metR a b else { gapK (cnd a b) (a.n*b.n) with d:=(plusR (gapK (cnd a b) (a.n*b.n)).d (sumR a b)).1 }
theorem kp_obj{X:List Nat}{W:World}{l:Nat}{o o':Obj}(h:W.heap[l]? = some o)(ho:o.isCells=false):KpP X W (W.putObj l o'):=(kp_put h ho).mono (fun x hx=>by simp at hx)
theorem rest4_ok(w W:World)(A:Act)(a b:Sh)(p q:Option Addr)(c d B6:Nat)(m0:Bool)(ha:ShAt w a p c)(hb:ShAt w b q d)(na:1<=a.n/\a.n<=1000)(nb:1<=b.n/\b.n<=1000)(hm:(aroB a b||aroB b a)=m0)(hsz:A.tmps.size=94)(hd:A.defers=[])
  (h2:A.tmps.getD 2 undef=ptrA w.heap.size) (h3:A.tmps.getD 3 undef=ptrA (w.heap.size+1)) (h4:A.tmps.getD 4 undef=ptrA (w.heap.size+1+1)) (h6:A.tmps.getD 6 undef=ptrA B6) (ps:PS w W a b p q c d) (g6:W.heap[B6]? = some (.cells #[.bool m0] 4)) (hB6:w.heap.size+1+1<B6) :
  rest4.wp Tryz.prog (Exit.noGoto (bodyPostM Fence.wide 6 Tryz.prog Tryz.f14 (OfPost w (ofG a b) true))) A W:=by
 rw[rest4_eq]
 refine wp_seq (wp_region_lit (WpS.wp (r4 A W _ hsz fun a1 W1 W2 s1 df1 of1 e7 e8 x1 x2 cs cl c7=>?_)))
 refine wp_seq (wp_label ?_)
 have x12:=Ext.step x1 x2
 have ps2:=ps.step x12
 refine wp_seq (wp_seq (wp_region_lit (WpS.wp (r5 a1 W2 a b p q c d w.heap.size (w.heap.size+1) _ s1 (by rw[of1 2 (by decide) (by decide) (by decide) (by decide) (by decide) (by decide)];exact h2) (by rw[of1 3 (by decide) (by decide) (by decide) (by decide) (by decide) (by decide)];exact h3) ps2.b2 ps2.b3 fun a2 W3 s2 df2 of2 e40 x3 c0 c1 hz=>?_))))
 have of12:∀t,35≠t->34≠t->36≠t->37≠t->7≠t->8≠t->38≠t->39≠t->40≠t->a2.tmps.getD t undef=A.tmps.getD t undef:=fun t n1 n2 n3 n4 n5 n6 n7 n8 n9=>by rw[of2 t n7 n8 n9,of1 t n1 n2 n3 n4 n5 n6]
 have x13:=Ext.step x12 x3
 have ps3:=ps.step x13
 have zW:B6<W.heap.size:=(Array.getElem?_eq_some_iff.1 g6).1
 have z1:W.heap.size+1<W1.heap.size:=(Array.getElem?_eq_some_iff.1 cs).1
 have z2:W1.heap.size<W2.heap.size:=(Array.getElem?_eq_some_iff.1 c7).1
 have z3:=x3.size
 have zw:=ps.ex.size
 have LI3:LI w W3 a b p q c d B6 W1.heap.size (W.heap.size+1) W.heap.size m0:=⟨ps3,heap_ext g6 x13,heap_ext c7 x3⟩
 have h0:RI w W3 a b p q c d B6 W1.heap.size (W.heap.size+1) W.heap.size m0 [] W3:=⟨LI3,heap_ext cs (Ext.step x2 x3),⟨zGp,heap_ext cl (Ext.step x2 x3),zGpC W3⟩,Nat.le_refl _,fun h=>absurd rfl h,fun i hi=>by cases hi⟩
 have bw:Below w.heap.size w W3:=ps3.ex
 have t2:a2.tmps.getD 2 undef=ptrA w.heap.size:=by rw[of12 2 (by decide) (by decide) (by decide) (by decide) (by decide) (by decide) (by decide) (by decide) (by decide)];exact h2
 have t3:a2.tmps.getD 3 undef=ptrA (w.heap.size+1):=by rw[of12 3 (by decide) (by decide) (by decide) (by decide) (by decide) (by decide) (by decide) (by decide) (by decide)];exact h3
 have t4:a2.tmps.getD 4 undef=ptrA (w.heap.size+1+1):=by rw[of12 4 (by decide) (by decide) (by decide) (by decide) (by decide) (by decide) (by decide) (by decide) (by decide)];exact h4
 have t6:a2.tmps.getD 6 undef=ptrA B6:=by rw[of12 6 (by decide) (by decide) (by decide) (by decide) (by decide) (by decide) (by decide) (by decide) (by decide)];exact h6
 have t7:a2.tmps.getD 7 undef=ptrA W1.heap.size:=by rw[of2 7 (by decide) (by decide) (by decide)];exact e7
 have t8:a2.tmps.getD 8 undef=lsF W.heap.size:=by rw[of2 8 (by decide) (by decide) (by decide)];exact e8
 have fin:∀(D:Nat) (W4:World) (met:Bool) (g:Gp),W3.heap.size<=D->W4.heap[D]? = some (.deferred (some []))->LI w W4 a b p q c d B6 W1.heap.size (W.heap.size+1) W.heap.size met->(met=false->GpAt W4 W.heap.size g)->(if met=true then (⟨true,zrt a b,Sp.no,Sp.no⟩:Gp) else { g with d:=(plusR g.d (sumR a b)).1 })=ofG a b ->
   rest12.wp Tryz.prog (Exit.noGoto (bodyPostM Fence.wide 6 Tryz.prog Tryz.f14 (OfPost w (ofG a b) true))) { a2 with defers:={ target:=.collected D,args:=#[] }::a2.defers } W4:=fun D W4 met g hD hK hl hg he=>by
  have f2:FpAt W4 w.heap.size (shL a):=.of (cs:=(shC3 a p c).toList) (by simpa using hl.ps.b2) (ha.ext hl.ps.ex).repF
  have f3:FpAt W4 (w.heap.size+1) (shL b):=.of (cs:=(shC3 b q d).toList) (by simpa using hl.ps.b3) (hb.ext hl.ps.ex).repF
  rw[<- he]
  exact rest12_ok w W4 _ a b met g w.heap.size (w.heap.size+1) (w.heap.size+1+1) B6 W.heap.size D s2 (by show _::a2.defers=_;rw[df2,df1,hd]) t2 t3 t4 t6 t8 f2 f3 hl.ps.b4 hl.b6 hg hl.ps.ex (by omega) hK (by omega)
 refine wp_block ?_
 refine (wpIn_wide (n:=6)).1 ?_
 refine wpIn_rangeFunc_ownH rfl (by omega) (gf:=90) (lb:=#[ptrA W2.heap.size,ptrA (W2.heap.size+1)]) e40 trivial (enters_of Tryz.func90 (by kernel_rfl) rfl)
  (pairs_stops 5 (by omega) [B6,W.heap.size+1,W.heap.size] a.n b.n (eT a) (eT b) w.heap.size W2.heap.size (W2.heap.size+1) c d p q W3 (by omega) hz (by omega) (fun x hx=>by simp only[List.mem_cons,List.not_mem_nil,or_false] at hx;omega) (fun h=>by simp only[List.mem_cons,List.not_mem_nil,or_false] at h;omega) (fun h=>by simp only[List.mem_cons,List.not_mem_nil,or_false] at h;omega) c0 c1 ((eT_row ha.edr).below bw) ((eT_row hb.edr).below bw) na.2 nb.2) KpP.trans
  (fun W l o o' _ ho hc _=>kp_obj ho hc)
  (Below.refl _ _) (fun _=>rfl)
  (RI w W3 a b p q c d B6 W1.heap.size (W.heap.size+1) W.heap.size m0) (XI w W3 a b p q c d B6 W1.heap.size (W.heap.size+1) W.heap.size m0)
  (RI.own w W3 a b p q c d B6 _ _ _ m0 (by omega)) (fun cc=>XI.own w W3 a b p q c d B6 _ _ _ m0 cc (by omega)) h0
  (AI W3 a b B6 W1.heap.size) (AI.own W3 a b B6 W1.heap.size) ?assign ?body ?done ?stop
 case assign =>
  rintro l pre x V K hI hK
  have e41:(edA (eT a (x/b.n)))=edA (eT a (x/b.n)):=rfl
  refine wpIn_seq (inR (by kernel_rfl) (r6 _ V (eT a (x/b.n)) _ ?_ ?_ fun V1 y1 v1 q1=>?_))
  ·simp[s2]
  ·simp[s2]
  refine inR (by kernel_rfl) (r7 _ V1 (eT b (x%b.n)) _ ?_ ?_ fun V2 y2 v2 q2=>?_)
  ·simp[s2,put_size]
  ·rw[put_ne (by decide)];simp[s2]
  have y12:=Ext.step y1 y2
  have hVs:=hI.sz
  refine hK _ _ (ButX.keeps (X:=[]) (.ext y12) _ (fun x hx=>by simp at hx)) (.ext y12) ?_ ?_
  ·exact⟨hI.li.kp (.ext y12) (Ext.step hI.li.ps.ex y12),heap_ext hI.bs y12,hI.bl.ext y12,Nat.le_trans hVs y12.size,hI.m,hI.sp⟩
  ·refine ⟨V.heap.size, V1.heap.size, ?_, ?_, ?_, ?_, ?_, ⟨by omega, by omega⟩, heap_ext q1 y2, q2⟩
   ·simp[s2,put_size]
   ·rw[put_ne (by decide),put_ne (by decide)];simpa using t6
   ·rw[put_ne (by decide),put_ne (by decide)];simpa using t7
   ·rw[put_ne (by decide)];exact put_lt (by simp[s2])
   ·exact put_lt (by simp[s2,put_size])
 case body =>
  rintro l pre x a' V hl hr hI hA hlen
  exact round_ok ha hb ⟨by omega,by omega,by omega,by omega,by omega⟩ l _ pre x a' V hI hA
 case done =>
  rintro D xs V hD rfl hI hK
  have hne:upT (a.n*b.n) ≠ []:=fun e=>by
   have:=congrArg List.length e
   rw[upT_len] at this
   have:=Nat.mul_pos (show 0<a.n by omega) (show 0<b.n by omega)
   simp at *;omega
  have m1:=hI.m hne
  subst m1
  have hs:allB (sep a b) (a.n*b.n)=true:=allB_t.2 fun k hk=>by rw[<- sepT_at hk];exact hI.sp k (by unfold upT;exact List.mem_range.2 hk)
  have hg:=gapS_up (cndT a b) (cnd a b) (a.n*b.n) fun i hi=>cndT_at hi
  have bl:=hI.bl
  rw[hg] at bl
  refine fin D V false _ hD hK hI.li (fun _=>bl) ?_
  unfold ofG metB
  rw[hm,hs]
  rfl
 case stop =>
  rintro D cc pre V hD ⟨k,hk,rfl⟩ hX hK
  obtain rfl:=hX.cc
  refine wpIn_exit ?_
  refine fin D V true Gp.no hD hK hX.li (fun h=>by cases h) ?_
  have:metB a b=true:=by
   unfold metB
   rcases hX.why with h|⟨i,hi,hs⟩
   ·rw[hm,h];rfl
   ·have hik : i < a.n * b.n := by unfold upT at hi; have := List.mem_range.1 hi; omega
    rw[sepT_at hik] at hs
    cases hA:allB (sep a b) (a.n*b.n) with
    | true=>rw[allB_t.1 hA i hik] at hs;cases hs
    | false=>simp
  unfold ofG
  rw[if_pos rfl,if_pos this]
  rfl
end

set_option maxHeartbeats 4000000
set_option maxRecDepth 100000
section
open Go.RowKit Go.Shelf
attribute [local go_sem] Oper.semAt_some
attribute [local go_sem] Gives givesU
theorem gapOf_yes(a b:Sh)(h1:chkS a=0)(h2:chkS b=0):Fok Tryz.prog 14 [shpV a,shpV b] (ofV (ofG a b,true)):=by
 intro w vals hv
 obtain⟨va,ha,_,rfl,hv1⟩:=rvs_cons.1 hv
 obtain⟨vb,hb,_,rfl,hv2⟩:=rvs_cons.1 hv1
 cases hv2
 obtain⟨p,c,rfl,Ha⟩:=ShAt.of ha
 obtain⟨q,d,rfl,Hb⟩:=ShAt.of hb
 have ga:=chk_good h1
 have gb:=chk_good h2
 have na:1<=a.n/\a.n<=1000:=⟨ga.n1,by have:=ga.n40;omega⟩
 have nb:1<=b.n/\b.n<=1000:=⟨gb.n1,by have:=gb.n40;omega⟩
 have C1:=Lib.hid (rightC' a Ha)
 have C2:=Lib.hid (rightC' b Hb)
 have C3:=Lib.hid (aroundC a b Ha Hb na.2 (by omega))
 have C4:=Lib.hid (aroundC b a Hb Ha nb.2 (by omega))
 have HA:=Lib.hid Ha
 have HB:=Lib.hid Hb
 have NA:=Lib.hid na
 have NB:=Lib.hid nb
 clear ha hb hv hv1 Ha Hb ga gb na nb
 have b1:(chkS a==0)=true:=by simpa using h1
 have b2:(chkS b==0)=true:=by simpa using h2
 clear h1 h2
 have z0:∀w:World,(w.alloc (.cells zGp.toArray 42)).heap[w.heap.size]? = some (.cells zGp.toArray 42):=fun w=>World.alloc_heap_new _ _
 have hx0:Ext w (((w.alloc (.cells #[.int .i64 a.k,.slice p a.n c,.int .i64 a.r] 24)).alloc (.cells #[.int .i64 b.k,.slice q b.n d,.int .i64 b.r] 24)).alloc (.cells zGp.toArray 42)):=bxx
 have P0:PS w (((w.alloc (.cells #[.int .i64 a.k,.slice p a.n c,.int .i64 a.r] 24)).alloc (.cells #[.int .i64 b.k,.slice q b.n d,.int .i64 b.r] 24)).alloc (.cells zGp.toArray 42)) a b p q c d :=
  ⟨hx0,(below_alloc _ _).trans ((below_alloc _ _).mono (by simp)) |> heap_ext (World.alloc_heap_new _ _),heap_ext (by have:=World.alloc_heap_new (w.alloc (.cells #[.int .i64 a.k,.slice p a.n c,.int .i64 a.r] 24)) (.cells #[.int .i64 b.k,.slice q b.n d,.int .i64 b.r] 24);simpa[shC3] using this) (below_alloc _ _),by have:=z0 ((w.alloc (.cells #[.int .i64 a.k,.slice p a.n c,.int .i64 a.r] 24)).alloc (.cells #[.int .i64 b.k,.slice q b.n d,.int .i64 b.r] 24));simpa using this⟩
 have HP:=Lib.hid P0
 clear hx0 z0 P0
 refine (callsIn_wide (n:=6)).1 ?_
 refine callsIn_of_wp_marks Tryz.func14 rfl trivial ?_ rfl
 refine wpIn_wide.2 ?_
 simp only[Tryz.ntmps14,List.size_toArray,List.length_cons,List.length_nil,Nat.reduceAdd,Nat.reduceSub,Array.replicate_succ,Array.replicate_zero,List.push_toArray,List.append_toArray,List.nil_append,List.cons_append]
 go_wp2_with fail
 go_step3
 go_wp2_with fail
 refine (C1.out _ HP.out.ex).mono ?_
 rintro e W1 ⟨rfl,hx1⟩
 rw[b1]
 have P1:=Lib.hid (HP.out.step hx1)
 clear hx1
 obtain⟨⟨k0,k1,k2⟩,k3,k4,k5⟩:=P1.out.cells
 have kz:=P1.out.sz
 go_wp2_with fail
 refine (C2.out _ P1.out.ex).mono ?_
 rintro e W2 ⟨rfl,hx2⟩
 rw[b2]
 have P2:=Lib.hid (P1.out.step hx2)
 clear hx2 k0 k1 k2 k3 k4 k5 kz
 obtain⟨⟨k0,k1,k2⟩,k3,k4,k5⟩:=P2.out.cells
 have kz:=P2.out.sz
 go_wp2_with fail
 rename_i K1 HK1 K2 HK2
 have FIN:=Lib.hid (fun (A:Act) (W:World) (m0:Bool) (B6:Nat) (hm:(aroB a b||aroB b a)=m0) hsz hd h2 h3 h4 h6 ps g6 hB6=>HK1 A W (wp_as (c':=rest4) (by kernel_rfl) (rest4_ok w W A a b p q c d B6 m0 HA.out HB.out NA.out NB.out hm hsz hd h2 h3 h4 h6 ps g6 hB6)))
 clear HK1
 cases h3:aroB a b with
 | true =>
  rw[h3] at C3 FIN
  refine (C3.out _ P2.out.ex).mono ?_
  rintro e W3 ⟨rfl,hx3⟩
  have P3:=Lib.hid (P2.out.step hx3)
  clear hx3 k0 k1 k2 k3 k4 k5 kz C1 C2 C3 C4
  go_wp2
  exact FIN.out _ _ true W3.heap.size rfl rfl rfl rfl rfl rfl rfl (P3.out.step (below_alloc _ _)) (World.alloc_heap_new _ _) P3.out.sz
 | false =>
  rw[h3] at C3 FIN
  refine (C3.out _ P2.out.ex).mono ?_
  rintro e W3 ⟨rfl,hx3⟩
  have P3:=Lib.hid (P2.out.step hx3)
  clear hx3 k0 k1 k2 k3 k4 k5 kz C1 C2 C3
  obtain⟨⟨k0,k1,k2⟩,k3,k4,k5⟩:=P3.out.cells
  have kz:=P3.out.sz
  go_wp2_with fail
  refine (C4.out _ P3.out.ex).mono ?_
  rintro e W4 ⟨rfl,hx4⟩
  have P4:=Lib.hid (P3.out.step hx4)
  clear hx4 k0 k1 k2 k3 k4 k5 kz C4
  go_wp2
  exact FIN.out _ _ (aroB b a) W4.heap.size rfl rfl rfl rfl rfl rfl rfl (P4.out.step (below_alloc _ _)) (World.alloc_heap_new _ _) P4.out.sz
theorem gapOf_fok(a b:Sh):Fok Tryz.prog 14 [shpV a,shpV b] (ofV (ofQ a b)):=by
 by_cases h:chkS a≠0\/chkS b≠0
 ·unfold ofQ
  rw[if_pos h]
  exact gapOf_no a b h
 ·unfold ofQ
  rw[if_neg h]
  have h1:chkS a=0:=Classical.not_not.1 fun g=>h (.inl g)
  have h2:chkS b=0:=Classical.not_not.1 fun g=>h (.inr g)
  have:=gapOf_yes a b h1 h2
  unfold ofG at this
  split at this
  ·rename_i hm
   rw[if_pos hm];exact this
  ·rename_i hm
   rw[if_neg hm];exact this
end
end Go.Proofs.YtceemiodpccbhaaGreat
