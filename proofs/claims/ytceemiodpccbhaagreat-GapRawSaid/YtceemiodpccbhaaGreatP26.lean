import Derived.Test.YtceemiodpccbhaaGreatP25
import Derived.ChangeKeysEq
set_option linter.unusedVariables false
set_option linter.unusedSimpArgs false

namespace Go.Proofs.YtceemiodpccbhaaGreat
open Go.RowKit

set_option maxRecDepth 100000
section
def errN(e:Nat->Ed):Nat->Int
 | 0=>0
 | n+1=>if errN e n=0 then checkZ (e n) else errN e n
theorem errN_0{e:Nat->Ed}:∀ {n:Nat},errN e n=0->∀k,k<n->checkZ (e k)=0
 | 0,_,k,hk=>absurd hk (Nat.not_lt_zero k)
 | n+1,h,k,hk=>by
  unfold errN at h
  split at h
  ·rename_i h1
   rcases Nat.lt_or_eq_of_le (Nat.le_of_lt_succ hk) with g|g
   ·exact errN_0 h1 k g
   ·rw[g];exact h
  ·rename_i h1;exact absurd h h1
theorem errN_n{e:Nat->Ed}:∀ {n:Nat},errN e n≠0->∃m,m<n/\errN e n=checkZ (e m)/\∀k,k<m->checkZ (e k)=0
 | 0,h=>absurd rfl h
 | n+1,h=>by
  unfold errN at h ⊢
  by_cases h1:errN e n=0
  ·rw [if_pos h1] at h ⊢
   exact⟨n,by omega,rfl,errN_0 h1⟩
  ·rw [if_neg h1] at h ⊢
   obtain⟨m,k1,k2⟩:=errN_n h1
   exact⟨m,by omega,k2⟩
def clsB(s:Sh):Bool:=(s.e 0).ax==(s.e (s.n-1)).bx&&(s.e 0).ay==(s.e (s.n-1)).by'
def fewS(s:Sh):Int:=if s.k=1 then 1 else 2
def chkS(s:Sh):Int :=
 if s.k≠1/\s.k≠2 then 12 else if (s.n:Int)<fewS s then 12 else if 40<s.n then 2 else if errN s.e s.n≠0 then errN s.e s.n else if allB (jn s.e) (s.n-1)=false\/(s.k=2/\clsB s=false) then 12 else if s.k=2/\s.r≠0\/s.r<0\/4194304<s.r then 3 else 0
def shB(s:Sh):List (Option Mb):=[some ⟨24,(shpV s).l⟩]
def ptr0:V1:=⟨false,[.p 0 0]⟩
def pSh(s:Sh):List Pf:=[⟨s.k=s.k,rfl⟩,⟨roE s.n s.e=roE s.n s.e,rfl⟩,⟨s.r=s.r,rfl⟩]
def pEd(s:Sh):Pf:=⟨∀i,i<s.n->isEd (edI (s.e i))=true,fun _ _=>rfl⟩
def K9C:List Con:=[d06Chk,dChain]
def c9D(s:Sh)(j:Nat):Ds:=⟨[(4,.le (inV (j:Int) 2000)),(1,.eq ptr0)],shB s⟩
theorem lt_tt{a b:Int}(h:a<b):decide (a<b)=true:=by simpa using h
theorem lt_ff{a b:Int}(h:¬a<b):decide (a<b)=false:=by simpa using h
theorem c9_round(s:Sh)(hn:s.n<=40)(k:Nat)(hk:k<s.n)(h:checkZ (s.e k)=0):Rnd [] K9C 78 24 [] (nF 78) (c9D s k) (c9D s (k+1)) .nm :=
 ⟨[true,false],[pT (lt_tt (show ((k:Nat):Int)<(s.n:Int) by omega)),pP (show 0<=((k:Nat):Int)/\((k:Nat):Int)<s.n by omega),pF (ne_F (show ¬checkZ (s.e k)≠0 by simpa using h)),pI k (by omega),pR ptr0]++pSh s,by kernel_rfl⟩
theorem c9_good(s:Sh)(hn:s.n<=40)(h:errN s.e s.n=0):OrcOk Tryz.prog (lpC 78 24) ⟨nF 78,c9D s 0,.ex 1,⟨[(1,.eq ptr0)],shB s⟩⟩ :=
 orc (X:=[]) (K:=K9C) s.n (c9D s) (fun _=>[]) (by kernel_rfl) (fun _=>by kernel_rfl) (fun _ _=>LT.nil) (fun k hk=>c9_round s hn k hk (errN_0 h k hk))
  ⟨[false],[pF (lt_ff (show ¬((s.n:Nat):Int)<(s.n:Int) by omega)),pR ptr0]++pSh s,by kernel_rfl⟩ nofun
theorem c9_bad(s:Sh)(hn:s.n<=40)(m:Nat)(hm:m<s.n)(h:∀k,k<m->checkZ (s.e k)=0)(h1:checkZ (s.e m)≠0):OrcOk Tryz.prog (lpC 78 24) ⟨nF 78,c9D s 0,.rt,⟨[(2,.le (inV (checkZ (s.e m)) lim))],[]⟩⟩ :=
 orc (X:=[]) (K:=K9C) m (c9D s) (fun _=>[]) (by kernel_rfl) (fun _=>by kernel_rfl) (fun _ _=>LT.nil) (fun k hk=>c9_round s hn k (by omega) (h k hk))
  ⟨[true,true],[pT (lt_tt (show ((m:Nat):Int)<(s.n:Int) by omega)),pP (show 0<=((m:Nat):Int)/\((m:Nat):Int)<s.n by omega),pT (ne_T h1),⟨checkZ (s.e m)=checkZ (s.e m),rfl⟩],by kernel_rfl⟩ nofun
def c9in(s:Sh):List Pf:=[⟨(0:Int)=((0:Nat):Int),rfl⟩,pR ptr0]++pSh s
theorem Fok.vS{f:FuncId}{args:List V1}{a b:Int}{B:Nat}(h:a=b)(H:Fok Tryz.prog f args (.one (inV b B))):Fok Tryz.prog f args (.one (inV a B)):=h ▸ H
theorem n_wrap{n:Nat}(h:1<=n)(h2:n<=40):IntKind.i64.wrap ((n:Int)-1)=((n-1:Nat):Int):=by
 rw[wrap_in (by unfold I64;omega)]
 omega
def c9ix(s:Sh)(h:1<=s.n)(h2:s.n<=40):List Pf:=[pEd s,⟨s.n<=1000,by omega⟩,⟨(0:Int)<=0/\(0:Int)<s.n,by omega⟩,⟨0<=IntKind.i64.wrap ((s.n:Int)-1)/\IntKind.i64.wrap ((s.n:Int)-1)<s.n,by rw[n_wrap h h2];omega⟩]
theorem cls_w{s:Sh}{b:Bool}(h:1<=s.n)(h2:s.n<=40)(hb:clsB s=b):(!((s.e 0).ax==(s.e (IntKind.i64.wrap ((s.n:Int)-1)).toNat).bx&&(s.e 0).ay==(s.e (IntKind.i64.wrap ((s.n:Int)-1)).toNat).by'))=!b:=by rw[n_wrap h h2,<- hb];rfl
theorem not_b{x b:Bool}(h:x=b):(!x)=!b:=by rw[h]
theorem r9chk_ok(s:Sh):Fok Tryz.prog 78 [shpV s] (.one (inV (chkS s) lim)):=by
 have kind:((s.k==1)=false/\(s.k==2)=false)\/((s.k==1)=false/\(s.k==2)=true)\/((s.k==1)=true/\(s.k==2)=false):=by
  simp only[beq_eq_false_iff_ne,beq_iff_eq,ne_eq];omega
 rcases kind with⟨h1,h2⟩|⟨h1,h2⟩|⟨h1,h2⟩
 ·have g1 : ¬ s.k = 1 := by simpa using h1
  have g2:¬s.k=2:=by simpa using h2
  exact Fok.vS (show chkS s=12 by unfold chkS;rw[if_pos ⟨g1,g2⟩]) (fok K9C [false,false] [pF h1,pF h2] (by kernel_rfl))
 ·have g2 : s.k = 2 := by simpa using h2
  have ef:fewS s=2:=by unfold fewS;rw[if_neg (by omega)]
  by_cases h3:(s.n:Int)<2
  ·exact Fok.vS (show chkS s=12 by unfold chkS;rw[if_neg (by omega),ef,if_pos h3]) (fok K9C [false,true,true] [pF h1,pT h2,pT (lt_tt h3)] (by kernel_rfl))
  by_cases h4:(s.n:Int)>40
  ·exact Fok.vS (show chkS s=2 by unfold chkS;rw[if_neg (by omega),ef,if_neg h3,if_pos (by omega)]) (fok K9C [false,true,false,true] [pF h1,pT h2,pF (lt_ff h3),pT (gt_T h4)] (by kernel_rfl))
  have hn:s.n<=40:=by omega
  have hn1:1<=s.n:=by omega
  have e0:chkS s=if errN s.e s.n≠0 then errN s.e s.n else if allB (jn s.e) (s.n-1)=false\/clsB s=false then 12 else if s.r≠0\/s.r<0\/4194304<s.r then 3 else 0:=by
   unfold chkS;rw[if_neg (by omega),ef,if_neg h3,if_neg (by omega)];simp only[g2,true_and]
  by_cases h5:errN s.e s.n=0
  rotate_left
  ·obtain ⟨m, k1, k2, k3⟩ := errN_n h5
   rw[e0,if_pos h5,k2]
   rw[k2] at h5
   exact fokL [] K9C _ (LT.cons (c9_bad s hn m k1 k3 h5) LT.nil) [false,true,false,false] ([pF h1,pT h2,pF (lt_ff h3),pF (gt_F h4)]++c9in s) (by kernel_rfl)
  have oc:=LT.cons (c9_good s hn h5) LT.nil
  rw[if_neg (by simpa using h5)] at e0
  cases h6:allB (jn s.e) (s.n-1) with
  | false =>
   exact Fok.vS (show chkS s=12 by rw[e0,if_pos (.inl h6)]) (fokL [] K9C _ oc [false,true,false,false,true] ([pF h1,pT h2,pF (lt_ff h3),pF (gt_F h4)]++c9in s++c9ix s hn1 hn++[pT (not_b h6)]) (by kernel_rfl))
  | true =>
   cases h7:clsB s with
   | false =>
    exact Fok.vS (show chkS s=12 by rw[e0,if_pos (.inr h7)]) (fokL [] K9C _ oc [false,true,false,false,false,true,true] ([pF h1,pT h2,pF (lt_ff h3),pF (gt_F h4)]++c9in s++c9ix s hn1 hn++[pF (not_b h6),pT h2,pT (cls_w hn1 hn h7)]) (by kernel_rfl))
   | true =>
    rw[if_neg (by simp[h6,h7])] at e0
    by_cases h8:s.r≠0
    ·exact Fok.vS (show chkS s=3 by rw[e0,if_pos (.inl h8)]) (fokL [] K9C _ oc [false,true,false,false,false,true,false,true,true] ([pF h1,pT h2,pF (lt_ff h3),pF (gt_F h4)]++c9in s++c9ix s hn1 hn++[pF (not_b h6),pT h2,pF (cls_w hn1 hn h7),pT h2,pT (ne_T h8)]) (by kernel_rfl))
    ·exact Fok.vS (show chkS s=0 by rw[e0,if_neg (by omega)]) (fokL [] K9C _ oc [false,true,false,false,false,true,false,true,false,false,false] ([pF h1,pT h2,pF (lt_ff h3),pF (gt_F h4)]++c9in s++c9ix s hn1 hn++[pF (not_b h6),pT h2,pF (cls_w hn1 hn h7),pT h2,pF (ne_F h8),pF (lt_ff (show ¬s.r<0 by omega)),pF (gt_F (show ¬(4194304:Int)<s.r by omega))]) (by kernel_rfl))
 ·have g1 : s.k = 1 := by simpa using h1
  have ef:fewS s=1:=by unfold fewS;rw[if_pos g1]
  by_cases h3:(s.n:Int)<1
  ·exact Fok.vS (show chkS s=12 by unfold chkS;rw[if_neg (by omega),ef,if_pos h3]) (fok K9C [true,true] [pT h1,pT (lt_tt h3)] (by kernel_rfl))
  by_cases h4:(s.n:Int)>40
  ·exact Fok.vS (show chkS s=2 by unfold chkS;rw[if_neg (by omega),ef,if_neg h3,if_pos (by omega)]) (fok K9C [true,false,true] [pT h1,pF (lt_ff h3),pT (gt_T h4)] (by kernel_rfl))
  have hn:s.n<=40:=by omega
  have hn1:1<=s.n:=by omega
  have e0:chkS s=if errN s.e s.n≠0 then errN s.e s.n else if allB (jn s.e) (s.n-1)=false then 12 else if s.r<0\/4194304<s.r then 3 else 0:=by
   unfold chkS;rw[if_neg (by omega),ef,if_neg h3,if_neg (by omega)];simp only[g1,show ¬(1:Int)=2 by decide,false_and,or_false,false_or]
  by_cases h5:errN s.e s.n=0
  rotate_left
  ·obtain ⟨m, k1, k2, k3⟩ := errN_n h5
   rw[e0,if_pos h5,k2]
   rw[k2] at h5
   exact fokL [] K9C _ (LT.cons (c9_bad s hn m k1 k3 h5) LT.nil) [true,false,false] ([pT h1,pF (lt_ff h3),pF (gt_F h4)]++c9in s) (by kernel_rfl)
  have oc:=LT.cons (c9_good s hn h5) LT.nil
  rw[if_neg (by simpa using h5)] at e0
  cases h6:allB (jn s.e) (s.n-1) with
  | false =>
   exact Fok.vS (show chkS s=12 by rw[e0,if_pos h6]) (fokL [] K9C _ oc [true,false,false,true] ([pT h1,pF (lt_ff h3),pF (gt_F h4)]++c9in s++c9ix s hn1 hn++[pT (not_b h6)]) (by kernel_rfl))
  | true =>
   rw[if_neg (by simp[h6])] at e0
   by_cases h8:s.r<0
   ·exact Fok.vS (show chkS s=3 by rw[e0,if_pos (.inl h8)]) (fokL [] K9C _ oc [true,false,false,false,false,false,true] ([pT h1,pF (lt_ff h3),pF (gt_F h4)]++c9in s++c9ix s hn1 hn++[pF (not_b h6),pF h2,pF h2,pT (lt_tt h8)]) (by kernel_rfl))
   by_cases h9:s.r>4194304
   ·exact Fok.vS (show chkS s=3 by rw[e0,if_pos (.inr h9)]) (fokL [] K9C _ oc [true,false,false,false,false,false,false,true] ([pT h1,pF (lt_ff h3),pF (gt_F h4)]++c9in s++c9ix s hn1 hn++[pF (not_b h6),pF h2,pF h2,pF (lt_ff h8),pT (gt_T h9)]) (by kernel_rfl))
   ·exact Fok.vS (show chkS s=0 by rw[e0,if_neg (by omega)]) (fokL [] K9C _ oc [true,false,false,false,false,false,false,false] ([pT h1,pF (lt_ff h3),pF (gt_F h4)]++c9in s++c9ix s hn1 hn++[pF (not_b h6),pF h2,pF h2,pF (lt_ff h8),pF (gt_F h9)]) (by kernel_rfl))
def d09Chk:Con:=shC 78 (fun s=>.one (inV (chkS s) lim)) (fun _=>[]) fun s _=>r9chk_ok s
end

set_option maxRecDepth 100000
section
def x0N(e:Nat->Ed):Nat->Int
 | 0=>min (e 0).ax (e 0).bx
 | k+1=>min (x0N e k) (min (e (k+1)).ax (e (k+1)).bx)
def y0N(e:Nat->Ed):Nat->Int
 | 0=>min (e 0).ay (e 0).by'
 | k+1=>min (y0N e k) (min (e (k+1)).ay (e (k+1)).by')
def x1N(e:Nat->Ed):Nat->Int
 | 0=>max (e 0).ax (e 0).bx
 | k+1=>max (x1N e k) (max (e (k+1)).ax (e (k+1)).bx)
def y1N(e:Nat->Ed):Nat->Int
 | 0=>max (e 0).ay (e 0).by'
 | k+1=>max (y1N e k) (max (e (k+1)).ay (e (k+1)).by')
def rcV(a b c d:Int):V1:=⟨true,[.i a lim,.i b lim,.i c lim,.i d lim]⟩
def boxV(s:Sh):V1:=if s.n=0 then rcV 0 0 0 0 else
 rcV (IntKind.i64.wrap (x0N s.e (s.n-1)-s.r)) (IntKind.i64.wrap (y0N s.e (s.n-1)-s.r)) (IntKind.i64.wrap (x1N s.e (s.n-1)+s.r)) (IntKind.i64.wrap (y1N s.e (s.n-1)+s.r))
def rcB(a b c d:Int):Option Mb:=some ⟨49,(rcV a b c d).l⟩
def rcZ:Option Mb:=some ⟨49,[.k 0,.k 0,.k 0,.k 0]⟩
def ptrN(b:Nat):V1:=⟨false,[.p b 0]⟩
def bxR(e:Nat->Ed)(k:Nat):List Pf:=[⟨x0N e k=x0N e k,rfl⟩,⟨y0N e k=y0N e k,rfl⟩,⟨x1N e k=x1N e k,rfl⟩,⟨y1N e k=y1N e k,rfl⟩]
def bxB(e:Nat->Ed)(k:Nat):Option Mb:=rcB (x0N e k) (y0N e k) (x1N e k) (y1N e k)
def r9bD(s:Sh)(j:Nat):Ds:=⟨[(4,.le (inV ((j+1:Nat):Int) 2000)),(1,.eq (ptrN 0)),(2,.eq (ptrN 1)),(3,.eq (ptrN 2))],shB s++[rcZ,bxB s.e j]⟩
theorem eq_tt{a b:Int}(h:a=b):(a==b)=true:=by simpa using h
theorem eq_ff{a b:Int}(h:a≠b):(a==b)=false:=by simpa using h
theorem r9box_ok(s:Sh)(hn:s.n<=1000):Fok Tryz.prog 143 [shpV s] (.one (boxV s)):=by
 by_cases h0:s.n=0
 ·unfold boxV
  rw[if_pos h0]
  exact fok [] [true] [pT (eq_tt (show (s.n:Int)=0 by omega))] (by kernel_rfl)
 ·unfold boxV
  rw[if_neg h0]
  have o:=orc (X:=[]) (K:=[]) (f:=143) (id:=10) (n:=nF 143) (s.n-1) (r9bD s) (fun _=>[]) (e:=.ex 0) (d1:=⟨[(1,.eq (ptrN 0)),(2,.eq (ptrN 1)),(3,.eq (ptrN 2))],shB s++[rcZ,bxB s.e (s.n-1)]⟩) (by kernel_rfl) (fun _=>by kernel_rfl) (fun _ _=>LT.nil)
   (fun k hk=>⟨[true],[pT (lt_tt (show ((k+1:Nat):Int)<(s.n:Int) by omega)),pP (show 0<=((k+1:Nat):Int)/\((k+1:Nat):Int)<s.n by omega),pI (k+1) (by omega),pR (ptrN 0),pR (ptrN 1),pR (ptrN 2)]++pSh s++bxR s.e (k+1),by kernel_rfl⟩)
   ⟨[false],[pF (lt_ff (show ¬((s.n-1+1:Nat):Int)<(s.n:Int) by omega)),pR (ptrN 0),pR (ptrN 1),pR (ptrN 2)]++pSh s++bxR s.e (s.n-1),by kernel_rfl⟩ nofun
  exact fokL [] [] _ (LT.cons o LT.nil) [false] ([pF (eq_ff (show (s.n:Int)≠0 by omega)),pP (show (0:Int)<=0/\(0:Int)<s.n by omega),⟨(1:Int)=((0+1:Nat):Int),rfl⟩,pR (ptrN 0),pR (ptrN 1),pR (ptrN 2)]++pSh s++bxR s.e 0) (by kernel_rfl)
end

set_option maxRecDepth 100000
section
def tlE(s:Sh):V1:=⟨false,[.ro 7 (s.n-1) fun j=>edI (s.e (1+j))]⟩
def lnE(n:Nat):V1:=⟨false,[.i (n:Int) lim]⟩
def sbD(s:Sh)(j:Nat):Ds:=⟨[(21,.le (inV (j:Int) 2000)),(1,.eq (ptrN 0)),(2,.eq (ptrN 1)),(3,.eq (ptrN 2)),(19,.eq (tlE s)),(20,.eq (lnE (s.n-1)))],shB s++[rcZ,bxB s.e j]⟩
def bxS(e:Nat->Ed)(k:Nat):List Pf:=[⟨min (x0N e k) (min (e (1+k)).ax (e (1+k)).bx)=x0N e (k+1),by rw[Nat.add_comm];rfl⟩,⟨min (y0N e k) (min (e (1+k)).ay (e (1+k)).by')=y0N e (k+1),by rw[Nat.add_comm];rfl⟩,⟨max (x1N e k) (max (e (1+k)).ax (e (1+k)).bx)=x1N e (k+1),by rw[Nat.add_comm];rfl⟩,⟨max (y1N e k) (max (e (1+k)).ay (e (1+k)).by')=y1N e (k+1),by rw[Nat.add_comm];rfl⟩]
theorem sbox_ok(s:Sh)(hn:s.n<=1000):Fok Tryz.prog 29 [shpV s] (.one (boxV s)):=by
 by_cases h0:s.n=0
 ·unfold boxV
  rw[if_pos h0]
  exact fok [] [true] [pT (eq_tt (show (s.n:Int)=0 by omega))] (by kernel_rfl)
 ·unfold boxV
  rw[if_neg h0]
  have o:=orc (X:=[]) (K:=[]) (f:=29) (id:=10) (n:=nF 29) (s.n-1) (sbD s) (fun _=>[]) (e:=.ex 0) (d1:=⟨[(1,.eq (ptrN 0)),(2,.eq (ptrN 1)),(3,.eq (ptrN 2))],shB s++[rcZ,bxB s.e (s.n-1)]⟩) (by kernel_rfl) (fun _=>by kernel_rfl) (fun _ _=>LT.nil)
   (fun k hk=>⟨[true],[pT (lt_tt (show (k:Int)<((s.n-1:Nat):Int) by omega)),pP (show 0<=(k:Int)/\(k:Int)<(s.n-1:Nat) by omega),pI k (by omega),pR (ptrN 0),pR (ptrN 1),pR (ptrN 2),pR (tlE s),pR (lnE (s.n-1))]++pSh s++bxS s.e k,by kernel_rfl⟩)
   ⟨[false],[pF (lt_ff (show ¬((s.n-1:Nat):Int)<((s.n-1:Nat):Int) by omega)),pR (ptrN 0),pR (ptrN 1),pR (ptrN 2)]++pSh s++bxR s.e (s.n-1),by kernel_rfl⟩ nofun
  exact fokL [] [] _ (LT.cons o LT.nil) [false] ([pF (eq_ff (show (s.n:Int)≠0 by omega)),pP (show (0:Int)<=0/\(0:Int)<s.n by omega),pP (show (0:Int)<=1/\(1:Int)<=s.n by omega),⟨(0:Int)=((0:Nat):Int),rfl⟩,pR (ptrN 0),pR (ptrN 1),pR (ptrN 2),pR (tlE s),pR (lnE (s.n-1))]++pSh s++bxR s.e 0) (by kernel_rfl)
end

set_option maxHeartbeats 1000000
set_option maxRecDepth 100000
section
theorem shape_product(x y:Nat)(w:World)(hx:x<9223372036854775808)(hy:y<9223372036854775808):Calls Tryz.prog 118 #[.int .i64 x,.int .i64 y] w fun e w'=>e=.returned (.agg #[.int .u64 ((x:Int)*y/18446744073709551616),.int .u64 ((x:Int)*y%18446744073709551616)])/\Ext w w':=by
 have c1:IntKind.u64.wrap (x:Int)=x:=by rw[IntKind.wrap_u64];omega
 have c2:IntKind.u64.wrap (y:Int)=y:=by rw[IntKind.wrap_u64];omega
 go_enter Tryz.func118,Tryz.ntmps118
 go_wp2_with fail
 refine (Tryz.bits_Mul64 x y (by omega) (by omega) _).mono ?_
 rintro e w1 ⟨rfl,rfl⟩
 go_wp2
 refine bodyPost_ret (v:=.agg #[.int .u64 ((x:Int)*y/18446744073709551616),.int .u64 ((x:Int)*y%18446744073709551616)]) (by simp only[results,Tryz.results118];go_simp) rfl ?_
 exact⟨rfl,bxx⟩
theorem shape_atMost(a b c d:Int)(w:World):Calls Tryz.prog 119 #[.agg #[.int .u64 a,.int .u64 b],.agg #[.int .u64 c,.int .u64 d]] w fun e w'=>e=.returned (.bool (decide (a<c\/(a=c/\b<=d))))/\Ext w w':=by
 have hq:∀w,(Op.equalIn 10000 164 (.agg #[.int .u64 a,.int .u64 b]) (.agg #[.int .u64 c,.int .u64 d])).run Tryz.prog w=.ok (a==c&&b==d) w:=fun w=>by
  obtain⟨i,hi⟩:=Option.isSome_iff_exists.1 (show (Tryz.prog.info? 139).isSome=true by kernel_rfl)
  have hc:Tryz.prog.cellsOf 139=1:=by kernel_rfl
  rw[run_equalIn_array w 9999 (n:=2) _ _ (by kernel_rfl) hi,hc]
  simp only[show List.range 2=[0,1] from rfl,Op.eqItems]
  have hs:szT Tryz.prog 139=some 1:=by kernel_rfl
  have ha:agT Tryz.prog 139=some false:=by kernel_rfl
  have q0:∀x y:Int,(part 139 #[.int .u64 x,.int .u64 y] 0).run Tryz.prog w=.ok (.int .u64 x) w:=fun x y=>by
   simpa[cellsV] using run_partT (cs:=[.int .u64 x,.int .u64 y]) (o:=0) (W:=w) hs ha (by simp) (by simp)
  have q1:∀x y:Int,(part 139 #[.int .u64 x,.int .u64 y] 1).run Tryz.prog w=.ok (.int .u64 y) w:=fun x y=>by
   simpa[cellsV] using run_partT (cs:=[.int .u64 x,.int .u64 y]) (o:=1) (W:=w) hs ha (by simp) (by simp)
  have q2:∀x y:Int,(Op.equalIn 9999 139 (.int .u64 x) (.int .u64 y)).run Tryz.prog w=.ok (x==y) w:=fun x y=>run_equalIn_int w 9998 139 .u64 .u64 _ _ (by kernel_rfl)
  simp only[Nat.zero_mul,Nat.one_mul,Sem.run_bind,q0,q1,q2,Result.andThen_ok]
  cases h0:(a==c)<;>cases h1:(b==d)<;>simp[Sem.run_bind,q1,q2,h1]
 obtain⟨z,hz⟩:∃z,decide (a<c\/(a=c/\b<=d))=z:=⟨_,rfl⟩
 rw[hz]
 have hz:=Lib.hid hz
 cases h0:(a==c)<;>cases h1:decide (a<c)<;>cases h2:(b==d)<;>cases h3:decide (b<d)
 all_goals
  go_enter Tryz.func119,Tryz.ntmps119
  go_wp2_with fail
  go_ret
  refine⟨?_,bxx⟩
  have hz:=hz.out
  simp at h0 h1 h2 h3
  rw[<- hz]
  simp
  omega
def wdV(x y:Int):V1:=⟨true,[.v (.int .u64 (x*y/18446744073709551616)),.v (.int .u64 (x*y%18446744073709551616))]⟩
def cProd:Con where
 f:=118
 g:=fun | [⟨false,[.i x _]⟩,⟨false,[.i y _]⟩]=>some (.one (wdV x y),[0<=x,0<=y])|_=>none
 ok:=by
  intro args res ps h hp
  split at h<;>cases h
  rename_i x A y B
  intro W vals hv
  simp only[rvs_cons,rvs_nil,rv_i] at hv
  obtain⟨_,⟨⟨_,b1⟩,rfl⟩,_,rfl,_,⟨⟨_,b2⟩,rfl⟩,_,rfl,rfl⟩:=hv
  obtain⟨x,rfl⟩:=Int.eq_ofNat_of_zero_le hp.1
  obtain⟨y,rfl⟩:=Int.eq_ofNat_of_zero_le hp.2.1
  unfold I64 at b1 b2
  exact (shape_product x y W (by omega) (by omega)).mono fun _ _ h=>⟨_,h.1,rv_t.2 ⟨_,rl_v.2 ⟨rfl,_,rfl,rl_v.2 ⟨rfl,_,rfl,rfl⟩⟩,rfl⟩,h.2⟩
def cAtM:Con where
 f:=119
 g:=fun | [⟨true,[.v (.int .u64 a),.v (.int .u64 b)]⟩,⟨true,[.v (.int .u64 c),.v (.int .u64 d)]⟩]=>some (.one (blV (decide (a<c\/(a=c/\b<=d)))),[])|_=>none
 ok:=by
  intro args res ps h hp
  split at h<;>cases h
  intro W vals hv
  simp only[rvs_cons,rvs_nil,rv_t,rl_v,rl_nil] at hv
  obtain⟨_,⟨_,⟨_,_,rfl,_,_,rfl,rfl⟩,rfl⟩,_,rfl,_,⟨_,⟨_,_,rfl,_,_,rfl,rfl⟩,rfl⟩,_,rfl,rfl⟩:=hv
  exact (shape_atMost _ _ _ _ W).mono fun _ _ h=>gv_bl h
theorem words_le{u v:Int}(hu:0<=u)(hv:0<=v):(u/18446744073709551616<v/18446744073709551616\/(u/18446744073709551616=v/18446744073709551616/\u%18446744073709551616<=v%18446744073709551616)) <-> u<=v:=by omega
end
theorem ok_xor{e:Ed}(h:e.ok=true)(hk:¬e.k=1):e.ax-e.cx=0\/e.ay-e.cy=0:=by
 have hq:((e.ax-e.cx==0) != (e.ay-e.cy==0))=true:=by
  simp only[Ed.ok,Bool.and_eq_true,if_neg hk] at h
  have h2:=h.2
  split at h2
  ·simp only [Ed.quarter, quarterB, Bool.and_eq_true] at h2
   exact h2.1
  ·split at h2
   ·simp only [Ed.quarter, quarterB, Bool.and_eq_true] at h2
    exact h2.1
   ·cases h2
 by_cases h1:e.ax-e.cx=0
 ·exact .inl h1
 ·by_cases h2 : e.ay - e.cy = 0
  ·exact .inr h2
  ·have e1 : (e.ax - e.cx == 0) = false := by simpa using h1
   have e2:(e.ay-e.cy==0)=false:=by simpa using h2
   rw[e1,e2] at hq
   cases hq
theorem radZ_sum{e:Ed}(h:e.ok=true)(hk:¬e.k=1):max (e.ax-e.cx) (-(e.ax-e.cx))+max (e.ay-e.cy) (-(e.ay-e.cy))=radZ e:=by
 have hkb:(e.k==1)=false:=by simpa using hk
 unfold radZ
 rw[h,hkb]
 simp only[Bool.not_false,Bool.and_self,if_true]
 have:=ok_xor h hk
 omega
theorem radZ_sq{e:Ed}(h:e.ok=true)(hk:¬e.k=1):(e.ax-e.cx)*(e.ax-e.cx)+(e.ay-e.cy)*(e.ay-e.cy)=radZ e*radZ e:=by
 rw[<- radZ_sum h hk]
 have mm:∀x:Int,max x (-x)*max x (-x)=x*x:=by
  intro x
  rcases Int.le_total 0 x with h|h
  ·rw[show max x (-x)=x by omega]
  ·rw[show max x (-x) = -x by omega,Int.neg_mul_neg]
 rcases ok_xor h hk with h0|h0<;>rw[h0]
 ·rw [show max (0 : Int) (-0) = 0 by decide]
  simp only[Int.zero_add,Int.zero_mul]
  exact (mm _).symm
 ·rw [show max (0 : Int) (-0) = 0 by decide]
  simp only[Int.add_zero,Int.zero_mul]
  exact (mm _).symm
theorem sideI_zero(x:Int):(sideI x==0)=(x==0):=by
 rw[Bool.eq_iff_iff]
 simp only[beq_iff_eq]
 unfold sideI
 (repeat' split)<;>omega
theorem powerI_rad{e:Ed}(h:e.ok=true)(hk:¬e.k=1)(dx dy:Int):(powerI dx dy (e.ax-e.cx) (e.ay-e.cy)==0)=(dx*dx+dy*dy==radZ e*radZ e):=by
 have:=radZ_sq h hk
 rw[Bool.eq_iff_iff]
 simp only[beq_iff_eq]
 unfold powerI
 omega

set_option maxRecDepth 100000
section
def K7:List Con:=[d06Chk,d06Rad]
theorem don_ok(e:Ed)(px py:Int)(ho:e.ok=true):Fok Tryz.prog 227 [edV e 3 c26,ptV px py c26] (.one (blV (onE e px py))):=by
 have E:onE e px py=(inB (min e.ax e.bx) (min e.ay e.by') (max e.ax e.bx) (max e.ay e.by') px py&&(if e.k=1 then (e.bx-e.ax)*(py-e.ay)-(e.by'-e.ay)*(px-e.ax)==0 else (px-e.cx)*(px-e.cx)+(py-e.cy)*(py-e.cy)==radZ e*radZ e)):=by
  unfold onE
  rw[ho,Bool.true_and]
  by_cases hk:e.k=1
  ·rw[if_pos hk,if_pos hk,sideI_zero]
  ·rw[if_neg hk,if_neg hk,powerI_rad ho hk]
 rw[E]
 unfold inB
 cases h0:decide (min e.ax e.bx<=px) with
 | false=>exact fok K7 [false,false] [pF h0,pF (chk_F ho)] (by kernel_rfl)
 | true =>
  cases h1:decide (px<=max e.ax e.bx) with
  | false=>exact fok K7 [true,false,false] [pT h0,pF h1,pF (chk_F ho)] (by kernel_rfl)
  | true =>
   cases h2:decide (min e.ay e.by'<=py) with
   | false=>exact fok K7 [true,true,false,false] [pT h0,pT h1,pF h2,pF (chk_F ho)] (by kernel_rfl)
   | true =>
    cases h3:decide (py<=max e.ay e.by') with
    | false=>exact fok K7 [true,true,true,false,true] [pT h0,pT h1,pT h2,pF (chk_F ho),pT (not_T h3)] (by kernel_rfl)
    | true =>
     by_cases hk:e.k=1
     ·rw [if_pos hk]
      exact fok K7 [true,true,true,false,false,true] [pT h0,pT h1,pT h2,pF (chk_F ho),pF (not_F h3),pT (bq_T hk)] (by kernel_rfl)
     ·rw [if_neg hk]
      exact fok K7 [true,true,true,false,false,false] [pT h0,pT h1,pT h2,pF (chk_F ho),pF (not_F h3),pF (bq_F hk),pP ho] (by kernel_rfl)
def d06On:Con where
 f:=227
 g:=fun | [⟨true,l⟩,⟨true,[.i x A,.i y B]⟩]=>if A<=c26/\B<=c26 then (toEd l).map fun e=>(.one (blV (onE e x y)),[e.ok=true]) else none|_=>none
 ok:=by
  intro args res ps h hp
  split at h<;>try cases h
  rename_i l x A y B
  split at h<;>try cases h
  rename_i hb
  cases he:toEd l with
  | none=>simp[he] at h
  | some e =>
   simp only[he,Option.map_some,Option.some.injEq,Prod.mk.injEq] at h
   obtain⟨rfl,rfl⟩:=h
   exact (don_ok e x y hp.1).pre fun W=>rvs_1 (ed_ok he hp.1) (rvs_1 (pt_c26 hb.1 hb.2) rvs_0)
end
def linesE(e f:Ed):Int:=if e.pt then onZ f e.ax e.ay else if f.pt then onZ e f.ax f.ay else linesZ e.ax e.ay e.bx e.by' f.ax f.ay f.bx f.by'
theorem sq_nonneg(x:Int):0<=x*x:=by
 rcases Int.le_total 0 x with h|h
 ·exact Int.mul_nonneg h h
 ·rw[<- Int.neg_mul_neg];exact Int.mul_nonneg (by omega) (by omega)
theorem shift_lines{a b c d x y z:Int}(h1:c-a=x)(h2:d-a=y)(h3:b-a=z)(h4:0<=z) :
  max (min a b) (min c d)=a+max 0 (min x y)/\min (max a b) (max c d)=a+min z (max x y):=by omega

set_option maxHeartbeats 1000000
set_option maxRecDepth 100000
section
def d05Side:Con where
 f:=219
 g:=fun | [⟨true,[.i ax A,.i ay B]⟩,⟨true,[.i bx C,.i b D]⟩,⟨true,[.i px E,.i py F]⟩]=>if (A<=c26/\B<=c26)/\(C<=c26/\D<=c26)/\(E<=c26/\F<=c26) then some (.one (inV (sideI ((bx-ax)*(py-ay)-(b-ay)*(px-ax))) 1),[]) else none|_=>none
 ok:=by
  intro args res ps h hp
  split at h<;>try cases h
  split at h<;>cases h
  rename_i ax A ay B bx C b D px E py F hb
  intro W vals hv
  simp only[rvs_cons,rvs_nil,rv_t,rl_i,rl_nil] at hv
  obtain⟨_,⟨_,⟨⟨a1,_⟩,_,rfl,⟨a2,_⟩,_,rfl,rfl⟩,rfl⟩,_,rfl,_,⟨_,⟨⟨a3,_⟩,_,rfl,⟨a4,_⟩,_,rfl,rfl⟩,rfl⟩,_,rfl,_,⟨_,⟨⟨a5,_⟩,_,rfl,⟨a6,_⟩,_,rfl,rfl⟩,rfl⟩,_,rfl,rfl⟩:=hv
  have c1:=co_of a1 hb.1.1
  have c2:=co_of a2 hb.1.2
  have d1:=(co_of a3 hb.2.1.1).sub c1
  have d2:=(co_of a4 hb.2.1.2).sub c2
  have d3:=(co_of a5 hb.2.2.1).sub c1
  have d4:=(co_of a6 hb.2.2.2).sub c2
  have hs:=sideI_bd ((bx-ax)*(py-ay)-(b-ay)*(px-ax))
  exact (r05_Side ax ay bx b px py W d1.i64 d2.i64 d3.i64 d4.i64 (d1.mul64 d4) (d2.mul64 d3) (d1.cross d4 d2 d3)).mono fun _ _ h=>gv_in ⟨by omega,by unfold I64;omega⟩ h
def K8:List Con:=[d06On,d05Side]
theorem crossP{e:Ed}(h:(e.ax==e.bx&&e.ay==e.by')=true):e.bx-e.ax=0/\e.by'-e.ay=0:=by
 simp only[Bool.and_eq_true,beq_iff_eq] at h
 omega
theorem le_TR{a b:Int}(h:a<=b):decide (a<=b)=true:=by simpa using h
theorem le_FR{a b:Int}(h:¬a<=b):decide (a<=b)=false:=by simpa using h
theorem ltq_T{x y u v:Int}(h1:x=u)(h2:y=v)(h:u<v):decide (x<y)=true:=by subst h1 h2;simpa using h
theorem ltq_F{x y u v:Int}(h1:x=u)(h2:y=v)(h:¬u<v):decide (x<y)=false:=by subst h1 h2;simpa using h
theorem eqq_T{x y u v:Int}(h1:x=u)(h2:y=v)(h:u=v):(x==y)=true:=by subst h1 h2;simpa using h
theorem eqq_F{x y u v:Int}(h1:x=u)(h2:y=v)(h:¬u=v):(x==y)=false:=by subst h1 h2;simpa using h
theorem dlines_ok(e f:Ed)(h1:e.ok=true)(h2:f.ok=true):Fok Tryz.prog 178 [edV e 3 c26,edV f 3 c26] (.one (inV (linesE e f) lim)):=by
 unfold linesE
 by_cases c:(e.bx-e.ax)*(f.by'-f.ay)-(e.by'-e.ay)*(f.bx-f.ax)≠0
 ·have pe:e.pt=false:=by
   rw[pt_eq]
   cases h:(e.ax==e.bx&&e.ay==e.by') with
   | false=>rfl
   | true=>obtain⟨x,y⟩:=crossP h;rw[x,y] at c;simp at c
  have pf:f.pt=false:=by
   rw[pt_eq]
   cases h:(f.ax==f.bx&&f.ay==f.by') with
   | false=>rfl
   | true=>obtain⟨x,y⟩:=crossP h;rw[x,y] at c;simp at c
  rw[pe,pf]
  simp only[Bool.false_eq_true,if_false]
  unfold linesZ
  rw[if_pos c]
  by_cases g1:sideI (crI e.ax e.ay e.bx e.by' f.ax f.ay)*sideI (crI e.ax e.ay e.bx e.by' f.bx f.by')<=0
  ·rw [if_neg (by omega)]
   by_cases g2:sideI (crI f.ax f.ay f.bx f.by' e.ax e.ay)*sideI (crI f.ax f.ay f.bx f.by' e.bx e.by')<=0
   ·rw [if_neg (by omega)]
    exact fok K8 [true,true,true] [pT (ne_T c),pT (le_TR g1),pT (le_TR g2)] (by kernel_rfl)
   ·rw [if_pos (by omega)]
    exact fok K8 [true,true,false] [pT (ne_T c),pT (le_TR g1),pF (le_FR g2)] (by kernel_rfl)
  ·rw [if_pos (by omega)]
   exact fok K8 [true,false] [pT (ne_T c),pF (le_FR g1)] (by kernel_rfl)
 cases pe:(e.ax==e.bx&&e.ay==e.by') with
 | true =>
  rw[pt_eq,pe,if_pos rfl]
  unfold onZ
  cases ho:onE f e.ax e.ay with
  | true=>exact fok K8 [false,true,true] [pF (ne_F c),pT pe,pP h2,pT ho] (by kernel_rfl)
  | false=>exact fok K8 [false,true,false] [pF (ne_F c),pT pe,pP h2,pF ho] (by kernel_rfl)
 | false =>
  rw[pt_eq,pe,if_neg (by simp)]
  cases pf:(f.ax==f.bx&&f.ay==f.by') with
  | true =>
   rw[pt_eq,pf,if_pos rfl]
   unfold onZ
   cases ho:onE e f.ax f.ay with
   | true=>exact fok K8 [false,false,true,true] [pF (ne_F c),pF pe,pT pf,pP h1,pT ho] (by kernel_rfl)
   | false=>exact fok K8 [false,false,true,false] [pF (ne_F c),pF pe,pT pf,pP h1,pF ho] (by kernel_rfl)
  | false =>
   rw[pt_eq,pf,if_neg (by simp)]
   unfold linesZ
   rw[if_neg c]
   by_cases s:sideI (crI e.ax e.ay e.bx e.by' f.ax f.ay)≠0
   ·rw [if_pos s]
    exact fok K8 [false,false,false,true] [pF (ne_F c),pF pe,pF pf,pT (ne_T s)] (by kernel_rfl)
   rw[if_neg s]
   have nn:0<=(e.bx-e.ax)*(e.bx-e.ax)+(e.by'-e.ay)*(e.by'-e.ay):=by
    have:=sq_nonneg (e.bx-e.ax);have:=sq_nonneg (e.by'-e.ay);omega
   obtain⟨m1,m2⟩:=shift_lines (a:=e.ax*(e.bx-e.ax)+e.ay*(e.by'-e.ay)) (b:=e.bx*(e.bx-e.ax)+e.by'*(e.by'-e.ay)) (c:=f.ax*(e.bx-e.ax)+f.ay*(e.by'-e.ay)) (d:=f.bx*(e.bx-e.ax)+f.by'*(e.by'-e.ay))
    (x:=(f.ax-e.ax)*(e.bx-e.ax)+(f.ay-e.ay)*(e.by'-e.ay)) (y:=(f.bx-e.ax)*(e.bx-e.ax)+(f.by'-e.ay)*(e.by'-e.ay)) (z:=(e.bx-e.ax)*(e.bx-e.ax)+(e.by'-e.ay)*(e.by'-e.ay)) (by grind) (by grind) (by grind) nn
   split
   ·rename_i g
    exact fok K8 [false,false,false,false,true] [pF (ne_F c),pF pe,pF pf,pF (ne_F s),pT (ltq_T m1 m2 (Int.add_lt_add_left g _))] (by kernel_rfl)
   ·rename_i g
    split
    ·rename_i g2
     exact fok K8 [false,false,false,false,false,true] [pF (ne_F c),pF pe,pF pf,pF (ne_F s),pF (ltq_F m1 m2 (fun h=>g (Int.lt_of_add_lt_add_left h))),pT (eqq_T m1 m2 (congrArg _ g2))] (by kernel_rfl)
    ·rename_i g2
     exact fok K8 [false,false,false,false,false,false] [pF (ne_F c),pF pe,pF pf,pF (ne_F s),pF (ltq_F m1 m2 (fun h=>g (Int.lt_of_add_lt_add_left h))),pF (eqq_F m1 m2 (fun h=>g2 (Int.add_left_cancel h)))] (by kernel_rfl)
theorem linesE_bd(e f:Ed):(linesE e f).natAbs<=4:=by
 have b1:=onZ_bd e f.ax f.ay
 have b2:=onZ_bd f e.ax e.ay
 have b3:=linesZ_bd e.ax e.ay e.bx e.by' f.ax f.ay f.bx f.by'
 unfold linesE
 (repeat' split)<;>omega
def d07Lines:Con where
 f:=178
 g:=fun | [⟨true,l⟩,⟨true,m⟩]=>(match toEd l,toEd m with|some e,some f=>some (.one (inV (linesE e f) 4),[e.ok=true,f.ok=true])|_,_=>none)|_=>none
 ok:=by
  intro args res ps h hp
  split at h<;>try cases h
  split at h<;>cases h
  rename_i e f he hf
  exact ((dlines_ok e f hp.1 hp.2.1).bd (linesE_bd e f)).pre fun W=>rvs_1 (ed_ok he hp.1) (rvs_1 (ed_ok hf hp.2.1) rvs_0)
end

set_option maxRecDepth 100000
section
def b27:Nat:=134217728
def beyL(e:Ed)(px py:Int):Bool:=if e.ay>e.by' then decide ((px-e.bx)*(e.ay-e.by')<(py-e.by')*(e.ax-e.bx)) else decide ((px-e.ax)*(e.by'-e.ay)<(py-e.ay)*(e.bx-e.ax))
def beyA(e:Ed)(px py:Int):Bool:=if e.ax+e.bx>2*e.cx then decide ((px-e.cx)*(px-e.cx)+(py-e.cy)*(py-e.cy)<radZ e*radZ e) else decide ((px-e.cx)*(px-e.cx)+(py-e.cy)*(py-e.cy)>radZ e*radZ e)&&decide (px-e.cx<0)
def beyZ(e:Ed)(px py:Int):Bool:=if px<min e.ax e.bx then true else if px >= max e.ax e.bx then false else if e.k=1 then beyL e px py else beyA e px py
def rayZ(e:Ed)(px py:Int):Int:=if e.ay<=py/\py<e.by'/\beyZ e px py=true then 1 else if e.by'<=py/\py<e.ay/\beyZ e px py=true then -1 else 0
theorem ge_tt{a b:Int}(h:a >= b):decide (a >= b)=true:=by simpa using h
theorem ge_ff{a b:Int}(h:¬a >= b):decide (a >= b)=false:=by simpa using h
theorem le_tt{a b:Int}(h:a<=b):decide (a<=b)=true:=by simpa using h
theorem le_ff{a b:Int}(h:¬a<=b):decide (a<=b)=false:=by simpa using h
theorem Fok.bb{f:FuncId}{args:List V1}{a b:Bool}(h:a=b)(H:Fok Tryz.prog f args (.one (blV b))):Fok Tryz.prog f args (.one (blV a)):=h ▸ H
def KBy:List Con:=[d06Chk,d06Rad]
theorem bey_ok(e:Ed)(px py:Int)(ho:e.ok=true):Fok Tryz.prog 192 [edV e 3 c26,ptV px py b27] (.one (blV (beyZ e px py))):=by
 unfold beyZ beyL beyA
 by_cases h0:px<min e.ax e.bx
 ·rw[if_pos h0];exact fok KBy [true] [pT (lt_tt h0)] (by kernel_rfl)
 rw[if_neg h0]
 by_cases h1:px >= max e.ax e.bx
 ·rw[if_pos h1];exact fok KBy [false,true] [pF (lt_ff h0),pT (ge_tt h1)] (by kernel_rfl)
 rw[if_neg h1]
 by_cases h2:e.k=1
 ·rw [if_pos h2]
  by_cases h3:e.ay>e.by'
  ·rw[if_pos h3];exact fok KBy [false,false,true,true] [pF (lt_ff h0),pF (ge_ff h1),pT (eq_tt h2),pT (gt_T h3)] (by kernel_rfl)
  ·rw[if_neg h3];exact fok KBy [false,false,true,false] [pF (lt_ff h0),pF (ge_ff h1),pT (eq_tt h2),pF (gt_F h3)] (by kernel_rfl)
 rw[if_neg h2]
 by_cases h3:e.ax+e.bx>2*e.cx
 ·rw[if_pos h3];exact fok KBy [false,false,false,true] [pF (lt_ff h0),pF (ge_ff h1),pF (eq_ff h2),pP ho,pT (gt_T h3)] (by kernel_rfl)
 rw[if_neg h3]
 cases h4:decide ((px-e.cx)*(px-e.cx)+(py-e.cy)*(py-e.cy)>radZ e*radZ e) with
 | true=>exact fok KBy [false,false,false,false,true] [pF (lt_ff h0),pF (ge_ff h1),pF (eq_ff h2),pP ho,pF (gt_F h3),pT h4] (by kernel_rfl)
 | false=>exact fok KBy [false,false,false,false,false] [pF (lt_ff h0),pF (ge_ff h1),pF (eq_ff h2),pP ho,pF (gt_F h3),pF h4] (by kernel_rfl)
def ptB(l:List It):Option (Int×Int):=match l with | [.i x _,.i y _]=>some (x,y)|_=>none
def Bd(B:Nat)(x y:Int):Prop:=x.natAbs<=B/\y.natAbs<=B
theorem ptB_rep{V W:World}{r:Nat->Nat}{k:Nat}{l:List It}{p:Int×Int}{B:Nat}(h:ptB l=some p)(hb:Bd B p.1 p.2):∀v,RepV V W r k ⟨true,l⟩ v->RepV V W r k (ptV p.1 p.2 B) v:=by
 unfold ptB at h
 split at h<;>cases h
 intro v ⟨cs,⟨c,d,e,h1,c2,d2,e2,h2,h3⟩,h4,h5⟩
 cases h3
 exact⟨cs,⟨c,d,e,⟨h1.1,hb.1,h1.2.2⟩,c2,[],e2,⟨h2.1,hb.2,h2.2.2⟩,rfl⟩,h4,h5⟩
def epC(f:FuncId)(B:Nat)(g:Ed->Int->Int->AV)(h:∀e px py,e.ok=true->Bd B px py->Fok Tryz.prog f [edV e 3 c26,ptV px py B] (g e px py)):Con where
 f:=f
 g:=fun | [⟨true,l⟩,⟨true,m⟩]=>(match toEd l,ptB m with|some e,some p=>some (g e p.1 p.2,[e.ok=true,Bd B p.1 p.2])|_,_=>none)|_=>none
 ok:=by
  intro args res ps h' hp
  split at h'<;>try cases h'
  split at h'<;>cases h'
  rename_i he hq
  exact (h _ _ _ hp.1 hp.2.1).pre fun W=>rvs_1 (ed_ok he hp.1) (rvs_1 (ptB_rep hq hp.2.1) rvs_0)
def dBey:Con:=epC 192 b27 (fun e px py=>.one (blV (beyZ e px py))) fun e px py h _=>bey_ok e px py h
theorem ray_ok(e:Ed)(px py:Int)(ho:e.ok=true)(hb:Bd b27 px py):Fok Tryz.prog 145 [edV e 3 c26,ptV px py b27] (.one (inV (rayZ e px py) lim)):=by
 have hc:=chk_F ho
 by_cases h1:e.ay<=py
 ·by_cases h2 : py < e.by'
  ·cases h3 : beyZ e px py with
   | true=>exact Fok.vS (show rayZ e px py=1 by unfold rayZ;rw[if_pos ⟨h1,h2,h3⟩]) (fok [d06Chk,dBey] [false,true,true,true] [pF hc,pT (le_tt h1),pT (lt_tt h2),pP ho,pP hb,pT h3] (by kernel_rfl))
   | false=>exact Fok.vS (show rayZ e px py=0 by unfold rayZ;rw[if_neg (by simp[h3]),if_neg (by simp[h3])]) (fok [d06Chk,dBey] [false,true,true,false,false] [pF hc,pT (le_tt h1),pT (lt_tt h2),pP ho,pP hb,pF h3,pF (le_ff (show ¬e.by'<=py by omega))] (by kernel_rfl))
  ·exact Fok.vS (show rayZ e px py=0 by unfold rayZ;rw[if_neg (by omega),if_neg (by omega)]) (fok [d06Chk,dBey] [false,true,false,true,false] [pF hc,pT (le_tt h1),pF (lt_ff h2),pT (le_tt (show e.by'<=py by omega)),pF (lt_ff (show ¬py<e.ay by omega))] (by kernel_rfl))
 ·by_cases h2 : e.by' <= py
  ·cases h3 : beyZ e px py with
   | true=>exact Fok.vS (show rayZ e px py = -1 by unfold rayZ;rw[if_neg (by omega),if_pos ⟨h2,by omega,h3⟩]) (fok [d06Chk,dBey] [false,false,true,true,true] [pF hc,pF (le_ff h1),pT (le_tt h2),pT (lt_tt (show py<e.ay by omega)),pP ho,pP hb,pT h3] (by kernel_rfl))
   | false=>exact Fok.vS (show rayZ e px py=0 by unfold rayZ;rw[if_neg (by simp[h3]),if_neg (by simp[h3])]) (fok [d06Chk,dBey] [false,false,true,true,false] [pF hc,pF (le_ff h1),pT (le_tt h2),pT (lt_tt (show py<e.ay by omega)),pP ho,pP hb,pF h3] (by kernel_rfl))
  ·exact Fok.vS (show rayZ e px py=0 by unfold rayZ;rw[if_neg (by omega),if_neg (by omega)]) (fok [d06Chk,dBey] [false,false,false] [pF hc,pF (le_ff h1),pF (le_ff h2)] (by kernel_rfl))
theorem rayZ_bd(e:Ed)(px py:Int):(rayZ e px py).natAbs<=1:=by unfold rayZ;split;decide;split<;>decide
def dRay:Con:=epC 145 b27 (fun e px py=>.one (inV (rayZ e px py) 1)) fun e px py h hb=>(ray_ok e px py h hb).bd (rayZ_bd e px py)
end
end Go.Proofs.YtceemiodpccbhaaGreat
