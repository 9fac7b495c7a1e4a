import Derived.Test.YtceemiodpccbhaaGreatS35
set_option linter.unusedVariables false
set_option linter.unusedSimpArgs false

namespace Go.Proofs.YtceemiodpccbhaaGreat

set_option maxRecDepth 1000000
section
open Go.RowKit
def KSa:List Con:=[cGapF,cTouch,cLeastG,cBord,cHolds,cRtOf,cNOf,cRight,cCmp,cCmpInt]
def pC:Pf:=⟨true=true,rfl⟩
theorem sanity10:Fok Tryz.prog 10 [] (.one (blV true)) :=
 fokL [] KSa _ (LT.cons san_10 LT.nil) (List.replicate 24 true) (List.replicate 13 pC++([pR (blV true),pR (blV true),pR (blV true),pR (ptrN 16),⟨It.sl 15 4 7=It.sl 15 4 7,rfl⟩]++List.replicate 11 pC)) (by kernel_rfl)
theorem sanC (w:World):Calls Tryz.prog 10 #[] w fun e w'=>e=.returned (.bool true)/\Ext w w' :=
 (sanity10 w [] rfl).mono fun e w' ⟨v,e1,h1,h2⟩=>⟨by rw [e1,(rv_v.1 h1).2],h2⟩
end

set_option maxRecDepth 100000
section
open Go.RowKit
def KMd:List Con:=[dQuart,dApply]
def roundQ (px py r w h:Int):Sh :=
 let q:=fun (t x y:Int)=>applyQ 0 0 t false x y
 let n0:=(px+r+(q 0 w 0).1,py+(q 0 w 0).2)
 let c0:=(n0.1+(q 0 0 r).1,n0.2+(q 0 0 r).2)
 let e0:=(c0.1+(q 0 r 0).1,c0.2+(q 0 r 0).2)
 let n1:=(e0.1+(q 1 h 0).1,e0.2+(q 1 h 0).2)
 let c1:=(n1.1+(q 1 0 r).1,n1.2+(q 1 0 r).2)
 let e1:=(c1.1+(q 1 r 0).1,c1.2+(q 1 r 0).2)
 let n2:=(e1.1+(q 2 w 0).1,e1.2+(q 2 w 0).2)
 let c2:=(n2.1+(q 2 0 r).1,n2.2+(q 2 0 r).2)
 let e2:=(c2.1+(q 2 r 0).1,c2.2+(q 2 r 0).2)
 let n3:=(e2.1+(q 3 h 0).1,e2.2+(q 3 h 0).2)
 let c3:=(n3.1+(q 3 0 r).1,n3.2+(q 3 0 r).2)
 let e3:=(c3.1+(q 3 r 0).1,c3.2+(q 3 r 0).2)
 shL' 2 [lnEd (px+r) py n0.1 n0.2,⟨2,n0.1,n0.2,e0.1,e0.2,c0.1,c0.2⟩,lnEd e0.1 e0.2 n1.1 n1.2,⟨2,n1.1,n1.2,e1.1,e1.2,c1.1,c1.2⟩,
  lnEd e1.1 e1.2 n2.1 n2.2,⟨2,n2.1,n2.2,e2.1,e2.2,c2.1,c2.2⟩,lnEd e2.1 e2.2 n3.1 n3.2,⟨2,n3.1,n3.2,e3.1,e3.2,c3.1,c3.2⟩] 0
theorem roundQ_eq (px py r w h:Int):roundQ px py r w h=roundS px py r w h:=by
 have m0:modZ 0 4=0:=by decide
 have m1:modZ 1 4=1:=by decide
 have m2:modZ 2 4=2:=by decide
 have m3:modZ 3 4=3:=by decide
 have ex:∀ {a b c d e f a' b' c' d' e' f':Int},a=a'->b=b'->c=c'->d=d'->e=e'->f=f'->(⟨2,a,b,c,d,e,f⟩:Ed)=⟨2,a',b',c',d',e',f'⟩:=fun h1 h2 h3 h4 h5 h6=>by rw [h1,h2,h3,h4,h5,h6]
 have lx:∀ {a b c d a' b' c' d':Int},a=a'->b=b'->c=c'->d=d'->lnEd a b c d=lnEd a' b' c' d':=fun h1 h2 h3 h4=>by rw [h1,h2,h3,h4]
 unfold roundQ roundS
 simp only [tn0 m0,tn1 m1,tn2 m2,tn3 m3,Bool.false_eq_true,if_false]
 refine congrArg (fun l=>shL' 2 l 0) ?_
 refine congr (congrArg List.cons (lx ?_ ?_ ?_ ?_)) (congr (congrArg List.cons (ex ?_ ?_ ?_ ?_ ?_ ?_)) (congr (congrArg List.cons (lx ?_ ?_ ?_ ?_)) (congr (congrArg List.cons (ex ?_ ?_ ?_ ?_ ?_ ?_)) (congr (congrArg List.cons (lx ?_ ?_ ?_ ?_)) (congr (congrArg List.cons (ex ?_ ?_ ?_ ?_ ?_ ?_)) (congr (congrArg List.cons (lx ?_ ?_ ?_ ?_)) (congr (congrArg List.cons (ex ?_ ?_ ?_ ?_ ?_ ?_)) rfl)))))))<;>omega
theorem made_0 (L:List Int) (h0:nV L 2 6=0):Fok Tryz.prog 12 [⟨false,[.ds L]⟩] (.one (shpV (madeS L))):=by
 unfold madeS
 simp only [if_pos h0]
 exact fokS [xNext] KMd [true] [pT (bq_T h0)] (by kernel_rfl)
theorem made_1 (L:List Int) (h0:¬ nV L 2 6=0) (h1:nV L 2 6=1):Fok Tryz.prog 12 [⟨false,[.ds L]⟩] (.one (shpV (madeS L))):=by
 unfold madeS
 simp only [if_neg h0,if_pos h1]
 rw [<- roundQ_eq]
 exact fokS [xNext] KMd [false,true] [pF (bq_F h0),pT (bq_T h1)] (by kernel_rfl)
theorem made_2 (L:List Int) (h0:¬ nV L 2 6=0) (h1:¬ nV L 2 6=1) (h2:nV L 2 6=2):Fok Tryz.prog 12 [⟨false,[.ds L]⟩] (.one (shpV (madeS L))):=by
 unfold madeS
 simp only [if_neg h0,if_neg h1,if_pos h2]
 exact fokS [xNext] KMd [false,false,true] [pF (bq_F h0),pF (bq_F h1),pT (bq_T h2)] (by kernel_rfl)
theorem made_3 (L:List Int) (h0:¬ nV L 2 6=0) (h1:¬ nV L 2 6=1) (h2:¬ nV L 2 6=2) (h3:nV L 2 6=3):Fok Tryz.prog 12 [⟨false,[.ds L]⟩] (.one (shpV (madeS L))):=by
 unfold madeS
 simp only [if_neg h0,if_neg h1,if_neg h2,if_pos h3]
 exact fokS [xNext] KMd [false,false,false,true] [pF (bq_F h0),pF (bq_F h1),pF (bq_F h2),pT (bq_T h3)] (by kernel_rfl)
theorem path_T {L:List Int} {a:Nat} (h:nV L (a+2) 2=1):pathB L a=true:=by unfold pathB;simpa using h
theorem path_F {L:List Int} {a:Nat} (h:¬ nV L (a+2) 2=1):pathB L a=false:=by unfold pathB;simpa using h
def NoK (L:List Int):Prop:=¬ nV L 2 6=0/\¬ nV L 2 6=1/\¬ nV L 2 6=2/\¬ nV L 2 6=3
theorem path_1T (L:List Int) (k:NoK L) (hm:nV L 4 3=0) (g0:nV L 7 2=1):Fok Tryz.prog 12 [⟨false,[.ds L]⟩] (.one (shpV (shL' 1 (pathL L 1 5 (nV L 0 50) (nV L 1 50)) (nV L 3 6)))):=by
 simp only [pathL,pathE,pathN,Nat.reduceAdd,path_T (a:=5) g0,if_true,if_false,Bool.false_eq_true]
 exact fokS [xNext] KMd [false,false,false,false,true,true,false] [pF (bq_F k.1),pF (bq_F k.2.1),pF (bq_F k.2.2.1),pF (bq_F k.2.2.2),pT (decide_eq_true (show (0:Int) < 1+nV L 4 3 by omega)),pT (bq_T g0),pF (decide_eq_false (show ¬ (0+1:Int) < 1+nV L 4 3 by omega))] (by kernel_rfl)
theorem path_1F (L:List Int) (k:NoK L) (hm:nV L 4 3=0) (g0:¬ nV L 7 2=1):Fok Tryz.prog 12 [⟨false,[.ds L]⟩] (.one (shpV (shL' 1 (pathL L 1 5 (nV L 0 50) (nV L 1 50)) (nV L 3 6)))):=by
 simp only [pathL,pathE,pathN,Nat.reduceAdd,path_F (a:=5) g0,if_true,if_false,Bool.false_eq_true]
 exact fokS [xNext] KMd [false,false,false,false,true,false,false] [pF (bq_F k.1),pF (bq_F k.2.1),pF (bq_F k.2.2.1),pF (bq_F k.2.2.2),pT (decide_eq_true (show (0:Int) < 1+nV L 4 3 by omega)),pF (bq_F g0),pF (decide_eq_false (show ¬ (0+1:Int) < 1+nV L 4 3 by omega))] (by kernel_rfl)
theorem path_2TT (L:List Int) (k:NoK L) (hm:nV L 4 3=1) (g0:nV L 7 2=1) (g1:nV L 13 2=1):Fok Tryz.prog 12 [⟨false,[.ds L]⟩] (.one (shpV (shL' 1 (pathL L 2 5 (nV L 0 50) (nV L 1 50)) (nV L 3 6)))):=by
 simp only [pathL,pathE,pathN,Nat.reduceAdd,path_T (a:=5) g0,path_T (a:=11) g1,if_true,if_false,Bool.false_eq_true]
 exact fokS [xNext] KMd [false,false,false,false,true,true,true,true,false] [pF (bq_F k.1),pF (bq_F k.2.1),pF (bq_F k.2.2.1),pF (bq_F k.2.2.2),pT (decide_eq_true (show (0:Int) < 1+nV L 4 3 by omega)),pT (bq_T g0),pT (decide_eq_true (show (0+1:Int) < 1+nV L 4 3 by omega)),pT (bq_T g1),pF (decide_eq_false (show ¬ (0+1+1:Int) < 1+nV L 4 3 by omega))] (by kernel_rfl)
theorem path_2TF (L:List Int) (k:NoK L) (hm:nV L 4 3=1) (g0:nV L 7 2=1) (g1:¬ nV L 13 2=1):Fok Tryz.prog 12 [⟨false,[.ds L]⟩] (.one (shpV (shL' 1 (pathL L 2 5 (nV L 0 50) (nV L 1 50)) (nV L 3 6)))):=by
 simp only [pathL,pathE,pathN,Nat.reduceAdd,path_T (a:=5) g0,path_F (a:=11) g1,if_true,if_false,Bool.false_eq_true]
 exact fokS [xNext] KMd [false,false,false,false,true,true,true,false,false] [pF (bq_F k.1),pF (bq_F k.2.1),pF (bq_F k.2.2.1),pF (bq_F k.2.2.2),pT (decide_eq_true (show (0:Int) < 1+nV L 4 3 by omega)),pT (bq_T g0),pT (decide_eq_true (show (0+1:Int) < 1+nV L 4 3 by omega)),pF (bq_F g1),pF (decide_eq_false (show ¬ (0+1+1:Int) < 1+nV L 4 3 by omega))] (by kernel_rfl)
theorem path_2FT (L:List Int) (k:NoK L) (hm:nV L 4 3=1) (g0:¬ nV L 7 2=1) (g1:nV L 10 2=1):Fok Tryz.prog 12 [⟨false,[.ds L]⟩] (.one (shpV (shL' 1 (pathL L 2 5 (nV L 0 50) (nV L 1 50)) (nV L 3 6)))):=by
 simp only [pathL,pathE,pathN,Nat.reduceAdd,path_F (a:=5) g0,path_T (a:=8) g1,if_true,if_false,Bool.false_eq_true]
 exact fokS [xNext] KMd [false,false,false,false,true,false,true,true,false] [pF (bq_F k.1),pF (bq_F k.2.1),pF (bq_F k.2.2.1),pF (bq_F k.2.2.2),pT (decide_eq_true (show (0:Int) < 1+nV L 4 3 by omega)),pF (bq_F g0),pT (decide_eq_true (show (0+1:Int) < 1+nV L 4 3 by omega)),pT (bq_T g1),pF (decide_eq_false (show ¬ (0+1+1:Int) < 1+nV L 4 3 by omega))] (by kernel_rfl)
theorem path_2FF (L:List Int) (k:NoK L) (hm:nV L 4 3=1) (g0:¬ nV L 7 2=1) (g1:¬ nV L 10 2=1):Fok Tryz.prog 12 [⟨false,[.ds L]⟩] (.one (shpV (shL' 1 (pathL L 2 5 (nV L 0 50) (nV L 1 50)) (nV L 3 6)))):=by
 simp only [pathL,pathE,pathN,Nat.reduceAdd,path_F (a:=5) g0,path_F (a:=8) g1,if_true,if_false,Bool.false_eq_true]
 exact fokS [xNext] KMd [false,false,false,false,true,false,true,false,false] [pF (bq_F k.1),pF (bq_F k.2.1),pF (bq_F k.2.2.1),pF (bq_F k.2.2.2),pT (decide_eq_true (show (0:Int) < 1+nV L 4 3 by omega)),pF (bq_F g0),pT (decide_eq_true (show (0+1:Int) < 1+nV L 4 3 by omega)),pF (bq_F g1),pF (decide_eq_false (show ¬ (0+1+1:Int) < 1+nV L 4 3 by omega))] (by kernel_rfl)
theorem path_3TTT (L:List Int) (k:NoK L) (hm:nV L 4 3=2) (g0:nV L 7 2=1) (g1:nV L 13 2=1) (g2:nV L 19 2=1):Fok Tryz.prog 12 [⟨false,[.ds L]⟩] (.one (shpV (shL' 1 (pathL L 3 5 (nV L 0 50) (nV L 1 50)) (nV L 3 6)))):=by
 simp only [pathL,pathE,pathN,Nat.reduceAdd,path_T (a:=5) g0,path_T (a:=11) g1,path_T (a:=17) g2,if_true,if_false,Bool.false_eq_true]
 exact fokS [xNext] KMd [false,false,false,false,true,true,true,true,true,true,false] [pF (bq_F k.1),pF (bq_F k.2.1),pF (bq_F k.2.2.1),pF (bq_F k.2.2.2),pT (decide_eq_true (show (0:Int) < 1+nV L 4 3 by omega)),pT (bq_T g0),pT (decide_eq_true (show (0+1:Int) < 1+nV L 4 3 by omega)),pT (bq_T g1),pT (decide_eq_true (show (0+1+1:Int) < 1+nV L 4 3 by omega)),pT (bq_T g2),pF (decide_eq_false (show ¬ (0+1+1+1:Int) < 1+nV L 4 3 by omega))] (by kernel_rfl)
theorem path_3TTF (L:List Int) (k:NoK L) (hm:nV L 4 3=2) (g0:nV L 7 2=1) (g1:nV L 13 2=1) (g2:¬ nV L 19 2=1):Fok Tryz.prog 12 [⟨false,[.ds L]⟩] (.one (shpV (shL' 1 (pathL L 3 5 (nV L 0 50) (nV L 1 50)) (nV L 3 6)))):=by
 simp only [pathL,pathE,pathN,Nat.reduceAdd,path_T (a:=5) g0,path_T (a:=11) g1,path_F (a:=17) g2,if_true,if_false,Bool.false_eq_true]
 exact fokS [xNext] KMd [false,false,false,false,true,true,true,true,true,false,false] [pF (bq_F k.1),pF (bq_F k.2.1),pF (bq_F k.2.2.1),pF (bq_F k.2.2.2),pT (decide_eq_true (show (0:Int) < 1+nV L 4 3 by omega)),pT (bq_T g0),pT (decide_eq_true (show (0+1:Int) < 1+nV L 4 3 by omega)),pT (bq_T g1),pT (decide_eq_true (show (0+1+1:Int) < 1+nV L 4 3 by omega)),pF (bq_F g2),pF (decide_eq_false (show ¬ (0+1+1+1:Int) < 1+nV L 4 3 by omega))] (by kernel_rfl)
theorem path_3TFT (L:List Int) (k:NoK L) (hm:nV L 4 3=2) (g0:nV L 7 2=1) (g1:¬ nV L 13 2=1) (g2:nV L 16 2=1):Fok Tryz.prog 12 [⟨false,[.ds L]⟩] (.one (shpV (shL' 1 (pathL L 3 5 (nV L 0 50) (nV L 1 50)) (nV L 3 6)))):=by
 simp only [pathL,pathE,pathN,Nat.reduceAdd,path_T (a:=5) g0,path_F (a:=11) g1,path_T (a:=14) g2,if_true,if_false,Bool.false_eq_true]
 exact fokS [xNext] KMd [false,false,false,false,true,true,true,false,true,true,false] [pF (bq_F k.1),pF (bq_F k.2.1),pF (bq_F k.2.2.1),pF (bq_F k.2.2.2),pT (decide_eq_true (show (0:Int) < 1+nV L 4 3 by omega)),pT (bq_T g0),pT (decide_eq_true (show (0+1:Int) < 1+nV L 4 3 by omega)),pF (bq_F g1),pT (decide_eq_true (show (0+1+1:Int) < 1+nV L 4 3 by omega)),pT (bq_T g2),pF (decide_eq_false (show ¬ (0+1+1+1:Int) < 1+nV L 4 3 by omega))] (by kernel_rfl)
theorem path_3TFF (L:List Int) (k:NoK L) (hm:nV L 4 3=2) (g0:nV L 7 2=1) (g1:¬ nV L 13 2=1) (g2:¬ nV L 16 2=1):Fok Tryz.prog 12 [⟨false,[.ds L]⟩] (.one (shpV (shL' 1 (pathL L 3 5 (nV L 0 50) (nV L 1 50)) (nV L 3 6)))):=by
 simp only [pathL,pathE,pathN,Nat.reduceAdd,path_T (a:=5) g0,path_F (a:=11) g1,path_F (a:=14) g2,if_true,if_false,Bool.false_eq_true]
 exact fokS [xNext] KMd [false,false,false,false,true,true,true,false,true,false,false] [pF (bq_F k.1),pF (bq_F k.2.1),pF (bq_F k.2.2.1),pF (bq_F k.2.2.2),pT (decide_eq_true (show (0:Int) < 1+nV L 4 3 by omega)),pT (bq_T g0),pT (decide_eq_true (show (0+1:Int) < 1+nV L 4 3 by omega)),pF (bq_F g1),pT (decide_eq_true (show (0+1+1:Int) < 1+nV L 4 3 by omega)),pF (bq_F g2),pF (decide_eq_false (show ¬ (0+1+1+1:Int) < 1+nV L 4 3 by omega))] (by kernel_rfl)
theorem path_3FTT (L:List Int) (k:NoK L) (hm:nV L 4 3=2) (g0:¬ nV L 7 2=1) (g1:nV L 10 2=1) (g2:nV L 16 2=1):Fok Tryz.prog 12 [⟨false,[.ds L]⟩] (.one (shpV (shL' 1 (pathL L 3 5 (nV L 0 50) (nV L 1 50)) (nV L 3 6)))):=by
 simp only [pathL,pathE,pathN,Nat.reduceAdd,path_F (a:=5) g0,path_T (a:=8) g1,path_T (a:=14) g2,if_true,if_false,Bool.false_eq_true]
 exact fokS [xNext] KMd [false,false,false,false,true,false,true,true,true,true,false] [pF (bq_F k.1),pF (bq_F k.2.1),pF (bq_F k.2.2.1),pF (bq_F k.2.2.2),pT (decide_eq_true (show (0:Int) < 1+nV L 4 3 by omega)),pF (bq_F g0),pT (decide_eq_true (show (0+1:Int) < 1+nV L 4 3 by omega)),pT (bq_T g1),pT (decide_eq_true (show (0+1+1:Int) < 1+nV L 4 3 by omega)),pT (bq_T g2),pF (decide_eq_false (show ¬ (0+1+1+1:Int) < 1+nV L 4 3 by omega))] (by kernel_rfl)
theorem path_3FTF (L:List Int) (k:NoK L) (hm:nV L 4 3=2) (g0:¬ nV L 7 2=1) (g1:nV L 10 2=1) (g2:¬ nV L 16 2=1):Fok Tryz.prog 12 [⟨false,[.ds L]⟩] (.one (shpV (shL' 1 (pathL L 3 5 (nV L 0 50) (nV L 1 50)) (nV L 3 6)))):=by
 simp only [pathL,pathE,pathN,Nat.reduceAdd,path_F (a:=5) g0,path_T (a:=8) g1,path_F (a:=14) g2,if_true,if_false,Bool.false_eq_true]
 exact fokS [xNext] KMd [false,false,false,false,true,false,true,true,true,false,false] [pF (bq_F k.1),pF (bq_F k.2.1),pF (bq_F k.2.2.1),pF (bq_F k.2.2.2),pT (decide_eq_true (show (0:Int) < 1+nV L 4 3 by omega)),pF (bq_F g0),pT (decide_eq_true (show (0+1:Int) < 1+nV L 4 3 by omega)),pT (bq_T g1),pT (decide_eq_true (show (0+1+1:Int) < 1+nV L 4 3 by omega)),pF (bq_F g2),pF (decide_eq_false (show ¬ (0+1+1+1:Int) < 1+nV L 4 3 by omega))] (by kernel_rfl)
theorem path_3FFT (L:List Int) (k:NoK L) (hm:nV L 4 3=2) (g0:¬ nV L 7 2=1) (g1:¬ nV L 10 2=1) (g2:nV L 13 2=1):Fok Tryz.prog 12 [⟨false,[.ds L]⟩] (.one (shpV (shL' 1 (pathL L 3 5 (nV L 0 50) (nV L 1 50)) (nV L 3 6)))):=by
 simp only [pathL,pathE,pathN,Nat.reduceAdd,path_F (a:=5) g0,path_F (a:=8) g1,path_T (a:=11) g2,if_true,if_false,Bool.false_eq_true]
 exact fokS [xNext] KMd [false,false,false,false,true,false,true,false,true,true,false] [pF (bq_F k.1),pF (bq_F k.2.1),pF (bq_F k.2.2.1),pF (bq_F k.2.2.2),pT (decide_eq_true (show (0:Int) < 1+nV L 4 3 by omega)),pF (bq_F g0),pT (decide_eq_true (show (0+1:Int) < 1+nV L 4 3 by omega)),pF (bq_F g1),pT (decide_eq_true (show (0+1+1:Int) < 1+nV L 4 3 by omega)),pT (bq_T g2),pF (decide_eq_false (show ¬ (0+1+1+1:Int) < 1+nV L 4 3 by omega))] (by kernel_rfl)
theorem path_3FFF (L:List Int) (k:NoK L) (hm:nV L 4 3=2) (g0:¬ nV L 7 2=1) (g1:¬ nV L 10 2=1) (g2:¬ nV L 13 2=1):Fok Tryz.prog 12 [⟨false,[.ds L]⟩] (.one (shpV (shL' 1 (pathL L 3 5 (nV L 0 50) (nV L 1 50)) (nV L 3 6)))):=by
 simp only [pathL,pathE,pathN,Nat.reduceAdd,path_F (a:=5) g0,path_F (a:=8) g1,path_F (a:=11) g2,if_true,if_false,Bool.false_eq_true]
 exact fokS [xNext] KMd [false,false,false,false,true,false,true,false,true,false,false] [pF (bq_F k.1),pF (bq_F k.2.1),pF (bq_F k.2.2.1),pF (bq_F k.2.2.2),pT (decide_eq_true (show (0:Int) < 1+nV L 4 3 by omega)),pF (bq_F g0),pT (decide_eq_true (show (0+1:Int) < 1+nV L 4 3 by omega)),pF (bq_F g1),pT (decide_eq_true (show (0+1+1:Int) < 1+nV L 4 3 by omega)),pF (bq_F g2),pF (decide_eq_false (show ¬ (0+1+1+1:Int) < 1+nV L 4 3 by omega))] (by kernel_rfl)
theorem made_fok (L:List Int):Fok Tryz.prog 12 [⟨false,[.ds L]⟩] (.one (shpV (madeS L))):=by
 by_cases h0:nV L 2 6=0
 ·exact made_0 L h0
 by_cases h1:nV L 2 6=1
 ·exact made_1 L h0 h1
 by_cases h2:nV L 2 6=2
 ·exact made_2 L h0 h1 h2
 by_cases h3:nV L 2 6=3
 ·exact made_3 L h0 h1 h2 h3
 have k:NoK L:=⟨h0,h1,h2,h3⟩
 have hb:=nV_bd L 4 (m:=3) (by omega)
 unfold madeS
 simp only [if_neg h0,if_neg h1,if_neg h2,if_neg h3]
 obtain hm | hm | hm:nV L 4 3=0\/nV L 4 3=1\/nV L 4 3=2:=by omega
 ·rw [show (1 + nV L 4 3).toNat = 1 by omega]
  by_cases g0:nV L 7 2=1
  ·exact path_1T L k hm g0
  ·exact path_1F L k hm g0
 ·rw [show (1 + nV L 4 3).toNat = 2 by omega]
  by_cases g0:nV L 7 2=1
  ·by_cases g1 : nV L 13 2 = 1
   ·exact path_2TT L k hm g0 g1
   ·exact path_2TF L k hm g0 g1
  ·by_cases g1 : nV L 10 2 = 1
   ·exact path_2FT L k hm g0 g1
   ·exact path_2FF L k hm g0 g1
 ·rw [show (1 + nV L 4 3).toNat = 3 by omega]
  by_cases g0:nV L 7 2=1
  ·by_cases g1 : nV L 13 2 = 1
   ·by_cases g2 : nV L 19 2 = 1
    ·exact path_3TTT L k hm g0 g1 g2
    ·exact path_3TTF L k hm g0 g1 g2
   ·by_cases g2 : nV L 16 2 = 1
    ·exact path_3TFT L k hm g0 g1 g2
    ·exact path_3TFF L k hm g0 g1 g2
  ·by_cases g1 : nV L 10 2 = 1
   ·by_cases g2 : nV L 16 2 = 1
    ·exact path_3FTT L k hm g0 g1 g2
    ·exact path_3FTF L k hm g0 g1 g2
   ·by_cases g2 : nV L 13 2 = 1
    ·exact path_3FFT L k hm g0 g1 g2
    ·exact path_3FFF L k hm g0 g1 g2
end

set_option maxHeartbeats 1000000
set_option maxRecDepth 100000
section
open Go.RowKit
def rowL (e:Nat->Ed):Nat->List Value
 | 0=>[]
 | n+1=>rowL e n++edL (e n)
theorem edL_len (e:Ed):(edL e).length=7:=rfl
theorem rowL_len (e:Nat->Ed):∀ n,(rowL e n).length=n*7
 | 0=>rfl
 | n+1=>by rw [rowL,List.length_append,rowL_len e n,edL_len,Nat.succ_mul]
theorem rowL_at (e:Nat->Ed):∀ (n i t:Nat),i < n->t < 7->(rowL e n)[i*7+t]? = (edL (e i))[t]?
 | 0,_,_,h,_=>absurd h (Nat.not_lt_zero _)
 | n+1,i,t,h,ht=>by
  rw [rowL]
  by_cases hi:i < n
  ·rw [List.getElem?_append_left (by rw [rowL_len]; omega)]
   exact rowL_at e n i t hi ht
  ·obtain rfl : i = n := by omega
   rw [List.getElem?_append_right (by rw [rowL_len];omega),rowL_len]
   congr 1
   omega
theorem rowL_one (e:Nat->Ed):∀ n,∀ v ∈ rowL e n,v.oneCell'=true
 | 0,v,h=>by cases h
 | n+1,v,h=>by
  rw [rowL] at h
  rcases List.mem_append.1 h with h | h
  ·exact rowL_one e n v h
  ·exact edL_one (e n) v h
theorem edAt_cell {w:World} {g o t:Nat} {e:Ed} {u:Value} (h:EdAt w g o e) (hu:(edL e)[t]? = some u):w.cell? ⟨g,o+t,none⟩=some u:=by
 obtain ⟨h0,h1,h2,h3,h4,h5,h6⟩:=h
 have ht:t < 7:=by have:=(List.getElem?_eq_some_iff.1 hu).1;simpa [edL] using this
 obtain rfl | rfl | rfl | rfl | rfl | rfl | rfl:t=0\/t=1\/t=2\/t=3\/t=4\/t=5\/t=6:=by omega
 all_goals (simp only [edL,List.getElem?_cons_succ,List.getElem?_cons_zero,Option.some.injEq] at hu;subst hu;assumption)
theorem infoEd:(Tryz.prog.info? 70).map (fun i=>(i.zero,i.size,i.bytes))=some (some (.agg #[.int .i64 0,.int .i64 0,.int .i64 0,.int .i64 0,.int .i64 0,.int .i64 0,.int .i64 0]),7,56):=by kernel_rfl
def NewE (w:World) (e:Nat->Ed) (n:Nat) (v:Value) (w':World):Prop:=∃ g c cur,v=.slice (some ⟨g,0,none⟩) n c/\w.heap.size<=g/\w'.heap[g]? = some (.cells cur 70)/\n<=c/\c<=maxLen/\cur.toList.take (n*7)=rowL e n/\Ext w w'
theorem cloneEd (n:Nat) (e:Nat->Ed) (p:Option Addr) (c:Nat) (w:World) (hR:EdRow w.heap.size w p n e) (h1:1<=n) (hn:n<=1000) :
  Calls Tryz.prog 54 #[.slice p n c] w fun x w'=>∃ v,x=.returned v/\NewE w e n v w':=by
 obtain ⟨b,o,rfl,hb,_⟩:=hR 0 (by omega)
 obtain ⟨i,hi,hz0,hz1,hz2⟩:=info_parts infoEd
 have qT:∀ (w:World) (a:Option Addr) (n c n' c':Nat),(binOp .eql 22 (.slice a n c) (.slice none n' c')).run Tryz.prog w=.ok (.bool a.isNone) w :=
  fun w a n c n' c'=>Lib.run_eql_slice_nil w _ _ a n c n' c' Tryz.underlying22
 have hnews:∀ j u,(rowL e n)[j]? = some u->w.cell? ⟨b,o+j,none⟩=some u:=by
  intro j u hu
  have hj:j < n*7:=by have:=(List.getElem?_eq_some_iff.1 hu).1;rwa [rowL_len] at this
  obtain ⟨g,o',hp,hg,hE⟩:=hR (j / 7) (by omega)
  cases hp
  have hd:j / 7*7+j % 7=j:=by omega
  rw [<- hd] at hu
  rw [rowL_at e n _ _ (by omega) (by omega)] at hu
  have:=edAt_cell hE hu
  rw [Nat.add_assoc,hd] at this
  exact this
 have HN:=Lib.hid hnews
 have H1:=Lib.hid h1
 have HR:=Lib.hid hR
 clear hnews hR h1
 go_enter Tryz.func54,Tryz.ntmps54
 go_wp2_with (at_builtin;refine wpList_append_own _ rfl _ _ 22 rfl w.heap.size 70 i (.agg #[.int .i64 0,.int .i64 0,.int .i64 0,.int .i64 0,.int .i64 0,.int .i64 0,.int .i64 0]) 7 56 Tryz.underlying22 hi hz0 hz1 hz2 rfl (by decide) _ _ _ rfl (World.ownsRow_made w #[] 0 (Nat.le_refl _) (by decide) rfl) ⟨b,o,none⟩ n c (rowL e n) rfl (rowL_len e n) ?c2 (rowL_one e n) ?c3 ?c4 ?c5 ?_)
 case c2=>exact fun j u hu=>by rw [add_none];exact (cell_later ((Below.refl _ _).alloc (Nat.le_refl _) _) (HN.out j u hu))
 case c3=>unfold maxLen;omega
 case c4=>omega
 case c5=>simp
 intro v' w1 hown hgr _
 obtain ⟨_,⟨_,h0⟩ | ⟨g,cp,cur,rfl,hbg,hc,hcp,hmx,hsz,htk⟩⟩:=hown
 ·have:=H1.out;omega
 have fin:Hid (NewE w e n (.slice (some ⟨g,0,none⟩) n cp) w1):=Lib.hid ⟨g,cp,cur,rfl,hbg,hc,by omega,hmx,by simpa using htk,((Below.refl _ _).alloc (Nat.le_refl _) _).grown hgr (by simp) (fun k hk=>by simp [Value.ownBlock] at hk;omega)⟩
 go_wp2
 go_ret
 exact ⟨_,rfl,fin.out⟩
end

section
open Go.RowKit
attribute [local go_sem] Gives givesU
def movS (s:Sh) (x y t:Int) (m:Bool):Sh:=⟨s.k,s.n,fun i=>moveE (s.e i) x y (modZ t 4) m,s.r⟩
def ptE (e f:Nat->Ed) (k i:Nat):Ed:=if i < k then f i else e i
theorem rowL_congr {e e':Nat->Ed}:∀ {n:Nat},(∀ i,i < n->e i=e' i)->rowL e n=rowL e' n
 | 0,_=>rfl
 | n+1,h=>by rw [rowL,rowL,rowL_congr fun i hi=>h i (by omega),h n (by omega)]
theorem rowL_split (e:Nat->Ed) {k:Nat}:∀ {n:Nat},k < n->rowL e n=rowL e k++(edL (e k)++rowL (fun i=>e (k+1+i)) (n - k - 1))
 | 0,h=>absurd h (Nat.not_lt_zero _)
 | n+1,h=>by
  by_cases hk:k=n
  ·subst hk
   rw [show k+1 - k - 1=0 by omega]
   simp [rowL]
  ·rw [show n + 1 - k - 1 = (n - k - 1) + 1 by omega, rowL, rowL, rowL_split e (show k < n by omega), show k + 1 + (n - k - 1) = n by omega]
   simp only [List.append_assoc]
theorem row_take (e:Nat->Ed) {k n:Nat} (h:k < n) (sl:List Value):(rowL e n++sl).take (k*7)=rowL e k:=by
 rw [rowL_split e h,List.append_assoc,<- rowL_len e k,List.take_left]
theorem row_mid (e:Nat->Ed) {k n:Nat} (h:k < n) (sl:List Value):((rowL e n++sl).drop (k*7)).take 7=edL (e k):=by
 rw [rowL_split e h,List.append_assoc,<- rowL_len e k,List.drop_left,List.append_assoc]
 exact List.take_left' rfl
theorem row_put (e f:Nat->Ed) {k n:Nat} (h:k < n) (sl:List Value):(rowL (ptE e f k) n++sl).take (k*7)++(edL (f k)++(rowL (ptE e f k) n++sl).drop (k*7+(edL (f k)).length))=rowL (ptE e f (k+1)) n++sl:=by
 rw [row_take _ h,rowL_split (ptE e f (k+1)) h,rowL_split (ptE e f k) h,edL_len]
 rw [show rowL (ptE e f (k+1)) k=rowL (ptE e f k) k from rowL_congr fun i hi=>by unfold ptE;rw [if_pos (by omega),if_pos hi]]
 rw [show ptE e f (k+1) k=f k by unfold ptE;rw [if_pos (by omega)]]
 rw [show (fun i=>ptE e f (k+1) (k+1+i))=(fun i=>ptE e f k (k+1+i)) by funext i;unfold ptE;rw [if_neg (by omega),if_neg (by omega)]]
 simp only [List.append_assoc]
 congr 2
 rw [<- List.drop_drop,<- rowL_len (ptE e f k) k,List.drop_left]
 exact List.drop_left' rfl
theorem row_set {W:World} {B i:Nat} {xs:Array Value} {T:TypeId} (v:Value) (h:W.heap[B]? = some (.cells xs T)):(W.setCell ⟨B,i,none⟩ v).heap[B]? = some (.cells (xs.setIfInBounds i v) T):=by
 have hB:=(Array.getElem?_eq_some_iff.1 h).1
 have e:=(Array.getElem?_eq_some_iff.1 h).2
 rw [Array.getElem?_eq_some_iff]
 refine ⟨by simpa [World.setCell] using hB,?_⟩
 simp only [World.setCell,Array.getElem_modify,if_true,e]
 simp
theorem row_oth {W:World} {B g i:Nat} (v:Value) (h:B ≠ g):(W.setCell ⟨B,i,none⟩ v).heap[g]? = W.heap[g]? := by
 simp [World.setCell,Array.getElem?_modify,h]
structure MI (w W:World) (s:Sh) (x y t:Int) (m:Bool) (g cp:Nat) (sl:List Value) (k:Nat):Prop where
 ex:Ext w W
 b2:W.heap[w.heap.size]? = some (.cells #[.int .i64 s.k,.slice (some ⟨g,0,none⟩) s.n cp,.int .i64 s.r] 24)
 b3:W.heap[w.heap.size+1]? = some (.cells #[.int .i64 x,.int .i64 y,.int .i64 t,.bool m] 59)
 b4:W.heap[w.heap.size+1+1]? = some (.cells #[.int .i64 0,.slice none 0 0,.int .i64 0] 24)
 bg:W.heap[g]? = some (.cells (rowL (ptE s.e (movS s x y t m).e k) s.n++sl).toArray 70)
 lt:w.heap.size+1+1 < g
theorem MI.ext {w W W':World} {s:Sh} {x y t:Int} {m:Bool} {g cp:Nat} {sl:List Value} {k:Nat} (h:MI w W s x y t m g cp sl k) (hx:Ext W W'):MI w W' s x y t m g cp sl k:=⟨Ext.step h.ex hx,heap_ext h.b2 hx,heap_ext h.b3 hx,heap_ext h.b4 hx,heap_ext h.bg hx,h.lt⟩
theorem MI.cells {w W:World} {s:Sh} {x y t:Int} {m:Bool} {g cp:Nat} {sl:List Value} {k:Nat} (h:MI w W s x y t m g cp sl k):(W.cell? ⟨w.heap.size,0,none⟩=some (.int .i64 s.k)/\W.cell? ⟨w.heap.size,1,none⟩=some (.slice (some ⟨g,0,none⟩) s.n cp)/\W.cell? ⟨w.heap.size,2,none⟩=some (.int .i64 s.r)) /\
  W.cell? ⟨w.heap.size+1,0,none⟩=some (.int .i64 x)/\W.cell? ⟨w.heap.size+1,1,none⟩=some (.int .i64 y)/\W.cell? ⟨w.heap.size+1,2,none⟩=some (.int .i64 t)/\W.cell? ⟨w.heap.size+1,3,none⟩=some (.bool m):=by
 have e2:=h.b2
 have e3:=h.b3
 have c2:∀ i,W.cell? ⟨w.heap.size,i,none⟩=(#[.int .i64 s.k,.slice (some ⟨g,0,none⟩) s.n cp,.int .i64 s.r]:Array Value)[i]? := fun i=>by rw [cell_of_row _ _ _ _ _ _ e2]
 have c3:∀ i,W.cell? ⟨w.heap.size+1,i,none⟩=(#[.int .i64 x,.int .i64 y,.int .i64 t,.bool m]:Array Value)[i]? := fun i=>by rw [cell_of_row _ _ _ _ _ _ e3]
 exact ⟨⟨(c2 0).trans rfl,(c2 1).trans rfl,(c2 2).trans rfl⟩,(c3 0).trans rfl,(c3 1).trans rfl,(c3 2).trans rfl,(c3 3).trans rfl⟩
theorem MI.edge {w W:World} {s:Sh} {x y t:Int} {m:Bool} {g cp:Nat} {sl:List Value} {k:Nat} (h:MI w W s x y t m g cp sl k) (hk:k < s.n):EdAt W g (k*7) (s.e k):=by
 have key:∀ j u,(edL (s.e k))[j]? = some u->W.cell? ⟨g,k*7+j,none⟩=some u:=fun j u hu=>by
  have hj:j < 7:=by have:=(List.getElem?_eq_some_iff.1 hu).1;simpa [edL] using this
  rw [cell_of_row _ _ _ _ _ _ h.bg]
  simp only [List.getElem?_toArray]
  rw [List.getElem?_append_left (by rw [rowL_len];omega),rowL_at _ _ _ _ hk hj]
  unfold ptE
  rw [if_neg (Nat.lt_irrefl _)]
  exact hu
 exact ⟨key 0 _ rfl,key 1 _ rfl,key 2 _ rfl,key 3 _ rfl,key 4 _ rfl,key 5 _ rfl,key 6 _ rfl⟩
end

section
open Go.RowKit
section
variable {P:Program} {ops:Array Oper} {S:World->Prop} {Q:Act->World->Prop} {tail:List Oper} {o:Oper} {l:List Oper} {a:Act} {own:List Nat} {F:World->Prop}
theorem T_run {v:Value} (hw:Region.wanted o (yielded ops a.tmps)=true) (hr:∀ w,S w->(execOp a.eval o).run P w=.ok (.value v) w) (h:WpT P ops S Q tail l (a.put o.dst v) own F) :
  WpT P ops S Q tail (o::l) a own F:=.pure v (.inl ⟨hw,hr⟩) h
theorem T_call {v:Value} (hk:fkind o=2) (hw:Region.wanted o (yielded ops a.tmps)=true)
  (hg:∀ w,F w->Gives P o a w (fun u w'=>u=v/\Below w.heap.size w w')) (h:WpT P ops S Q tail l (a.put o.dst v) own F):WpT P ops S Q tail (o::l) a own F:=by
 refine .eff hk hw Unit (fun _=>v) (fun _ _=>True) (fun _ _ _ h _=>h) (fun w hf=>(hg w hf).imp fun u w' h=>⟨(),h.1,h.2,trivial⟩) (fun t ht=>?_)
 have e:(fun w=>F w/\True)=F:=by funext w;simp
 rw [e]
 exact h
theorem T_done (h:WpF P ops (fun _=>True) Q tail a own F):WpT P ops S Q tail [] a own F:=h
end
end

set_option maxHeartbeats 4000000
set_option maxRecDepth 100000
section
open Go.RowKit
attribute [local go_sem] Gives givesU
theorem mvCall {e:Ed} (h:e.ok=true) {x y t:Int} (m:Bool) (hx:x.natAbs<=c26) (hy:y.natAbs<=c26) (ht : -8<=t/\t<=8) (W:World):Calls Tryz.prog 55 #[edA e,.agg #[.int .i64 x,.int .i64 y,.int .i64 t,.bool m]] W fun e' W'=>e'=.returned (edA (moveE e x y (modZ t 4) m))/\Ext W W':=by
 have c:c26<=9223372036854775807:=by decide
 have c8:8<=c26:=by decide
 refine (move_fok e x y t m h ht W _ (rvs_cons.2 ⟨_,edV_rep h,_,rfl,rvs_cons.2 ⟨_,rv_t.2 ⟨_,rl_i.2 ⟨⟨hx,by unfold I64;omega⟩,_,rfl,rl_i.2 ⟨⟨hy,by unfold I64;omega⟩,_,rfl,rl_i.2 ⟨⟨by omega,by unfold I64;omega⟩,_,rfl,rl_v.2 ⟨rfl,_,rfl,rfl⟩⟩⟩⟩,rfl⟩,_,rfl,rfl⟩⟩)).mono ?_
 rintro e' W' ⟨v,rfl,hv,hx⟩
 refine ⟨?_,hx⟩
 have:=toEd_rep (l:=edI (moveE e x y (modZ t 4) m)) rfl hv
 rw [this]
 rfl
theorem moveE_I {e:Ed} (h:e.ok=true) {x y t:Int} (m:Bool) (hx:x.natAbs<=c26) (hy:y.natAbs<=c26):EdI (moveE e x y (modZ t 4) m):=by
 have hk:=kind_of h
 obtain ⟨⟨h1,h2⟩,⟨h3,h4⟩,h5,h6⟩:=ok_right h
 unfold Co at h1 h2 h3 h4 h5 h6
 have b:∀ u v:Int,u.natAbs<=c26->v.natAbs<=c26->I64 (applyP x y (modZ t 4) m u v).1/\I64 (applyP x y (modZ t 4) m u v).2:=fun u v hu hv=>by
  obtain ⟨b1,b2⟩:=applyQ_bd (ax:=x) (ay:=y) (n:=t) (x:=u) (y:=v) (m:=m) hx hy hu hv
  unfold c26 at b1 b2
  unfold applyQ at b1 b2
  unfold I64
  omega
 have c1:=b e.ax e.ay (by unfold c26;omega) (by unfold c26;omega)
 have c2:=b e.bx e.by' (by unfold c26;omega) (by unfold c26;omega)
 have c3:=b e.cx e.cy (by unfold c26;omega) (by unfold c26;omega)
 have k0:I64 (if m then (fam e.k).k else e.k):=by
  rcases hk with k | k | k<;>rw [k]<;>cases m<;>(unfold I64;decide)
 refine ⟨k0,c1.1,c1.2,c2.1,c2.2,?_,?_⟩
 ·show I64 (if e.k = 1 then e.cx else _)
  split
  ·unfold I64;omega
  ·exact c3.1
 ·show I64 (if e.k = 1 then e.cy else _)
  split
  ·unfold I64;omega
  ·exact c3.2
theorem shMove (s:Sh) (x y t:Int) (m:Bool) (p:Option Addr) (c:Nat) (w:World) (h:ShAt w s p c) (h1:1<=s.n) (hn:s.n<=1000) (hok:∀ i,i < s.n->(s.e i).ok=true) (hx:x.natAbs<=c26) (hy:y.natAbs<=c26) (ht : -8<=t/\t<=8) :
  Calls Tryz.prog 22 #[.agg #[.int .i64 s.k,.slice p s.n c,.int .i64 s.r],.agg #[.int .i64 x,.int .i64 y,.int .i64 t,.bool m]] w fun e w'=>∃ g cp,e=.returned (.agg #[.int .i64 s.k,.slice (some ⟨g,0,none⟩) s.n cp,.int .i64 s.r])/\ShAt w' (movS s x y t m) (some ⟨g,0,none⟩) cp/\Ext w w':=by
 have CL:=Lib.hid (fun W (hW:Ext w W)=>cloneEd s.n s.e p c W (h.ext hW).edr h1 hn)
 have MV:=Lib.hid (fun k (hk:k < s.n) W=>mvCall (hok k hk) m hx hy ht W)
 have OK:=Lib.hid (fun i (hi:i < s.n)=>moveE_I (hok i hi) m hx hy (t:=t))
 have H:=Lib.hid h
 have X0:Ext w (((w.alloc (.cells #[.int .i64 s.k,.slice p s.n c,.int .i64 s.r] 24)).alloc (.cells #[.int .i64 x,.int .i64 y,.int .i64 t,.bool m] 59)).alloc (.cells #[.int .i64 0,.slice none 0 0,.int .i64 0] 24)):=bxx
 have X0:=Lib.hid X0
 clear h hok hx hy ht
 go_enter Tryz.func22,Tryz.ntmps22
 go_wp2_with fail
 refine (CL.out _ X0.out).mono ?_
 rintro e W1 ⟨_,rfl,g,cp,cur,rfl,hg,hc,hcp,hmx,htk,hx1⟩
 have M0:MI w (W1.setCell ⟨w.heap.size,1,none⟩ (.slice (some ⟨g,0,none⟩) s.n cp)) s x y t m g cp (cur.toList.drop (s.n*7)) 0:=by
  have a0:=World.alloc_heap_new w (.cells #[.int .i64 s.k,.slice p s.n c,.int .i64 s.r] 24)
  have a1:=World.alloc_heap_new (w.alloc (.cells #[.int .i64 s.k,.slice p s.n c,.int .i64 s.r] 24)) (.cells #[.int .i64 x,.int .i64 y,.int .i64 t,.bool m] 59)
  have a2:=World.alloc_heap_new ((w.alloc (.cells #[.int .i64 s.k,.slice p s.n c,.int .i64 s.r] 24)).alloc (.cells #[.int .i64 x,.int .i64 y,.int .i64 t,.bool m] 59)) (.cells #[.int .i64 0,.slice none 0 0,.int .i64 0] 24)
  have b0:=heap_ext (heap_ext (heap_ext a0 (below_alloc _ _)) (below_alloc _ _)) hx1
  have b1:=heap_ext (heap_ext a1 (below_alloc _ _)) hx1
  have b2:=heap_ext a2 hx1
  simp only [World.size_alloc] at b1 b2 hg
  have hlt:w.heap.size+1+1 < g:=by omega
  refine ⟨(Ext.step X0.out hx1).setCell (p:=⟨w.heap.size,1,none⟩) (Nat.le_refl _) _,?_,?_,?_,?_,hlt⟩
  ·exact row_set _ b0
  ·exact (row_oth _ (by omega)).trans b1
  ·exact (row_oth _ (by omega)).trans b2
  ·refine (row_oth _ (by omega)).trans ?_
   rw [hc,show rowL (ptE s.e (movS s x y t m).e 0) s.n=rowL s.e s.n from rowL_congr fun i _=>if_neg (Nat.not_lt_zero _),<- htk,List.take_append_drop]
 have HM:=Lib.hid M0
 have FN:=Lib.hid hcp
 have FX:=Lib.hid hmx
 clear M0 hc hcp hmx htk hg
 obtain ⟨sl,hsl⟩:∃ sl,cur.toList.drop (s.n*7)=sl:=⟨_,rfl⟩
 rw [hsl] at HM
 clear hsl
 rename_i K1 HK1 K2 HK2
 have hp1:w.heap.size+1+1 < W1.heap.size:=by have:=hx1.size;simp at this;omega
 have c1:W1.heap[w.heap.size]? = some (.cells #[.int .i64 s.k,.slice p s.n c,.int .i64 s.r] 24):=heap_ext (heap_ext (heap_ext (World.alloc_heap_new w _) (below_alloc _ _)) (below_alloc _ _)) hx1
 have fz:W1.frozen? ⟨w.heap.size,1,none⟩=false:=by simp [World.frozen?,c1]
 have k1:W1.cell? ⟨w.heap.size,1,none⟩=some (.slice p s.n c):=by rw [cell_of_row _ _ _ _ _ _ c1];simp
 clear c1
 clear hx1 X0
 go_wp2
 go_loopw [13] (fun i wr=>∃ k:Nat,i=.int .i64 (k:Int)/\k<=s.n/\MI w wr s x y t m g cp sl k) (fun i _=>s.n - (intOf i).toNat)
 case atStart=>exact ⟨0,rfl,Nat.zero_le _,HM.out⟩
 case round =>
  obtain ⟨k,rfl,hk,hM⟩:=hrel
  clear HM fz k1 hp1
  by_cases hlt:k < s.n
  ·obtain ⟨⟨a0, a1, a2⟩, a3, a4, a5, a6⟩ := hM.cells
   have hE:=hM.edge hlt
   have ix0:0<=(k:Int):=by omega
   have ix2:(k:Int) < (s.n:Int):=by omega
   have HM:=Lib.hid hM
   clear hM
   have CC:=Lib.hid (fun W (hW:Ext wr W)=>And.intro (HM.out.ext hW).cells ((HM.out.ext hW).edge hlt))
   obtain ⟨mv,hmv⟩:∃ mv,moveE (s.e k) x y (modZ t 4) m=mv:=⟨_,rfl⟩
   have MVk:=MV.out k hlt
   rw [hmv] at MVk
   unfold edA at MVk
   have MVk:=Lib.hid MVk
   have EM:=Lib.hid hmv
   clear hmv
   go_upto_region 5 with (fail)
   refine wp_region_T 11 (fun W=>Ext wr W) (by kernel_rfl) (by kernel_rfl) (by kernel_rfl) (Below.refl _ _) (fun W W' h hb=>Ext.step h hb) (fun W h=>h.size) ?_
   simp only [List.take_succ_cons,List.take_zero,List.drop_succ_cons,List.drop_zero]
   repeat (refine T_run (v:=?_) (by rfl) ?_ ?_;rotate_left;(· (intro W hW;obtain ⟨⟨⟨a0,a1,a2⟩,a3,a4,a5,a6⟩,e0,e1,e2,e3,e4,e5,e6⟩:=CC.out W hW;go_simp;try with_reducible rfl));simp only [Act.put,List.setIfInBounds_toArray,List.set_cons_zero,List.set_cons_succ])
   (refine T_call (v:=.agg #[.int .i64 mv.k,.int .i64 mv.ax,.int .i64 mv.ay,.int .i64 mv.bx,.int .i64 mv.by',.int .i64 mv.cx,.int .i64 mv.cy]) (by rfl) (by rfl) ?_ ?_;(· (intro W hW;(try dsimp only at hW);go_simp;refine (MVk.out _).mono ?_;rintro e w' ⟨rfl,hx⟩;exact ⟨_,rfl,rfl,hx⟩)));simp only [Act.put,List.setIfInBounds_toArray,List.set_cons_zero,List.set_cons_succ]
   repeat (refine T_run (v:=?_) (by rfl) ?_ ?_;rotate_left;(· (intro W hW;obtain ⟨⟨⟨a0,a1,a2⟩,a3,a4,a5,a6⟩,e0,e1,e2,e3,e4,e5,e6⟩:=CC.out W hW;go_simp;try with_reducible rfl));simp only [Act.put,List.setIfInBounds_toArray,List.set_cons_zero,List.set_cons_succ])
   refine T_done ?_
   refine F_store (fun W=>MI w W s x y t m g cp sl (k+1)) (fun W W' h hb=>h.ext hb) (fun _ _=>trivial) (by rfl) (by rfl) (fun W hW=>?_) ?_
   ·have M := HM.out.ext hW
    have hb:=M.bg
    have hf:(movS s x y t m).e k=mv:=EM.out
    have hp:=row_put s.e (movS s x y t m).e hlt sl
    rw [hf] at hp
    obtain ⟨o1,o2⟩:=onlyB_setRow (cs':=((rowL (ptE s.e (movS s x y t m).e k) s.n++sl).take (k*7)++(edL mv++(rowL (ptE s.e (movS s x y t m).e k) s.n++sl).drop (k*7+(edL mv).length))).toArray) hb
    refine gives_skip (W:=W.setRow g ((rowL (ptE s.e (movS s x y t m).e k) s.n++sl).take (k*7)++(edL mv++(rowL (ptE s.e (movS s x y t m).e k) s.n++sl).drop (k*7+(edL mv).length))).toArray) (ex_store (vs:=edL mv) rfl (by rfl) hb (by rfl) (n:=7) (by kernel_rfl) rfl (by rw [List.length_append,rowL_len,edL_len];omega) (edL_one mv)) ⟨rfl,by rw [o1.size];exact Nat.le_refl _,?_⟩
    have hl:=M.lt
    exact ⟨M.ex.trans (o1.below (by omega)),(o1.block _ (by omega)).trans M.b2,(o1.block _ (by omega)).trans M.b3,(o1.block _ (by omega)).trans M.b4,o2.trans (by rw [hp]),hl⟩
   ·rintro W ⟨hM', _⟩
    have HM2:=Lib.hid hM'
    clear hM'
    have wk:IntKind.i64.wrap ((k:Int)+1)=((k+1:Nat):Int):=by rw [wrap_in (by unfold I64;omega)];omega
    go_wp2
    exact ⟨⟨k+1,by simp,by omega,HM2.out⟩,by simp [intOf];omega⟩
  ·obtain rfl : k = s.n := by omega
   have ix:¬ ((s.n:Int) < (s.n:Int)):=by omega
   obtain ⟨⟨a0,a1,a2⟩,a3,a4,a5,a6⟩:=hM.cells
   have e4:=hM.b4
   have d0:wr.cell? ⟨w.heap.size+1+1,0,none⟩=some (.int .i64 0):=by rw [cell_of_row _ _ _ _ _ _ e4];rfl
   have d1:wr.cell? ⟨w.heap.size+1+1,1,none⟩=some (.slice none 0 0):=by rw [cell_of_row _ _ _ _ _ _ e4];rfl
   have d2:wr.cell? ⟨w.heap.size+1+1,2,none⟩=some (.int .i64 0):=by rw [cell_of_row _ _ _ _ _ _ e4];rfl
   have f4:∀ o,wr.frozen? ⟨w.heap.size+1+1,o,none⟩=false:=fun o=>by simp [World.frozen?,e4]
   have HM:=Lib.hid hM
   clear hM e4
   go_wp2
   refine bodyPost_ret (v:=.agg #[.int .i64 s.k,.slice (some ⟨g,0,none⟩) s.n cp,.int .i64 s.r]) (by simp only [results,Tryz.results22];go_simp) rfl ?_
   have M:=HM.out
   have hl:=M.lt
   refine ⟨g,cp,rfl,?_,?_⟩
   ·have hs := H.out
    refine ⟨hs.k,hs.r,FN.out,FX.out,_,cp,rfl,FN.out,FX.out,fun i hi=>?_⟩
    have hi:i < s.n:=hi
    have hb:(((wr.setCell ⟨w.heap.size+1+1,0,none⟩ (.int .i64 s.k)).setCell ⟨w.heap.size+1+1,1,none⟩ (.slice (some ⟨g,0,none⟩) s.n cp)).setCell ⟨w.heap.size+1+1,2,none⟩ (.int .i64 s.r)).heap[g]? = some (.cells (rowL (ptE s.e (movS s x y t m).e s.n) s.n++sl).toArray 70):=by
     rw [row_oth _ (by omega),row_oth _ (by omega),row_oth _ (by omega)];exact M.bg
    refine ⟨g,0,_,_,rfl,hb,by simp only [List.size_toArray,List.length_append,rowL_len];have:=Nat.mul_le_mul_right 7 (show i<=s.n by omega);omega,edL ((movS s x y t m).e i),((rowL (ptE s.e (movS s x y t m).e s.n) s.n++sl).drop (i*7)).drop 7,?_,?_⟩
    ·have := row_mid (ptE s.e (movS s x y t m).e s.n) hi sl
     rw [show ptE s.e (movS s x y t m).e s.n i=(movS s x y t m).e i from if_pos hi] at this
     show (rowL (ptE s.e (movS s x y t m).e s.n) s.n++sl).drop (0+i*7)=_
     rw [Nat.zero_add,<- this]
     exact (List.take_append_drop 7 _).symm
    ·exact (OK.out i hi).rep _
   ·exact (((M.ex.setCell (p:=⟨w.heap.size+1+1,0,none⟩) (by show w.heap.size<=w.heap.size+1+1;omega) _).setCell (p:=⟨w.heap.size+1+1,1,none⟩) (by show w.heap.size<=w.heap.size+1+1;omega) _).setCell (p:=⟨w.heap.size+1+1,2,none⟩) (by show w.heap.size<=w.heap.size+1+1;omega) _)
end

section
open Go.RowKit
noncomputable def tailF (X:List Eff) (K:List Con) (f:FuncId) (m:Nat) (c:Code) (d:Ds) (q:List Bool):Option (AV × List Prop) :=
 match Tryz.prog.funcs[f]? with
 | none=>none
 | some fn=>match aCodeL Tryz.prog (env X) (callK X K) [] c (mkS m d) q with
  | some (e,s,ps,[])=>(match e with
   | .ex _=>none
   | _=>match aRess Tryz.prog s fn.results.toList with
    | some l=>(match outVs (blI (l.map V1.l).flatten) l,outB s.m (blI (l.map V1.l).flatten) with
     | some l',some []=>some (oneA l',ps)
     | _,_=>none)
    | none=>none)
  | _=>none
theorem tail_wp {X:List Eff} {K:List Con} {f:FuncId} {fn:Func} {m:Nat} {c:Code} {d:Ds} {res:AV} (q:List Bool) (pf:List Pf) (h:tailF X K f m c d q=some (res,pf.map Pf.p)) (hf:Tryz.prog.funcs[f]? = some fn) {V w:World} {a:Act} {R:Ending->World->Prop} (hJ:JJ V (mkS m d) a w) (hR:∀ v w',RepA w' w' (fun _=>0) 0 res v->Ext V w'->R (.returned v) w') :
  c.wp Tryz.prog (bodyPost Tryz.prog fn R) a w:=by
 have hp:=all_pf pf
 generalize pf.map Pf.p=ps at h hp
 unfold tailF at h
 rw [hf] at h
 simp only at h
 split at h
 ·rename_i e s ps1 hc
  split at h
  ·cases h
  ·rename_i hex
   split at h
   ·rename_i l hl
    split at h
    ·rename_i l' hl' hms
     simp only [Option.some.injEq,Prod.mk.injEq] at h
     obtain ⟨h1,rfl⟩:=h
     refine aCodeL_wp (snd_ok X K) LpOk.nil hc hp hJ fun a' W' hJ'=>?_
     have key:=fin_ok hl hl' hms (res:=(res,[])) (by rw [h1]) hJ'
     obtain ⟨k1,v,k2,v',r,cm,k3,k4,k5⟩:=key
     cases k3
     have post:∃ v,(results fn a'.tmps).run Tryz.prog W'=.ok v W'/\R (.returned v) W':=⟨v,k2,hR _ _ (RepA.none k5) k4.ext⟩
     cases e with
     | nm=>exact ⟨k1,post⟩
     | rt=>exact ⟨k1,post⟩
     | ex k=>exact absurd rfl (hex k)
    ·cases h
   ·cases h
 ·cases h
end
end Go.Proofs.YtceemiodpccbhaaGreat
