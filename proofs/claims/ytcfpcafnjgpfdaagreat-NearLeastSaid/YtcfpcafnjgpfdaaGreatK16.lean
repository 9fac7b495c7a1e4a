import Derived.Test.YtcfpcafnjgpfdaaGreatK13
import Derived.Laws.BitsAllLaws
set_option linter.unusedVariables false
set_option linter.unusedSimpArgs false

namespace Go.Proofs.YtcfpcafnjgpfdaaGreat
open Go.RowKit

set_option maxHeartbeats 2000000
set_option maxRecDepth 100000
section
theorem one_news{w:World}(z:Int)(x:Nat)(T:TypeId)(h:z=(x:Int)) :
  ∀j u,[Value.int .u32 (x:Int)][j]? = some u->(w.alloc (.cells #[.int .u32 z] T)).cell? ((⟨w.heap.size,0,none⟩:Addr).add j)=some u:=by
 subst h
 intro j u hu
 cases j with
 | zero =>
  simp only[List.getElem?_cons_zero,Option.some.injEq] at hu
  subst hu
  rw[add_none,cell_of_row _ _ _ _ _ _ (heap_alloc_new w _)]
  rfl
 | succ j=>simp at hu
theorem enc_snoc(o:List Nat)(x:Nat):enc o++[.int .u32 (x:Int)]=enc (o++[x]):=by simp[enc]
theorem enc_len_one(o:List Nat)(x:Nat):(o++[x]).length=o.length+1:=by simp
def RetDigs(w:World)(n:Nat)(e:Ending)(w':World):Prop :=
 ∃p c,e=.returned (.slice p (digs n).length c)/\Row w' p c (digs n)/\New w p/\Ext w w'
theorem ret_u64{a b:Int}(h:a=b):Value.int .u64 a=Value.int .u64 b:=by rw[h]
theorem sum_done{a b o:List Nat}(h:sumInv a b o 0)(h1:a.length<=o.length)(h2:b.length<=o.length):val o=val a+val b:=by
 have:=h.2.2
 rw[val_take_all a _ h1,val_take_all b _ h2] at this
 omega
theorem r01_plus(a b:List Nat)(pa pb:Option Addr)(la ca lb kb:Nat)(w:World)(ha:Row w pa ca a)(hb:Row w pb kb b)(hla:la=a.length)(hlb:lb=b.length)(hal:a.length<=1000)(hbl:b.length<=1000) :
  Calls Tryz.prog 104 #[.slice pa la ca,.slice pb lb kb] w (RetDigs w (val a+val b)):=by
 subst hla hlb
 obtain⟨i,hi,hz0,hz1,hz2⟩:=info_parts info32
 have hac:=ha.le
 have ham:=ha.max
 have hbc:=hb.le
 have hbm:=hb.max
 go_enter Tryz.func104,Tryz.ntmps104
 go_wp2
 go_loopw [5,6,7] (fun v cr k wr=>∃(o:List Nat) (s:Nat),o.length<=1001/\k=.int .i64 (o.length:Int)/\cr=.int .u64 (s:Int)/\sumInv a b o s/\(a.length<o.length->b.length<o.length->s=0)/\o.length<=max a.length b.length+1/\wr.ownsRow w.heap.size 113 1 v o.length (enc o)/\Ext w wr) (fun _ _ k _=>1002-(intOf k).toNat)
 case atStart=>exact⟨[],0,by simp,rfl,rfl,⟨Dig.nil,by omega,by simp[val]⟩,by simp,by simp,World.ownsRow_nil _ _ _ _,bxx⟩
 case round =>
  obtain⟨o,s,ho,rfl,rfl,hinv,hs0,hol,hown,hx⟩:=hrel
  have haw:=ha.ext hx
  have hbw:=hb.ext hx
  have hx1:=ha.dig.getD o.length
  have hy1:=hb.dig.getD o.length
  have INV2:=Lib.hid (sumInv_step ha.dig hb.dig hinv)
  have hs:=hinv.2.1
  rw[List.getD_eq_getElem?_getD] at hx1 hy1
  have INV:=Lib.hid hinv
  have S0:=Lib.hid hs0
  clear hinv hs0
  by_cases ka:o.length<a.length
  ·by_cases kb : o.length < b.length
   ·obtain ⟨ba, oa, rfl, hba, hca⟩ := haw.at (by omega)
    have hca1:=hca _ ka
    obtain⟨x,X⟩:∃x,Hid (a[o.length]?.getD 0=x):=⟨_,rfl⟩
    rw[X.out] at hx1 hca1
    clear hca
    obtain⟨bb,ob,rfl,hbb,hcb⟩:=hbw.at (by omega)
    have hcb1:=hcb _ kb
    obtain⟨y,Y⟩:∃y,Hid (b[o.length]?.getD 0=y):=⟨_,rfl⟩
    rw[Y.out] at hy1 hcb1
    clear hcb
    go_wp2_with (at_builtin;refine wpList_append_own _ rfl _ _ 30 rfl w.heap.size 113 i (.int .u32 0) 1 4 Tryz.underlying30 hi hz0 hz1 hz2 rfl (by decide) _ _ _ rfl (hown.alloc _) ⟨wr.heap.size,0,none⟩ 1 1 [.int .u32 (((s+(x+y))%4294967296:Nat):Int)] rfl rfl (one_news _ _ _ (by omega)) (by intro u hu;simp at hu;subst hu;rfl) (by unfold maxLen;omega) (by omega) (by have:=hx.size;simp;omega) ?_)
    intro v' w1 hown' hgr _
    have hown2:w1.ownsRow w.heap.size 113 1 v' (o.length+1) (enc o++[.int .u32 (((s+(x+y))%4294967296:Nat):Int)]):=hown'
    rw[enc_snoc] at hown2
    have hl:=hown.lt
    have hx2:Ext w w1:=(hx.alloc hx.size _).grown hgr (by have:=hx.size;simp;omega) (fun k hk=>(hl k hk).1)
    have OWN:=Lib.hid hown2
    clear hown' hown2 hgr hown hl
    go_wp2
    have h:=INV2.out
    rw[X.out,Y.out] at h
    exact⟨⟨o++[(s+(x+y))%4294967296],(s+(x+y))/4294967296,by rw[enc_len_one];omega,by rw[enc_len_one];rfl,ret_u64 (by omega),h,by rw[enc_len_one];intro g1 g2;first|omega|(have:=S0.out;omega),by rw[enc_len_one];omega,by rw[enc_len_one];exact OWN.out,hx2⟩,by simp[intOf];omega⟩
   ·have kb2 : b.length <= o.length := by omega
    obtain⟨ba,oa,rfl,hba,hca⟩:=haw.at (by omega)
    have hca1:=hca _ ka
    obtain⟨x,X⟩:∃x,Hid (a[o.length]?.getD 0=x):=⟨_,rfl⟩
    rw[X.out] at hx1 hca1
    clear hca
    obtain⟨y,Y,y0⟩:∃y,Hid (b[o.length]?.getD 0=y)/\Hid (y=0):=⟨_,rfl,by rw[List.getElem?_eq_none (by omega)];rfl⟩
    have hy0:y<=0:=Nat.le_of_eq y0.out
    clear y0
    go_wp2_with (at_builtin;refine wpList_append_own _ rfl _ _ 30 rfl w.heap.size 113 i (.int .u32 0) 1 4 Tryz.underlying30 hi hz0 hz1 hz2 rfl (by decide) _ _ _ rfl (hown.alloc _) ⟨wr.heap.size,0,none⟩ 1 1 [.int .u32 (((s+(x+y))%4294967296:Nat):Int)] rfl rfl (one_news _ _ _ (by omega)) (by intro u hu;simp at hu;subst hu;rfl) (by unfold maxLen;omega) (by omega) (by have:=hx.size;simp;omega) ?_)
    intro v' w1 hown' hgr _
    have hown2:w1.ownsRow w.heap.size 113 1 v' (o.length+1) (enc o++[.int .u32 (((s+(x+y))%4294967296:Nat):Int)]):=hown'
    rw[enc_snoc] at hown2
    have hl:=hown.lt
    have hx2:Ext w w1:=(hx.alloc hx.size _).grown hgr (by have:=hx.size;simp;omega) (fun k hk=>(hl k hk).1)
    have OWN:=Lib.hid hown2
    clear hown' hown2 hgr hown hl
    go_wp2
    have h:=INV2.out
    rw[X.out,Y.out] at h
    exact⟨⟨o++[(s+(x+y))%4294967296],(s+(x+y))/4294967296,by rw[enc_len_one];omega,by rw[enc_len_one];rfl,ret_u64 (by omega),h,by rw[enc_len_one];intro g1 g2;first|omega|(have:=S0.out;omega),by rw[enc_len_one];omega,by rw[enc_len_one];exact OWN.out,hx2⟩,by simp[intOf];omega⟩
  ·have ka2 : a.length <= o.length := by omega
   by_cases kb:o.length<b.length
   ·obtain ⟨x, X, x0⟩ : ∃ x, Hid (a[o.length]?.getD 0 = x) /\ Hid (x = 0) := ⟨_, rfl, by rw [List.getElem?_eq_none (by omega)]; rfl⟩
    have hx0:x<=0:=Nat.le_of_eq x0.out
    clear x0
    obtain⟨bb,ob,rfl,hbb,hcb⟩:=hbw.at (by omega)
    have hcb1:=hcb _ kb
    obtain⟨y,Y⟩:∃y,Hid (b[o.length]?.getD 0=y):=⟨_,rfl⟩
    rw[Y.out] at hy1 hcb1
    clear hcb
    go_wp2_with (at_builtin;refine wpList_append_own _ rfl _ _ 30 rfl w.heap.size 113 i (.int .u32 0) 1 4 Tryz.underlying30 hi hz0 hz1 hz2 rfl (by decide) _ _ _ rfl (hown.alloc _) ⟨wr.heap.size,0,none⟩ 1 1 [.int .u32 (((s+(x+y))%4294967296:Nat):Int)] rfl rfl (one_news _ _ _ (by omega)) (by intro u hu;simp at hu;subst hu;rfl) (by unfold maxLen;omega) (by omega) (by have:=hx.size;simp;omega) ?_)
    intro v' w1 hown' hgr _
    have hown2:w1.ownsRow w.heap.size 113 1 v' (o.length+1) (enc o++[.int .u32 (((s+(x+y))%4294967296:Nat):Int)]):=hown'
    rw[enc_snoc] at hown2
    have hl:=hown.lt
    have hx2:Ext w w1:=(hx.alloc hx.size _).grown hgr (by have:=hx.size;simp;omega) (fun k hk=>(hl k hk).1)
    have OWN:=Lib.hid hown2
    clear hown' hown2 hgr hown hl
    go_wp2
    have h:=INV2.out
    rw[X.out,Y.out] at h
    exact⟨⟨o++[(s+(x+y))%4294967296],(s+(x+y))/4294967296,by rw[enc_len_one];omega,by rw[enc_len_one];rfl,ret_u64 (by omega),h,by rw[enc_len_one];intro g1 g2;first|omega|(have:=S0.out;omega),by rw[enc_len_one];omega,by rw[enc_len_one];exact OWN.out,hx2⟩,by simp[intOf];omega⟩
   ·have kb2 : b.length <= o.length := by omega
    by_cases sz:s=0
    ·subst sz
     have V:=Lib.hid (sum_done INV.out ka2 kb2)
     have d0:=INV.out.1
     obtain⟨p,c,rfl,hrow,hnew⟩:=row_of_owns hown d0
     clear hown haw hbw
     go_wp2_with fail
     refine (r01_trim o _ _ _ _ hrow rfl).mono ?_
     rintro e w1 ⟨rfl,hrow1,hx2⟩
     have hx3:Ext w w1:=Ext.step hx hx2
     have T:trim o=digs (val a+val b):=by rw[<- V.out];rfl
     go_wp2
     go_ret
     rw[T] at hrow1
     exact⟨p,c,rfl,hrow1,hnew,hx3⟩
    ·have sz2 : 0 < s := by omega
     clear sz
     obtain⟨x,X,x0⟩:∃x,Hid (a[o.length]?.getD 0=x)/\Hid (x=0):=⟨_,rfl,by rw[List.getElem?_eq_none (by omega)];rfl⟩
     have hx0:x<=0:=Nat.le_of_eq x0.out
     clear x0
     obtain⟨y,Y,y0⟩:∃y,Hid (b[o.length]?.getD 0=y)/\Hid (y=0):=⟨_,rfl,by rw[List.getElem?_eq_none (by omega)];rfl⟩
     have hy0:y<=0:=Nat.le_of_eq y0.out
     clear y0
     have hol2:o.length<=max a.length b.length:=by
      rcases Nat.lt_or_ge (max a.length b.length) o.length with g|g
      ·have:=S0.out (by omega) (by omega);omega
      ·exact g
     go_wp2_with (at_builtin;refine wpList_append_own _ rfl _ _ 30 rfl w.heap.size 113 i (.int .u32 0) 1 4 Tryz.underlying30 hi hz0 hz1 hz2 rfl (by decide) _ _ _ rfl (hown.alloc _) ⟨wr.heap.size,0,none⟩ 1 1 [.int .u32 (((s+(x+y))%4294967296:Nat):Int)] rfl rfl (one_news _ _ _ (by omega)) (by intro u hu;simp at hu;subst hu;rfl) (by unfold maxLen;omega) (by omega) (by have:=hx.size;simp;omega) ?_)
     intro v' w1 hown' hgr _
     have hown2:w1.ownsRow w.heap.size 113 1 v' (o.length+1) (enc o++[.int .u32 (((s+(x+y))%4294967296:Nat):Int)]):=hown'
     rw[enc_snoc] at hown2
     have hl:=hown.lt
     have hx2:Ext w w1:=(hx.alloc hx.size _).grown hgr (by have:=hx.size;simp;omega) (fun k hk=>(hl k hk).1)
     have OWN:=Lib.hid hown2
     clear hown' hown2 hgr hown hl
     go_wp2
     have h:=INV2.out
     rw[X.out,Y.out] at h
     exact⟨⟨o++[(s+(x+y))%4294967296],(s+(x+y))/4294967296,by rw[enc_len_one];omega,by rw[enc_len_one];rfl,ret_u64 (by omega),h,by rw[enc_len_one];intro g1 g2;first|omega|(have:=S0.out;omega),by rw[enc_len_one];omega,by rw[enc_len_one];exact OWN.out,hx2⟩,by simp[intOf];omega⟩
theorem r01_minus(a b:List Nat)(pa pb:Option Addr)(la ca lb kb:Nat)(w:World)(ha:Row w pa ca a)(hb:Row w pb kb b)(hla:la=a.length)(hlb:lb=b.length)(hal:a.length<=1000)(hbl:b.length<=a.length)(hle:val b<=val a) :
  Calls Tryz.prog 103 #[.slice pa la ca,.slice pb lb kb] w (RetDigs w (val a-val b)):=by
 subst hla hlb
 obtain⟨i,hi,hz0,hz1,hz2⟩:=info_parts info32
 have hac:=ha.le
 have ham:=ha.max
 have hbc:=hb.le
 have hbm:=hb.max
 go_enter Tryz.func103,Tryz.ntmps103
 go_wp2
 go_loopw [5,6,7] (fun v cr k wr=>∃(o:List Nat) (s:Nat),o.length<=a.length/\k=.int .i64 (o.length:Int)/\cr=.int .u64 (s:Int)/\diffInv a b o s/\wr.ownsRow w.heap.size 113 1 v o.length (enc o)/\Ext w wr) (fun _ _ k _=>a.length-(intOf k).toNat)
 case atStart=>exact⟨[],0,by simp,rfl,rfl,⟨Dig.nil,by omega,by simp[val]⟩,World.ownsRow_nil _ _ _ _,bxx⟩
 case round =>
  obtain⟨o,s,ho,rfl,rfl,hinv,hown,hx⟩:=hrel
  have haw:=ha.ext hx
  have hbw:=hb.ext hx
  have hx1:=ha.dig.getD o.length
  have hy1:=hb.dig.getD o.length
  have INV2:=Lib.hid (diffInv_step ha.dig hb.dig hinv)
  have hs:=hinv.2.1
  rw[List.getD_eq_getElem?_getD] at hx1 hy1
  have INV:=Lib.hid hinv
  clear hinv
  by_cases ka:o.length<a.length
  ·obtain ⟨ba, oa, rfl, hba, hca⟩ := haw.at (by omega)
   have hca1:=hca _ ka
   obtain⟨x,X⟩:∃x,Hid (a[o.length]?.getD 0=x):=⟨_,rfl⟩
   rw[X.out] at hx1 hca1
   clear hca
   by_cases kb:o.length<b.length
   ·obtain ⟨bb, ob, rfl, hbb, hcb⟩ := hbw.at (by omega)
    have hcb1:=hcb _ kb
    obtain⟨y,Y⟩:∃y,Hid (b[o.length]?.getD 0=y):=⟨_,rfl⟩
    rw[Y.out] at hy1 hcb1
    clear hcb
    obtain⟨dg,DG⟩:∃dg,Hid ((x+4294967296-y-s)%4294967296=dg):=⟨_,rfl⟩
    obtain⟨sg,SG⟩:∃sg,Hid ((if x<y+s then 1 else 0:Nat)=sg):=⟨_,rfl⟩
    by_cases hlt:x<y+s
    ·have hd1 : dg <= x + 4294967296 - y - s := by have := DG.out; omega
     have hd2:x+4294967296-y-s<=dg:=by have:=DG.out;omega
     have hs1:sg<=1:=by have:=SG.out;rw[if_pos hlt] at this;omega
     have hs2:1<=sg:=by have:=SG.out;rw[if_pos hlt] at this;omega
     go_wp2_with (at_builtin;refine wpList_append_own _ rfl _ _ 30 rfl w.heap.size 113 i (.int .u32 0) 1 4 Tryz.underlying30 hi hz0 hz1 hz2 rfl (by decide) _ _ _ rfl (hown.alloc _) ⟨wr.heap.size,0,none⟩ 1 1 [.int .u32 ((dg:Nat):Int)] rfl rfl (one_news _ _ _ (by omega)) (by intro u hu;simp at hu;subst hu;rfl) (by unfold maxLen;omega) (by omega) (by have:=hx.size;simp;omega) ?_)
     intro v' w1 hown' hgr _
     have hown2:w1.ownsRow w.heap.size 113 1 v' (o.length+1) (enc o++[.int .u32 ((dg:Nat):Int)]):=hown'
     rw[enc_snoc] at hown2
     have hl:=hown.lt
     have hx2:Ext w w1:=(hx.alloc hx.size _).grown hgr (by have:=hx.size;simp;omega) (fun k hk=>(hl k hk).1)
     have OWN:=Lib.hid hown2
     clear hown' hown2 hgr hown hl
     go_wp2
     have h:=INV2.out
     rw[X.out,Y.out,DG.out,SG.out] at h
     exact⟨⟨o++[dg],sg,by rw[enc_len_one];omega,by rw[enc_len_one];rfl,ret_u64 (by omega),h,by rw[enc_len_one];exact OWN.out,hx2⟩,by simp[intOf];omega⟩
    ·have hd1 : dg <= x - y - s := by have := DG.out; omega
     have hd2:x-y-s<=dg:=by have:=DG.out;omega
     have hs1:sg<=0:=by have:=SG.out;rw[if_neg hlt] at this;omega
     go_wp2_with (at_builtin;refine wpList_append_own _ rfl _ _ 30 rfl w.heap.size 113 i (.int .u32 0) 1 4 Tryz.underlying30 hi hz0 hz1 hz2 rfl (by decide) _ _ _ rfl (hown.alloc _) ⟨wr.heap.size,0,none⟩ 1 1 [.int .u32 ((dg:Nat):Int)] rfl rfl (one_news _ _ _ (by omega)) (by intro u hu;simp at hu;subst hu;rfl) (by unfold maxLen;omega) (by omega) (by have:=hx.size;simp;omega) ?_)
     intro v' w1 hown' hgr _
     have hown2:w1.ownsRow w.heap.size 113 1 v' (o.length+1) (enc o++[.int .u32 ((dg:Nat):Int)]):=hown'
     rw[enc_snoc] at hown2
     have hl:=hown.lt
     have hx2:Ext w w1:=(hx.alloc hx.size _).grown hgr (by have:=hx.size;simp;omega) (fun k hk=>(hl k hk).1)
     have OWN:=Lib.hid hown2
     clear hown' hown2 hgr hown hl
     go_wp2
     have h:=INV2.out
     rw[X.out,Y.out,DG.out,SG.out] at h
     exact⟨⟨o++[dg],sg,by rw[enc_len_one];omega,by rw[enc_len_one];rfl,ret_u64 (by omega),h,by rw[enc_len_one];exact OWN.out,hx2⟩,by simp[intOf];omega⟩
   ·have kb2 : b.length <= o.length := by omega
    obtain⟨y,Y,y0⟩:∃y,Hid (b[o.length]?.getD 0=y)/\Hid (y=0):=⟨_,rfl,by rw[List.getElem?_eq_none (by omega)];rfl⟩
    have hy0:y<=0:=Nat.le_of_eq y0.out
    clear y0
    obtain⟨dg,DG⟩:∃dg,Hid ((x+4294967296-y-s)%4294967296=dg):=⟨_,rfl⟩
    obtain⟨sg,SG⟩:∃sg,Hid ((if x<y+s then 1 else 0:Nat)=sg):=⟨_,rfl⟩
    by_cases hlt:x<y+s
    ·have hd1 : dg <= x + 4294967296 - y - s := by have := DG.out; omega
     have hd2:x+4294967296-y-s<=dg:=by have:=DG.out;omega
     have hs1:sg<=1:=by have:=SG.out;rw[if_pos hlt] at this;omega
     have hs2:1<=sg:=by have:=SG.out;rw[if_pos hlt] at this;omega
     go_wp2_with (at_builtin;refine wpList_append_own _ rfl _ _ 30 rfl w.heap.size 113 i (.int .u32 0) 1 4 Tryz.underlying30 hi hz0 hz1 hz2 rfl (by decide) _ _ _ rfl (hown.alloc _) ⟨wr.heap.size,0,none⟩ 1 1 [.int .u32 ((dg:Nat):Int)] rfl rfl (one_news _ _ _ (by omega)) (by intro u hu;simp at hu;subst hu;rfl) (by unfold maxLen;omega) (by omega) (by have:=hx.size;simp;omega) ?_)
     intro v' w1 hown' hgr _
     have hown2:w1.ownsRow w.heap.size 113 1 v' (o.length+1) (enc o++[.int .u32 ((dg:Nat):Int)]):=hown'
     rw[enc_snoc] at hown2
     have hl:=hown.lt
     have hx2:Ext w w1:=(hx.alloc hx.size _).grown hgr (by have:=hx.size;simp;omega) (fun k hk=>(hl k hk).1)
     have OWN:=Lib.hid hown2
     clear hown' hown2 hgr hown hl
     go_wp2
     have h:=INV2.out
     rw[X.out,Y.out,DG.out,SG.out] at h
     exact⟨⟨o++[dg],sg,by rw[enc_len_one];omega,by rw[enc_len_one];rfl,ret_u64 (by omega),h,by rw[enc_len_one];exact OWN.out,hx2⟩,by simp[intOf];omega⟩
    ·have hd1 : dg <= x - y - s := by have := DG.out; omega
     have hd2:x-y-s<=dg:=by have:=DG.out;omega
     have hs1:sg<=0:=by have:=SG.out;rw[if_neg hlt] at this;omega
     go_wp2_with (at_builtin;refine wpList_append_own _ rfl _ _ 30 rfl w.heap.size 113 i (.int .u32 0) 1 4 Tryz.underlying30 hi hz0 hz1 hz2 rfl (by decide) _ _ _ rfl (hown.alloc _) ⟨wr.heap.size,0,none⟩ 1 1 [.int .u32 ((dg:Nat):Int)] rfl rfl (one_news _ _ _ (by omega)) (by intro u hu;simp at hu;subst hu;rfl) (by unfold maxLen;omega) (by omega) (by have:=hx.size;simp;omega) ?_)
     intro v' w1 hown' hgr _
     have hown2:w1.ownsRow w.heap.size 113 1 v' (o.length+1) (enc o++[.int .u32 ((dg:Nat):Int)]):=hown'
     rw[enc_snoc] at hown2
     have hl:=hown.lt
     have hx2:Ext w w1:=(hx.alloc hx.size _).grown hgr (by have:=hx.size;simp;omega) (fun k hk=>(hl k hk).1)
     have OWN:=Lib.hid hown2
     clear hown' hown2 hgr hown hl
     go_wp2
     have h:=INV2.out
     rw[X.out,Y.out,DG.out,SG.out] at h
     exact⟨⟨o++[dg],sg,by rw[enc_len_one];omega,by rw[enc_len_one];rfl,ret_u64 (by omega),h,by rw[enc_len_one];exact OWN.out,hx2⟩,by simp[intOf];omega⟩
  ·have ka2 : a.length <= o.length := by omega
   have V:=Lib.hid (diffInv_end INV.out ka2 (by omega) hle)
   have d0:=INV.out.1
   obtain⟨p,c,rfl,hrow,hnew⟩:=row_of_owns hown d0
   clear hown haw hbw
   go_wp2_with fail
   refine (r01_trim o _ _ _ _ hrow rfl).mono ?_
   rintro e w1 ⟨rfl,hrow1,hx2⟩
   have hx3:Ext w w1:=Ext.step hx hx2
   have T:trim o=digs (val a-val b):=by rw[<- V.out];rfl
   go_wp2
   go_ret
   rw[T] at hrow1
   exact⟨p,c,rfl,hrow1,hnew,hx3⟩
end
theorem tight_len{a b:List Nat}(da:Dig a)(tb:Tight b)(h:val b<=val a):b.length<=a.length:=by
 rcases Nat.lt_or_ge a.length b.length with g|g
 ·have := val_lt_of_length da tb g
  omega
 ·exact g

set_option maxHeartbeats 1000000
set_option maxRecDepth 100000
section
theorem r01_Cmp(a b:Nm)(na nb:Bool)(pa pb:Option Addr)(la ca lb cb:Nat)(w:World)(ha:NR w na pa la ca a)(hb:NR w nb pb lb cb b) :
  Calls Tryz.prog 80 #[.agg #[.bool na,.slice pa la ca],.agg #[.bool nb,.slice pb lb cb]] w fun e w'=>e=.returned (.int .i64 (cmpP a b))/\Ext w w':=by
 by_cases ra:a.right=true
 ·by_cases rb : b.right = true
  ·have n1 := ha.1
   have n2:=hb.1
   have da:=ha.2.2.dig
   have db:=hb.2.2.dig
   cases h1:a.neg<;>cases h2:b.neg<;>rw[h1] at n1<;>rw[h2] at n2<;>subst n1 n2
   ·have S := Lib.hid (cmpP_pos ra rb da db h1 h2)
    clear h1 h2
    go_enter Tryz.func80,Tryz.ntmps80
    go_wp2_with fail
    refine (r01_Right a _ _ _ _ _ (ha.ext bxx)).mono ?_
    rintro e w1 ⟨rfl,hx⟩
    rw[ra]
    have hx0:Ext w w1:=Ext.step bxx hx
    obtain⟨_,⟨_,_,_⟩,_,_,_⟩:=keepK2 hx w.heap.size
    go_wp2_with fail
    refine (r01_Right b _ _ _ _ _ (hb.ext bxx)).mono ?_
    rintro e w2 ⟨rfl,hx2⟩
    rw[rb]
    have hx1:Ext w w2:=Ext.step hx0 hx2
    obtain⟨_,⟨_,_,_⟩,_,_,_⟩:=keepK2 hx2 w.heap.size
    go_wp2_with fail
    refine (r01_compare a.d b.d _ _ _ _ _ _ _ (ha.2.2.ext bxx) (hb.2.2.ext bxx) ha.2.1 hb.2.1).mono ?_
    rintro e w3 ⟨rfl,hx3⟩
    have hx4:Ext w w3:=Ext.step hx1 hx3
    go_wp2
    go_ret
    exact⟨by rw[S.out];rfl,hx4⟩
   ·have S := Lib.hid (cmpP_more ra rb db h1 h2)
    clear h1 h2
    go_enter Tryz.func80,Tryz.ntmps80
    go_wp2_with fail
    refine (r01_Right a _ _ _ _ _ (ha.ext bxx)).mono ?_
    rintro e w1 ⟨rfl,hx⟩
    rw[ra]
    have hx0:Ext w w1:=Ext.step bxx hx
    obtain⟨_,⟨_,_,_⟩,_,_,_⟩:=keepK2 hx w.heap.size
    go_wp2_with fail
    refine (r01_Right b _ _ _ _ _ (hb.ext bxx)).mono ?_
    rintro e w2 ⟨rfl,hx2⟩
    rw[rb]
    have hx1:Ext w w2:=Ext.step hx0 hx2
    obtain⟨_,⟨_,_,_⟩,_,_,_⟩:=keepK2 hx2 w.heap.size
    go_wp2
    go_ret
    exact⟨by rw[S.out];rfl,hx1⟩
   ·have S := Lib.hid (cmpP_less ra rb da h1 h2)
    clear h1 h2
    go_enter Tryz.func80,Tryz.ntmps80
    go_wp2_with fail
    refine (r01_Right a _ _ _ _ _ (ha.ext bxx)).mono ?_
    rintro e w1 ⟨rfl,hx⟩
    rw[ra]
    have hx0:Ext w w1:=Ext.step bxx hx
    obtain⟨_,⟨_,_,_⟩,_,_,_⟩:=keepK2 hx w.heap.size
    go_wp2_with fail
    refine (r01_Right b _ _ _ _ _ (hb.ext bxx)).mono ?_
    rintro e w2 ⟨rfl,hx2⟩
    rw[rb]
    have hx1:Ext w w2:=Ext.step hx0 hx2
    obtain⟨_,⟨_,_,_⟩,_,_,_⟩:=keepK2 hx2 w.heap.size
    go_wp2
    go_ret
    exact⟨by rw[S.out];rfl,hx1⟩
   ·have S := Lib.hid (cmpP_negs ra rb da db h1 h2)
    clear h1 h2
    go_enter Tryz.func80,Tryz.ntmps80
    go_wp2_with fail
    refine (r01_Right a _ _ _ _ _ (ha.ext bxx)).mono ?_
    rintro e w1 ⟨rfl,hx⟩
    rw[ra]
    have hx0:Ext w w1:=Ext.step bxx hx
    obtain⟨_,⟨_,_,_⟩,_,_,_⟩:=keepK2 hx w.heap.size
    go_wp2_with fail
    refine (r01_Right b _ _ _ _ _ (hb.ext bxx)).mono ?_
    rintro e w2 ⟨rfl,hx2⟩
    rw[rb]
    have hx1:Ext w w2:=Ext.step hx0 hx2
    obtain⟨_,⟨_,_,_⟩,_,_,_⟩:=keepK2 hx2 w.heap.size
    go_wp2_with fail
    refine (r01_compare b.d a.d _ _ _ _ _ _ _ (hb.2.2.ext bxx) (ha.2.2.ext bxx) hb.2.1 ha.2.1).mono ?_
    rintro e w3 ⟨rfl,hx3⟩
    have hx4:Ext w w3:=Ext.step hx1 hx3
    go_wp2
    go_ret
    exact⟨by rw[S.out];rfl,hx4⟩
  ·have rb : b.right = false := by simpa using rb
   have S:=Lib.hid (cmpP_none (a:=a) (.inr rb))
   go_enter Tryz.func80,Tryz.ntmps80
   go_wp2_with fail
   refine (r01_Right a _ _ _ _ _ (ha.ext bxx)).mono ?_
   rintro e w1 ⟨rfl,hx⟩
   rw[ra]
   have hx0:Ext w w1:=Ext.step bxx hx
   obtain⟨_,⟨_,_,_⟩,_,_,_⟩:=keepK2 hx w.heap.size
   go_wp2_with fail
   refine (r01_Right b _ _ _ _ _ (hb.ext bxx)).mono ?_
   rintro e w2 ⟨rfl,hx2⟩
   rw[rb]
   have hx1:Ext w w2:=Ext.step hx0 hx2
   obtain⟨_,⟨_,_,_⟩,_,_,_⟩:=keepK2 hx2 w.heap.size
   go_wp2
   go_ret
   exact⟨by rw[S.out];rfl,hx1⟩
 ·have ra : a.right = false := by simpa using ra
  have S:=Lib.hid (cmpP_none (b:=b) (.inl ra))
  go_enter Tryz.func80,Tryz.ntmps80
  go_wp2_with fail
  refine (r01_Right a _ _ _ _ _ (ha.ext bxx)).mono ?_
  rintro e w1 ⟨rfl,hx⟩
  rw[ra]
  have hx0:Ext w w1:=Ext.step bxx hx
  obtain⟨_,⟨_,_,_⟩,_,_,_⟩:=keepK2 hx w.heap.size
  go_wp2
  go_ret
  exact⟨by rw[S.out];rfl,hx0⟩
end

set_option maxHeartbeats 2000000
set_option maxRecDepth 100000
section
theorem num_trim(d:List Nat)(p:Option Addr)(l c:Nat)(w:World)(h:Row w p c d)(hl:l=d.length) :
  Calls Tryz.prog 121 #[.slice p l c] w (RetCut w p c (trim d)):=by
 subst hl
 have hle:=h.le
 have hm:=h.max
 go_enter Tryz.func121,Tryz.ntmps121
 go_wp2
 go_loop [0] (fun n=>∃k:Nat,k<=d.length/\n=.slice p k c/\val (d.take k)=val d) (fun n=>match n with | .slice _ k _=>k|_=>0)
 case atStart=>exact⟨d.length,Nat.le_refl _,rfl,by rw[List.take_of_length_le (Nat.le_refl _)]⟩
 case round =>
  obtain⟨k,hk,rfl,hv⟩:=hrel
  have V:=Lib.hid hv
  clear hv
  cases k with
  | zero =>
   have T:=Lib.hid (trim_eq_take h.dig hk V.out (by omega))
   go_wp2
   go_ret
   rw[T.out]
   exact⟨by simp,h.take 0 (by omega),bxx⟩
  | succ j =>
   obtain⟨b,o,rfl,hb,hc⟩:=h.at (by omega)
   have hc1:=hc j (by omega)
   obtain⟨x,X⟩:∃x,Hid (d[j]?.getD 0=x):=⟨_,rfl⟩
   rw[X.out] at hc1
   by_cases hx:x=0
   ·have hx1 : ((x : Int) == 0) = true := by simp [hx]
    have V2:=Lib.hid (val_take_succ (by omega) (X.out.trans hx))
    clear hx hc
    go_wp2
    exact⟨⟨j,by omega,rfl,V2.out.symm.trans V.out⟩,by simp⟩
   ·have hx1 : ((x : Int) == 0) = false := by rw [beq_eq_false_iff_ne]; omega
    have T:=Lib.hid (trim_eq_take h.dig hk V.out (by rw[Nat.add_sub_cancel,X.out];omega))
    clear hx hc
    go_wp2
    go_ret
    rw[T.out]
    exact⟨by simp;omega,h.take _ (by omega),bxx⟩
theorem or_add(s x:Nat)(hx:x<4294967296):s*4294967296 ||| x=s*4294967296+x:=by
 have:=Nat.two_pow_add_eq_or_of_lt (i:=32) (b:=x) hx s
 rw[show (2:Nat) ^ 32=4294967296 from rfl] at this
 rw[Nat.mul_comm,<- this]
theorem or_u64(s x:Nat)(hs:s<4294967296)(hx:x<4294967296):bits .or .u64 ((s:Int)*4294967296) (x:Int)=((s*4294967296+x:Nat):Int):=by
 have:=u64_or_nat (s*4294967296) x (by omega) (by omega)
 rw[or_add s x hx] at this
 rw[<- this]
 simp
theorem tdiv_nat(a b:Nat):((a:Nat):Int).tdiv (b:Int)=((a/b:Nat):Int):=by rw[Int.tdiv_eq_ediv_of_nonneg (by omega)];rfl
theorem tmod_nat(a b:Nat):((a:Nat):Int).tmod (b:Int)=((a%b:Nat):Int):=by rw[Int.tmod_eq_emod_of_nonneg (by omega)];rfl
theorem enc_put(k:Nat)(o:List Nat)(x:Nat):(enc (List.replicate (k+1) 0++o)).set k (.int .u32 (x:Int))=enc (List.replicate k 0++x::o):=by
 have h:=enc_set (List.replicate k 0) o x
 rw[List.length_replicate] at h
 rw[List.replicate_succ',List.append_assoc,List.singleton_append,h,List.append_assoc,List.singleton_append]
theorem enc_zero(k:Nat)(o:List Nat):(enc (List.replicate (k+1) 0++o))[k]? = some (.int .u32 0):=by
 rw[enc_get _ _ (by simp;omega)]
 rw[List.getElem?_append_left (by simp),List.getElem?_replicate]
 simp
def ShortInv(a:List Nat)(b:Nat)(k:Nat)(o:List Nat)(s:Nat):Prop:=Dig o/\o.length+k=a.length/\s<b/\val (a.drop k)=val o*b+s
theorem short_step{a:List Nat}{b k:Nat}{o:List Nat}{s:Nat}(ha:Dig a)(hb:b<4294967296)(hk:k<a.length)(h:ShortInv a b (k+1) o s) :
  ShortInv a b k ((s*4294967296+a[k]?.getD 0)/b::o) ((s*4294967296+a[k]?.getD 0)%b)/\(s*4294967296+a[k]?.getD 0)/b<4294967296:=by
 obtain⟨h1,h2,h3,h4⟩:=h
 have hx:=ha.getD k
 rw[List.getD_eq_getElem?_getD] at hx
 rw[getD_eq hk] at hx ⊢
 obtain⟨x,X⟩:∃x,a[k]=x:=⟨_,rfl⟩
 rw[X] at hx ⊢
 have hq:(s*4294967296+x)/b<4294967296:=by
  rw[Nat.div_lt_iff_lt_mul (by omega)]
  have:(s+1)*4294967296<=b*4294967296:=Nat.mul_le_mul_right _ h3
  rw[Nat.mul_comm b] at this
  omega
 refine⟨⟨Dig.cons hq h1,by simp;omega,Nat.mod_lt _ (by omega),?_⟩,hq⟩
 rw[List.drop_eq_getElem_cons hk,val_cons,val_cons,h4,X]
 have e:=Nat.div_add_mod (s*4294967296+x) b
 generalize (s*4294967296+x)/b=q at *
 generalize (s*4294967296+x)%b=r at *
 rw[Nat.add_mul,Nat.mul_add,Nat.mul_assoc]
 rw[Nat.mul_comm b q] at e
 omega
def RetShort(w:World)(q:List Nat)(r:Nat)(e:Ending)(w':World):Prop :=
 ∃p c,e=.returned (.tuple #[.slice p q.length c,.int .u32 (r:Int)])/\Row w' p c q/\New w p/\Ext w w'
theorem num_short(a:List Nat)(pa:Option Addr)(la ca b:Nat)(w:World)(ha:Row w pa ca a)(hla:la=a.length)(hb0:0<b)(hb:b<4294967296)(h64:a.length<=1000) :
  Calls Tryz.prog 120 #[.slice pa la ca,.int .u32 (b:Int)] w (RetShort w (digs (val a/b)) (val a%b)):=by
 subst hla
 obtain⟨i,hi,hz0,hz1,hz2⟩:=info_parts info32
 have hla:=ha.le
 have hma:=ha.max
 have hb1:((b:Int)==0)=false:=by rw[beq_eq_false_iff_ne];omega
 go_enter Tryz.func120,Tryz.ntmps120
 go_wp2_with (at_make;refine wpList_make_full _ rfl _ _ 30 rfl w.heap.size 113 i (.int .u32 0) 1 Tryz.underlying30 hi hz0 hz1 _ _ _ _ a.length rfl rfl (by omega) (by omega) (by rw[hz2];omega) (by unfold maxLen;omega) (Nat.le_refl _) ?_)
 all_goals
  intro w1 hown hgr
  rw[show (madeCells #[Value.int IntKind.u32 0] a.length).toList=enc (List.replicate a.length 0++[]) from by rw[enc,List.append_nil,List.map_replicate];exact toList_madeCells_one _ _] at hown
  have hx0:Ext w w1:=⟨hgr.os,hgr.tape,hgr.output,hgr.size,fun k hk=>hgr.block k hk (by simp)⟩
  clear hgr
  go_wp2_with fail
  go_loopw [7,8] (fun rs i wr=>∃(k s:Nat) (o:List Nat),ShortInv a b k o s/\i=.int .i64 ((k:Int)-1)/\rs=.int .u64 (s:Int)/\wr.ownsRow w.heap.size 113 1 (.slice (some ⟨w.heap.size,0,none⟩) a.length a.length) a.length (enc (List.replicate k 0++o))/\Ext w wr) (fun _ i _=>(intOf i+1).toNat)
  case atStart=>exact⟨a.length,0,[],⟨Dig.nil,by simp,hb0,by rw[List.drop_eq_nil_of_le (Nat.le_refl _)];simp[val]⟩,rfl,rfl,hown,hx0⟩
  case round =>
   clear hown hx0
   obtain⟨k,s,o,hinv,rfl,rfl,hown,hx⟩:=hrel
   have INV:=Lib.hid hinv
   have hk:=hinv.2.1
   have hs:=hinv.2.2.1
   clear hinv
   cases k with
   | zero =>
    have e:(((0:Nat):Int)-1) = -1:=by omega
    rw[e]
    clear e
    have hv:val o*b+s=val a:=by
     have:=INV.out.2.2.2
     rw[List.drop_zero] at this
     exact this.symm
    have hq:val o=val a/b:=by
     rw[<- hv,Nat.mul_comm,Nat.mul_add_div hb0,Nat.div_eq_of_lt hs,Nat.add_zero]
    have hr:s=val a%b:=by
     rw[<- hv,Nat.mul_comm,Nat.mul_add_mod,Nat.mod_eq_of_lt hs]
    rw[List.replicate_zero,List.nil_append] at hown
    have hol:o.length=a.length:=by have:=INV.out.2.1;omega
    obtain⟨p,c,hv2,hrow,_⟩:=row_of_owns hown INV.out.1
    injection hv2 with e1 e2 e3
    subst e1
    rw[<- e3] at hrow
    have WS:(s:Int)%4294967296=(s:Int):=Int.emod_eq_of_lt (by omega) (by omega)
    have HOL:=Lib.hid hol.symm
    have HQ:=Lib.hid hq
    have HR:=Lib.hid hr
    clear INV hown e2 e3 hol hv hq hr
    go_wp2_with fail
    refine (num_trim o _ _ _ _ hrow HOL.out).mono ?_
    rintro e w2 ⟨rfl,hr2,hx2⟩
    have hx3:Ext w w2:=Ext.step hx hx2
    go_wp2
    go_ret2
    refine⟨some ⟨w.heap.size,0,none⟩,a.length,?_,?_,by intro x hx;cases hx;exact Nat.le_refl _,hx3⟩
    ·rw [<- HQ.out, HR.out.symm]
     rfl
    ·rw [<- HQ.out]
     exact hr2
   | succ j =>
    have e:(((j+1:Nat):Int)-1)=(j:Int):=by omega
    rw[e]
    clear e
    obtain⟨STEP,hq⟩:=short_step ha.dig hb (by omega) INV.out
    obtain⟨ba,oa,rfl,hba,hca⟩:=ha.at (by omega)
    have ca1:wr.cell? ⟨ba,oa+j,none⟩=some (.int .u32 ((a[j]?.getD 0:Nat):Int)):=(hx.cell (p:=⟨ba,oa+j,none⟩) hba).trans (hca j (by omega))
    have hxd:=ha.dig.getD j
    rw[List.getD_eq_getElem?_getD] at hxd
    obtain⟨x,X⟩:∃x,Hid (a[j]?.getD 0=x):=⟨_,rfl⟩
    rw[X.out] at ca1 STEP hq hxd
    clear hca INV
    have OR:=or_u64 s x (by omega) hxd
    obtain⟨m,M⟩:∃m,Hid (s*4294967296+x=m):=⟨_,rfl⟩
    rw[M.out] at OR STEP hq
    have DV:=tdiv_nat m b
    have MD:=tmod_nat m b
    obtain⟨q,Q⟩:∃q,Hid (m/b=q):=⟨_,rfl⟩
    obtain⟨r,R⟩:∃r,Hid (m%b=r):=⟨_,rfl⟩
    rw[Q.out,R.out] at STEP
    rw[Q.out] at DV hq
    rw[R.out] at MD
    have WQ:(q:Int)%4294967296=(q:Int):=Int.emod_eq_of_lt (by omega) (by omega)
    have hjn:j<a.length:=by omega
    have hcw:wr.cell? ⟨w.heap.size,j,none⟩=some (.int .u32 0):=by
     rw[hown.cellAt j (by omega)]
     exact enc_zero j o
    have hfw:=hown.frozenAt j
    obtain⟨hown3,hg3⟩:=hown.stored j (.int .u32 (q:Int))
    rw[enc_put] at hown3
    have OWN:=Lib.hid hown3
    have hx3:Ext w (wr.setCell ⟨w.heap.size,j,none⟩ (.int .u32 (q:Int))):=Below.setCell hx (Nat.le_refl _) _
    have X3:=Lib.hid hx3
    have SS:=Lib.hid STEP
    clear hown hown3 hg3 hx3 STEP
    go_wp2
    exact⟨⟨j,r,q::o,SS.out,rfl,rfl,OWN.out,X3.out⟩,by simp[intOf]⟩
end
theorem val_set(o:List Nat)(j d q:Nat)(hj:j<o.length)(hq:o[j]?.getD 0=q):val (o.set j d)+4294967296 ^ j*q=val o+4294967296 ^ j*d:=by
 induction o generalizing j with
 | nil=>simp at hj
 | cons x o ih =>
  cases j with
  | zero =>
   simp only[List.getElem?_cons_zero,Option.getD_some] at hq
   subst hq
   simp only[List.set_cons_zero,val_cons,Nat.pow_zero,Nat.one_mul]
   omega
  | succ j =>
   simp only[List.getElem?_cons_succ] at hq
   have h:=ih j (by simpa using hj) hq
   simp only[List.set_cons_succ,val_cons,Nat.pow_succ]
   generalize 4294967296 ^ j=p at *
   have e1:p*4294967296*q=4294967296*(p*q):=by rw[Nat.mul_comm p,Nat.mul_assoc]
   have e2:p*4294967296*d=4294967296*(p*d):=by rw[Nat.mul_comm p,Nat.mul_assoc]
   rw[e1,e2]
   generalize p*q=u at *
   generalize p*d=v at *
   omega
theorem Dig.set{o:List Nat}(h:Dig o)(j d:Nat)(hd:d<4294967296):Dig (o.set j d):=by
 intro x hx
 rcases List.mem_or_eq_of_mem_set hx with hx|rfl
 ·exact h x hx
 ·exact hd
theorem getD_set_ne{o:List Nat}{i j d:Nat}(h:i≠j):(o.set i d)[j]?.getD 0=o[j]?.getD 0:=by rw[List.getElem?_set_ne h]
def Zeros(o:List Nat)(m:Nat):Prop:=∀j,m<=j->o[j]?.getD 0=0
theorem Zeros.replicate(n m:Nat):Zeros (List.replicate n 0) m:=by
 intro j _
 rw[List.getElem?_replicate]
 split<;>rfl
theorem Zeros.set{o:List Nat}{m j d:Nat}(h:Zeros o m)(hj:j<m):Zeros (o.set j d) m:=by
 intro i hi
 rw[getD_set_ne (by omega)]
 exact h i hi
theorem Zeros.mono{o:List Nat}{m n:Nat}(h:Zeros o m)(hm:m<=n):Zeros o n:=fun j hj=>h j (by omega)
theorem val_take_next(d:List Nat)(k x:Nat)(hx:d[k]?.getD 0=x):val (d.take (k+1))=val (d.take k)+4294967296 ^ k*x:=by
 subst hx
 by_cases h:k<d.length
 ·rw [List.take_succ_eq_append_getElem h, val_append]
  have:d[k]?.getD 0=d[k]:=by rw[List.getElem?_eq_getElem h];rfl
  rw[this]
  simp only[List.length_take,Nat.min_eq_left (Nat.le_of_lt h),val_cons,val_nil]
  simp
 ·rw [List.take_of_length_le (by omega), List.take_of_length_le (by omega), List.getElem?_eq_none (by omega)]
  simp
def MulInv(a b o:List Nat)(i k x c:Nat):Prop :=
 Dig o/\c<4294967296/\val o+4294967296 ^ (i+k)*c=val (a.take i)*val b+x*(4294967296 ^ i*val (b.take k))
theorem MulInv.step{a b o:List Nat}{i k x c y q m:Nat}(h:MulInv a b o i k x c)(hj:i+k<o.length)(hx:x<4294967296)(hy:b[k]?.getD 0=y)(hyd:y<4294967296)(hq:o[i+k]?.getD 0=q)(hqd:q<4294967296)(hm:x*y=m) :
  MulInv a b (o.set (i+k) ((c+(q+m))%4294967296)) i (k+1) x ((c+(q+m))/4294967296):=by
 obtain⟨h1,h2,h3⟩:=h
 have hb:m<=4294967295*4294967295:=by rw[<- hm];exact Nat.mul_le_mul (by omega) (by omega)
 refine⟨h1.set _ _ (Nat.mod_lt _ (by decide)),by omega,?_⟩
 have hv:=val_set o (i+k) ((c+(q+m))%4294967296) q hj hq
 have hd:=Nat.mod_add_div (c+(q+m)) 4294967296
 rw[val_take_next b k y hy]
 generalize (c+(q+m))%4294967296=d at *
 generalize (c+(q+m))/4294967296=e at *
 have hp:(4294967296:Nat) ^ (i+(k+1))=4294967296 ^ (i+k)*4294967296:=by rw[<- Nat.add_assoc,Nat.pow_succ]
 have hp2:x*(4294967296 ^ i*(val (b.take k)+4294967296 ^ k*y))=x*(4294967296 ^ i*val (b.take k))+4294967296 ^ (i+k)*m:=by
  rw[Nat.mul_add,Nat.mul_add,<- hm,Nat.pow_add]
  congr 1
  generalize 4294967296 ^ i=u
  generalize 4294967296 ^ k=v
  rw[Nat.mul_left_comm x u,Nat.mul_assoc u v,Nat.mul_left_comm x v]
 rw[hp,hp2]
 generalize val (o.set (i+k) d)=v' at *
 generalize 4294967296 ^ (i+k)=p at *
 generalize x*(4294967296 ^ i*val (b.take k))=r at *
 generalize val (a.take i)*val b=s at *
 have h4:p*d+p*4294967296*e=p*c+(p*q+p*m):=by
  rw[Nat.mul_assoc,<- Nat.mul_add,hd,Nat.mul_add,Nat.mul_add]
 generalize p*4294967296*e=w1 at *
 generalize p*d=w2 at *
 generalize p*c=w3 at *
 generalize p*q=w4 at *
 generalize p*m=w5 at *
 omega
theorem MulInv.start{a b o:List Nat}{i x:Nat}(hd:Dig o)(h:val o=val (a.take i)*val b):MulInv a b o i 0 x 0 :=
 ⟨hd,by decide,by simp[val,h]⟩
theorem MulInv.finish{a b o:List Nat}{i k x c:Nat}(h:MulInv a b o i k x c)(hk:b.length<=k)(hx:a[i]?.getD 0=x)(hz:o[i+k]?.getD 0=0)(hj:i+k<o.length) :
  Dig (o.set (i+k) c)/\val (o.set (i+k) c)=val (a.take (i+1))*val b:=by
 obtain⟨h1,h2,h3⟩:=h
 refine⟨h1.set _ _ h2,?_⟩
 have hv:=val_set o (i+k) c 0 hj hz
 rw[List.take_of_length_le hk] at h3
 rw[val_take_next a i x hx,Nat.add_mul,Nat.mul_comm (4294967296 ^ i) x,Nat.mul_assoc]
 omega
theorem MulInv.done{a b o:List Nat}{i k x:Nat}(h:MulInv a b o i k x 0)(hk:b.length<=k)(hx:a[i]?.getD 0=x):val o=val (a.take (i+1))*val b:=by
 obtain⟨h1,h2,h3⟩:=h
 rw[List.take_of_length_le hk] at h3
 rw[val_take_next a i x hx,Nat.add_mul,Nat.mul_comm (4294967296 ^ i) x,Nat.mul_assoc]
 omega
end Go.Proofs.YtcfpcafnjgpfdaaGreat
