import Derived.Test.YtghemgdfmldoeaaGreatP23
import Derived.Stop.RegionWithIn
set_option linter.unusedVariables false
set_option linter.unusedSimpArgs false
namespace Go.Proofs.YtghemgdfmldoeaaGreat
set_option maxHeartbeats 8000000
set_option maxRecDepth 100000
section
open Go.RowKit Go.Shelf
attribute [local go_sem] Oper.semAt_some
attribute [local go_sem] aL dz
def kF(id:Nat):Code->Option Code
 | .region k ops d=>if k=id then some (.region k ops d) else none
 | .seq a b=>match kF id a with|some c=>some c|none=>kF id b
 | .cond _ a b=>match kF id a with|some c=>some c|none=>kF id b
 | .block _ c=>kF id c
 | .loop c=>kF id c
 | _=>none
def OD(R:Bool->World->Prop)(W:World):Prop:=∃b,R b W
theorem a0E(m L B1 B2 g o n c j:Nat)(E0 E1:Ed)(wr:World)(x3 x4 x5 x6 x7 x8 x9 x10 x11 x12 x13 x14 x15 x16 x17 x18 x19 x20 x21 x22 x23 x24 x25 x26 x27 x28 x29 x30 x31 x32 x33 x34:Value)(R:Bool->World->Prop)
  (m0:wr.cell? ⟨B1,0,none⟩=some (.slice (some ⟨g,o,none⟩) n c)) (h0:km wr g (o+j*7) E0) (h1:km wr g o E1) (hn:n<=1000) (hj:n=j+1) (hm:1<=m)
  (hY:YieldAt Fence.wide (m-1) Tryz.prog L #[fi E0,fi E1] wr.drew λe W'=>∃b:Bool,e=.returned (.bool b)/\R b W') :
  ((kF 5 (dC Tryz.prog 184)).getD .skip).wpIn Fence.wide m Tryz.prog (λe a W1=>e=.normal/\a.defers=[]/\OD R W1) { tmps:=#[.func (.yield L) #[] #[],.pointer (some ⟨B1,0,none⟩),.pointer (some ⟨B2,0,none⟩),x3,x4,x5,x6,x7,x8,x9,x10,x11,x12,x13,x14,x15,x16,x17,x18,x19,x20,x21,x22,x23,x24,x25,x26,x27,x28,x29,x30,x31,x32,x33,x34],defers:=[] } wr:=by
 obtain⟨f1,t1,z1,y1,hy1,hR⟩:=hY;obtain⟨k0,k1,k2,k3,k4,k5,k6⟩:=E0;obtain⟨l0,l1,l2,l3,l4,l5,l6⟩:=E1;simp only[fi] at hy1;obtain⟨a0,a1,a2,a3,a4,a5,a6⟩:=h0;obtain⟨b0,b1,b2,b3,b4,b5,b6⟩:=h1;simp only at a0 a1 a2 a3 a4 a5 a6 b0 b1 b2 b3 b4 b5 b6;have wk:IntKind.i64.wrap ((n:Int)-1)=(j:Int):=by rw[wrap_in (by unfold I64;omega)];omega
 have ix2:(j:Int)<(n:Int):=by omega
 have ix3:(0:Int)<(n:Int):=by omega
 have hb:dC Tryz.prog 184=(Tryz.f184.body).getD .skip:=by unfold dC;rw[Tryz.func184];rfl
 rw[hb];clear hj hn hb;simp only[Tryz.f184,Option.getD,kF,Nat.reduceEqDiff,reduceIte];gi_region_with (refine hR.mono ?_;rintro e' W1 ⟨b,rfl,h1⟩);all_goals exact⟨rfl,rfl,b,h1⟩
end
end Go.Proofs.YtghemgdfmldoeaaGreat
