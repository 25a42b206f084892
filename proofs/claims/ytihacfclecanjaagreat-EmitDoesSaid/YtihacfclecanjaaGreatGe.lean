/- Chapter 22: walks and laws. -/
import Derived.Test.YtihacfclecanjaaGreatJc
import Derived.Test.YtihacfclecanjaaGreatGd
import Derived.Test.YtihacfclecanjaaGreatGb
import Derived.Test.YtihacfclecanjaaGreatGc
set_option linter.unusedVariables false
set_option linter.unusedSimpArgs false
namespace Go.Proofs.YtihacfclecanjaaGreat
open Go Go.Ev Go.RowKit
set_option maxRecDepth 100000
namespace Ls
theorem u32_wrap_in(x:Int):0≤IntKind.u32.wrap x∧IntKind.u32.wrap x<4294967296:=by
 have:IntKind.u32.wrap x=x % 4294967296:=by rfl
 rw[this];omega
def ops42:List Int:=[1,1,1,2,3,4,5,6,7,8,16,17,18,19,20,21,22,23,24,25,32,33,34,35,36,37,38,39,40,48,49,50,51,52,53,64,65,66,67,68,0,69]
theorem ops42_ok:∀x∈ops42,sizeZ x≠0:=by decide
theorem tmod_in{n:Int}(h:0≤n):0≤Int.tmod n 42∧Int.tmod n 42<42:=by rw[aU h];omega
theorem tmu2{x:Int}(k:Int)(h:0≤x∧x<4294967296)(hk:0<k):0≤Int.tmod x k∧Int.tmod x k<k∧Int.tmod x k<4294967296:=by
 rw[aU h.1];have a:=eQ x (by omega:k≠0);have b:=il x hk
 have c:x % k≤x:=by
  by_cases hxy:x<k
  ·rw[eL h.1 hxy];exact aK _
  ·omega
 omega
noncomputable def f83b:Code:=Tryz.f83.body.getD .skip
theorem op_s{n:Int}(hn:i64B n=true):SCall Tryz.prog T15 83 #[jI n] (hq []) fun v h=>∃(o1:Int),sizeZ o1≠0∧v=jI o1∧h=hq []:=by
 simp only[i64B,ab,ap]at hn;obtain⟨m9,hm9⟩:∃m9:Nat,Int.tmod (0+n % (1073741824-0+1)) 42=m9:=⟨(Int.tmod (0+n % (1073741824-0+1)) 42).toNat,by have:=tmod_in (n:=0+n % (1073741824-0+1)) (by omega);omega⟩;have hm8:=tmod_in (n:=0+n % (1073741824-0+1)) (by omega);refine zS Tryz.f83 f83b 13 0 fun X hX=>(sd_run 15 (sd_ask 7 (jI (0+n % (1073741824-0+1))) 21 #[jI n,jI 0,jI 1073741824] kr kr kr (orc21 n 0 1073741824 (inB_of zo zo zo zo)) (sd_run 3 (sd_see 10 (jI (m9:Int)) (see_int (x:=(Int.tmod (0+n % (1073741824-0+1)) 42)) kr hm9) (zX 0 11 (pT 0 (0+m9*1)) m9 42 ?_)))))
 obtain⟨a1,ha1⟩:=zR ops42 m9 (by show m9<42;omega);refine zL 0 12 (jI a1) 3 0 0 3 false inC_len ha1 (sd_run 4 ?_);refine zY (jI a1) hX [] ⟨a1,(ops42_ok _ (ah ha1)),rfl,rfl⟩
theorem nb2_0(v:Int)(hv:0≤v∧v<4294967296):0≤Int.tmod v 256∧Int.tmod v 256≤255:=by have:=tmu2 256 hv (by omega);omega
theorem nb2_1(v:Int)(hv:0≤v∧v<4294967296):0≤Int.tmod v 12∧Int.tmod v 12≤255:=by have:=tmu2 12 hv (by omega);omega
theorem nb2_2(v:Int)(hv:0≤v∧v<4294967296):0≤Int.tmod (IntKind.u32.wrap (Int.tmod v 40+240)) 256∧Int.tmod (IntKind.u32.wrap (Int.tmod v 40+240)) 256≤255:=by
 have h:=u32_wrap_in (Int.tmod v 40+240);have:=tmu2 256 h (by omega);omega
theorem lit4_in{v:Int}(hv:0≤v∧v<4294967296):∀x∈[v,(Int.tmod v 256),(IntKind.u32.wrap (32768+Int.tmod v 64)),(Int.tmod v 4096)],0≤x∧x<4294967296:=fun x hx=>by
 simp only[eG,List.not_mem_nil,or_false]at hx;rcases hx with rfl|rfl|rfl|rfl
 ·exact hv
 ·have:=tmu2 256 hv (by omega);omega
 ·exact u32_wrap_in _
 ·have:=tmu2 4096 hv (by omega);omega
noncomputable def f47b:Code:=Tryz.f47.body.getD .skip
theorem instr_s{n v:Int}(hn:i64B n=true)(hv:0≤v∧v<4294967296):SCall Tryz.prog T15 47 #[jI n,jU v] (hq []) fun v h=>∃(o1 n1:Int),rightI o1 n1=true∧(0≤n1∧n1<4294967296)∧v=.agg #[jI o1,jU n1]∧h=hq []:=by
 refine zS Tryz.f47 f47b 58 0 fun X hX=>(sd_run 8 (zG 7 83 #[jI n] (@op_s n hn) [] ?_))
 rintro v9 k9 ⟨o10_,q1_0,rfl,rfl⟩;refine⟨rfl,jI o10_,kr,?_⟩;refine sd_run 10 (sd_ask 11 (jI (sizeZ o10_)) 84 #[jI o10_] kr kr kr rfl ?_);rcases sizeZ_in o10_ with hz|hz|hz|hz
 ·exact absurd hz q1_0
 ·refine sd_see 11 (jI 1) (see_int kr hz) (sd_run 27 ?_);refine zY (.agg #[jI o10_,jU 0]) hX [] ⟨o10_,0,(by unfold rightI;rw[hz];decide),(by decide),rfl,rfl⟩
 ·refine sd_see 11 (jI 2) (see_int kr hz) (sd_run 25 ?_);refine zB 0 20 ((o10_:Int) == 66) (fun hc2=>?_) fun hc2=>?_
  ·refine zB 20 31 (decide ((o10_:Int)≥32)) (fun hc3=>?_) fun hc3=>?_
   ·refine zB 6 35 (decide ((o10_:Int)≤38)) (fun hc4=>?_) fun hc4=>?_
    ·refine sd_run 18 ?_;refine zY (.agg #[jI o10_,jU (Int.tmod (IntKind.u32.wrap ((Int.tmod v 40)+240)) 256)]) hX [] ⟨o10_,(Int.tmod (IntKind.u32.wrap ((Int.tmod v 40)+240)) 256),(by unfold rightI;rw[hz];simp;exact(nb2_2 v hv).2),(by have:=nb2_2 v hv;omega),rfl,rfl⟩
    ·refine sd_run 11 ?_;refine zY (.agg #[jI o10_,jU (Int.tmod v 12)]) hX [] ⟨o10_,(Int.tmod v 12),(by unfold rightI;rw[hz];simp;exact(nb2_1 v hv).2),(by have:=nb2_1 v hv;omega),rfl,rfl⟩
   ·refine sd_run 17 ?_;refine zY (.agg #[jI o10_,jU (Int.tmod v 12)]) hX [] ⟨o10_,(Int.tmod v 12),(by unfold rightI;rw[hz];simp;exact(nb2_1 v hv).2),(by have:=nb2_1 v hv;omega),rfl,rfl⟩
  ·refine zB 6 24 ((o10_:Int) == 67) (fun hc5=>?_) fun hc5=>?_
   ·refine zB 14 31 (decide ((o10_:Int)≥32)) (fun hc6=>?_) fun hc6=>?_
    ·refine zB 6 35 (decide ((o10_:Int)≤38)) (fun hc7=>?_) fun hc7=>?_
     ·refine sd_run 18 ?_;refine zY (.agg #[jI o10_,jU (Int.tmod (IntKind.u32.wrap ((Int.tmod v 40)+240)) 256)]) hX [] ⟨o10_,(Int.tmod (IntKind.u32.wrap ((Int.tmod v 40)+240)) 256),(by unfold rightI;rw[hz];simp;exact(nb2_2 v hv).2),(by have:=nb2_2 v hv;omega),rfl,rfl⟩
     ·refine sd_run 11 ?_;refine zY (.agg #[jI o10_,jU (Int.tmod v 12)]) hX [] ⟨o10_,(Int.tmod v 12),(by unfold rightI;rw[hz];simp;exact(nb2_1 v hv).2),(by have:=nb2_1 v hv;omega),rfl,rfl⟩
    ·refine sd_run 17 ?_;refine zY (.agg #[jI o10_,jU (Int.tmod v 12)]) hX [] ⟨o10_,(Int.tmod v 12),(by unfold rightI;rw[hz];simp;exact(nb2_1 v hv).2),(by have:=nb2_1 v hv;omega),rfl,rfl⟩
   ·refine zB 9 31 (decide ((o10_:Int)≥32)) (fun hc8=>?_) fun hc8=>?_
    ·refine zB 6 35 (decide ((o10_:Int)≤38)) (fun hc9=>?_) fun hc9=>?_
     ·refine sd_run 18 ?_;refine zY (.agg #[jI o10_,jU (Int.tmod (IntKind.u32.wrap ((Int.tmod v 40)+240)) 256)]) hX [] ⟨o10_,(Int.tmod (IntKind.u32.wrap ((Int.tmod v 40)+240)) 256),(by unfold rightI;rw[hz];simp;exact(nb2_2 v hv).2),(by have:=nb2_2 v hv;omega),rfl,rfl⟩
     ·refine sd_run 11 ?_;refine zY (.agg #[jI o10_,jU (Int.tmod v 256)]) hX [] ⟨o10_,(Int.tmod v 256),(by unfold rightI;rw[hz];simp;exact(nb2_0 v hv).2),(by have:=nb2_0 v hv;omega),rfl,rfl⟩
    ·refine sd_run 17 ?_;refine zY (.agg #[jI o10_,jU (Int.tmod v 256)]) hX [] ⟨o10_,(Int.tmod v 256),(by unfold rightI;rw[hz];simp;exact(nb2_0 v hv).2),(by have:=nb2_0 v hv;omega),rfl,rfl⟩
 ·refine sd_see 11 (jI 5) (see_int kr hz) ?_;obtain⟨m9,hm9⟩:∃m9:Nat,Int.tmod v 4=m9:=⟨(Int.tmod v 4).toNat,by have:=tmu2 (x:=v) 4 hv (by omega);omega⟩;have hm8:=tmu2 (x:=v) 4 hv (by omega);refine sd_run 29 (sd_see 53 (jU (m9:Int)) (see_int (x:=(Int.tmod v 4)) kr hm9) (zX 0 54 (pT 2 (0+m9*1)) m9 4 ?_));obtain⟨a10,ha10⟩:=zR ([v,(Int.tmod v 256),(IntKind.u32.wrap (32768+(Int.tmod v 64))),(Int.tmod v 4096)]) m9 (by show m9<4;omega);refine zL 0 55 (jU a10) 25 2 0 25 false uC_len ha10 (sd_run 12 ?_);refine zY (.agg #[jI o10_,jU a10]) hX [] ⟨o10_,a10,(by unfold rightI;rw[hz];simp),(lit4_in hv _ (ah ha10)),rfl,rfl⟩
noncomputable def f22b:Code:=Tryz.f22.body.getD .skip
theorem plainK_s{n v:Int}{en:Bool}(hn:i64B n=true)(hv:0≤v∧v<4294967296):SCall Tryz.prog T15 22 #[jI n,jU v,.bool en] (hq []) fun v h=>∃(o1 n1:Int),rightI o1 n1=true∧(0≤n1∧n1<4294967296)∧plainB o1=true∧(en=false→endsB o1=false)∧v=.agg #[jI o1,jU n1]∧h=hq []:=by
 simp only[i64B,ab,ap]at hn;refine zS Tryz.f22 f22b 31 0 fun X hX=>(sd_run 12 (sd_loop 31 (cl (cl (cr (cl (cr f22b))))) [.blk 0,.next (cr (cr f22b))] kr kr kr (fun m9 s9=>∃(k:Nat),m9=50-k∧(k≤50)∧s9=⟨tmL [(0,jI n),(1,jU v),(2,.bool en),(6,pT 0 0),(7,jI (k:Int))],hq [oB 65 [jI 0,jU 0]]⟩) (50-0) _ e1_ hX ⟨0,rfl,zo,rfl⟩ ⟨zs,zt⟩ kr ?_))
 rintro m9 s9 ⟨k,rfl,i1_0,rfl⟩ R1_ hR1_
 by_cases hlt:k<50
 ·refine zT 5 10 ((k:Int)<50) (sd_run 10 (sd_ask 14 (jI (0+n % (1073741824-0+1))) 21 #[jI n,jI 0,jI 1073741824] kr kr kr (orc21 n 0 1073741824 (inB_of zo zo zo zo)) (zI 2 16 .i64 ((0+n % (1073741824-0+1))+(k:Int)) (IntKind.i64.wrap ((0+n % (1073741824-0+1))+(k:Int))) (sd_run 1 (zG 18 47 #[jI ((0+n % (1073741824-0+1))+(k:Int)),jU v] (@instr_s ((0+n % (1073741824-0+1))+(k:Int)) v (by simp[i64B];omega) hv) [] ?_)))));rintro v9 k9 ⟨o10_,n10_,q1_0,q1_1,rfl,rfl⟩;refine⟨rfl,.agg #[jI o10_,jU n10_],kr,?_⟩;refine sd_run 8 (sd_ask 21 (.bool (plainB o10_)) 48 #[jI o10_] kr kr kr rfl (sd_run 1 ?_));refine zB 0 22 (plainB o10_) (fun hc2=>?_) fun hc2=>?_
  ·refine sd_run 2 (sd_ask 25 (.bool (endsB o10_)) 49 #[jI o10_] kr kr kr rfl (sd_run 5 ?_));refine zB 0 28 ((endsB o10_) == en) (fun hc3=>?_) fun hc3=>?_
   ·refine sd_run 13 ?_;refine zY (.agg #[jI o10_,jU n10_]) hX [] ⟨o10_,n10_,q1_0,q1_1,hc2,(fun h=>by subst h;simpa using hc3),rfl,rfl⟩
   ·refine zI 7 12 .i64 ((k+1:Nat):Int) (IntKind.i64.wrap ((k:Int)+1)) (sd_run 2 ?_);refine sd_inv R1_ kr (hR1_ _ (50-(k+1)) _ e1_ zo ⟨k+1,rfl,zo,rfl⟩ ⟨zs,zt⟩ kr)
  ·refine zI 15 12 .i64 ((k+1:Nat):Int) (IntKind.i64.wrap ((k:Int)+1)) (sd_run 2 ?_);refine sd_inv R1_ kr (hR1_ _ (50-(k+1)) _ e1_ zo ⟨k+1,rfl,zo,rfl⟩ ⟨zs,zt⟩ kr)
 ·obtain rfl:k=50:=by omega
  refine zF 5 10 (((50:Nat):Int)<50) (sd_run 15 ?_);refine zY (.agg #[jI 0,jU 0]) hX [] ⟨0,0,(by decide),(by decide),(by decide),(fun _=>by decide),rfl,rfl⟩
theorem madeB_mono{nd nr nd' nr':Int}{x:II}{k:Int}(h:madeB nd nr x k=true)(h1:nd≤nd')(h2:nr≤nr'):madeB nd' nr' x k=true:=by
 unfold madeB at h ⊢;simp only[ab,ap]at h ⊢;refine⟨h.1,?_⟩;replace h:=h.2
 by_cases e0:x.1=0
 ·rw[if_pos e0]at h ⊢;exact h
 rw[if_neg e0]at h ⊢
 by_cases e1:x.1=1
 ·rw[if_pos e1]at h ⊢;simp only[ab,ap]at h ⊢;omega
 rw[if_neg e1]at h ⊢
 by_cases e2:x.1=2
 ·rw[if_pos e2]at h ⊢;simp only[ab,ap]at h ⊢;omega
 rw[if_neg e2]at h ⊢;exact h
structure Cr(c:List II)(nd nr:Int):Prop where
 code:∀(j:Nat) (x:II),c[j]? = some x→madeB nd nr x j=true
 imm:∀x∈c,0≤x.2.2.2.2∧x.2.2.2.2<4294967296
def Vs(c:List II)(l:List Int):Prop:=∀x∈l,0≤x∧x<(c.length:Int)
theorem Cr.mono{c:List II}{nd nr nd' nr':Int}(h:Cr c nd nr)(h1:nd≤nd')(h2:nr≤nr'):Cr c nd' nr':=⟨fun j x hx=>madeB_mono (h.code j x hx) h1 h2,h.imm⟩
theorem Cr.snoc{c:List II}{nd nr:Int}(h:Cr c nd nr){x:II}(hx:madeB nd nr x (c.length:Nat)=true)(hi:0≤x.2.2.2.2∧x.2.2.2.2<4294967296):Cr (c++[x]) nd nr:=by
 refine⟨fun j y hy=>?_,fun y hy=>?_⟩
 ·rw[iO]at hy;split at hy
  ·exact h.code j y hy
  ·have:j=c.length:=by
     have:=(ae.1 hy).1;simp at this;omega
   subst this;simp at hy;subst hy;exact hx
 ·rcases eE.1 hy with hy|hy
  ·exact h.imm y hy
  ·simp at hy;subst hy;exact hi
theorem Vs.app{c:List II}{l:List Int}(h:Vs c l)(m:List II):Vs (c++m) l:=fun x hx=>by
 have:=h x hx;rw[ar];omega
theorem pop_d{c c1:List II}{d d1:List Int}{nd nr m1 n1:Int}(h:popC 1 c d nd=(c1,d1,m1,n1))(hc:Cr c nd nr)(hd:Vs c d)(h0:0≤nd)(h1:nd<1000000):
    Cr c1 m1 nr∧Vs c1 d1∧(0≤n1∧n1<(c1.length:Int))∧c.length≤c1.length∧c1.length≤c.length+1∧nd≤m1∧m1≤nd+1∧((d1.length:Int)-m1=(d.length:Int)-nd-1)∧(∀l,Vs c l→Vs c1 l):=by
 rcases nil_or_snoc d with rfl|⟨l,x,rfl⟩
 ·rw[popC_nil]at h;cases h;refine⟨(hc.mono zo (aK _)).snoc ?_ ⟨h0,by simp;omega⟩,fun x hx=>(by cases hx),⟨by omega,by simp;omega⟩,by simp,by simp,by omega,by omega,by simp;omega,fun l hl=>hl.app _⟩;unfold madeB;simp;omega
 ·rw[popC_snoc]at h;cases h;have:=hd n1 (by simp);exact⟨hc,fun x hx=>hd x (by simp[hx]),this,ak _,by omega,aK _,by omega,by simp;omega,fun l hl=>hl⟩
theorem pop_r{c c1:List II}{d d1:List Int}{nd nr m1 n1:Int}(h:popC 2 c d nr=(c1,d1,m1,n1))(hc:Cr c nd nr)(hd:Vs c d)(h0:0≤nr)(h1:nr<1000000):
    Cr c1 nd m1∧Vs c1 d1∧(0≤n1∧n1<(c1.length:Int))∧c.length≤c1.length∧c1.length≤c.length+1∧nr≤m1∧m1≤nr+1∧((d1.length:Int)-m1=(d.length:Int)-nr-1)∧(∀l,Vs c l→Vs c1 l):=by
 rcases nil_or_snoc d with rfl|⟨l,x,rfl⟩
 ·rw[popC_nil]at h;cases h;refine⟨(hc.mono (aK _) zo).snoc ?_ ⟨h0,by simp;omega⟩,fun x hx=>(by cases hx),⟨by omega,by simp;omega⟩,by simp,by simp,by omega,by omega,by simp;omega,fun l hl=>hl.app _⟩;unfold madeB;simp;omega
 ·rw[popC_snoc]at h;cases h;have:=hd n1 (by simp);exact⟨hc,fun x hx=>hd x (by simp[hx]),this,ak _,by omega,aK _,by omega,by simp;omega,fun l hl=>hl⟩
theorem Vs.add{c:List II}{l m:List Int}(h:Vs c l)(h2:Vs c m):Vs c (l++m):=fun x hx=>(eE.1 hx).elim (h x) (h2 x)
theorem vs1{c:List II}{a:Int}(h:0≤a∧a<(c.length:Int)):Vs c [a]:=fun x hx=>by simp at hx;subst hx;exact h
theorem vs2{c:List II}{a b:Int}(h:0≤a∧a<(c.length:Int))(h2:0≤b∧b<(c.length:Int)):Vs c [a,b]:=fun x hx=>by simp at hx;rcases hx with rfl|rfl<;>assumption
theorem vs3{c:List II}{a b d:Int}(h:0≤a∧a<(c.length:Int))(h2:0≤b∧b<(c.length:Int))(h3:0≤d∧d<(c.length:Int)):Vs c [a,b,d]:=fun x hx=>by simp at hx;rcases hx with rfl|rfl|rfl<;>assumption
structure LwI(k j:Nat)(w:LW):Prop where
 cr:Cr w.c w.nd w.nr
 d:Vs w.c w.d
 r:Vs w.c w.r
 cl:w.c.length≤4*k
 nd:0≤w.nd∧w.nd≤2*(k:Int)
 nr:0≤w.nr∧w.nr≤(k:Int)
 dl:(w.d.length:Int)-w.nd≤k
 rl:(w.r.length:Int)-w.nr≤k
 dle:w.d.length≤3*k
 rle:w.r.length≤k
 hd:0≤w.hd∧w.hd≤(j:Int)
 hr:0≤w.hr∧w.hr≤(j:Int)
 fl:w.fl = -1∨(0≤w.fl∧w.fl<(w.c.length:Int))
 tg:w.tg = -1∨(0≤w.tg∧w.tg<(w.c.length:Int))
 bt:w.br=0∨(33≤w.br∧w.br≤37∧w.tg = -1)
theorem popE(op:Int)(c:List II)(d:List Int)(nd:Int):∃c1 d1 m1 n1,popC op c d nd=(c1,d1,m1,n1):=⟨_,_,_,_,rfl⟩
theorem mkd_const{c:List II}{nd nr n:Int}(h:Cr c nd nr)(hn:0≤n∧n<4294967296):Cr (c++[(0,(c.length:Int),0,0,n)]) nd nr:=h.snoc (by unfold madeB;simp) hn
theorem mkd_alu{c:List II}{nd nr a b op t:Int}(h:Cr c nd nr)(ht:(t=3∧16≤op∧op≤23)∨(t=4∧((16≤op∧op≤23)∨op=25)))(ha:0≤a∧a<(c.length:Int))(hb:0≤b∧b<(c.length:Int)):Cr (c++[(t,(c.length:Int),a,b,op)]) nd nr:=h.snoc (by unfold madeB valB;rcases ht with⟨rfl,_⟩|⟨rfl,_⟩<;>simp<;>omega) (by simp;omega)
theorem oneB_inv{k:Nat}{op n nx:Int}{w:LW}(h:LwI k k w)(hk:k≤100)(hp:plainB op=true)(hn:0≤n∧n<4294967296)(hx:0≤nx∧nx<4294967296)(hb:w.br=0∧w.tg = -1):LwI (k+1) k (oneB op n nx w):=by
 obtain⟨c,d,r,nd,hd,nr,hr,fl,tg,br⟩:=w;obtain⟨a1,a2,a3,a4,a5,a6,a7,a8,a9,a10,a11,a12,a13,a14,a15⟩:=h;simp only at a1 a2 a3 a4 a5 a6 a7 a8 a9 a10 a11 a12 a13 a14 a15 hb;obtain⟨rfl,rfl⟩:=hb;obtain⟨c1,d1,m1,n1,hq⟩:=popE 1 c d nd;obtain⟨b1,b2,b3,b4,b5,b6,b7,b8,b9⟩:=pop_d hq a1 a2 a5.1 (by omega);have bl:=popC_len hq;obtain⟨c2,d2,m2,n2,hq2⟩:=popE 1 c1 d1 m1;obtain⟨e1,e2,e3,e4,e5,e6,e7,e8,e9⟩:=pop_d hq2 b1 b2 (by omega) (by omega);have bl2:=popC_len hq2;obtain⟨cr,r1,mr,nr1,hqr⟩:=popE 2 c r nr;obtain⟨g1,g2,g3,g4,g5,g6,g7,g8,g9⟩:=pop_r hqr a1 a3 a6.1 (by omega);have gl:=popC_len hqr;have fw:∀{c':List II},c.length≤c'.length→fl = -1∨(0≤fl∧fl<(c'.length:Int)):=fun q=>by omega
 have lit:∀v:Int,(0≤v∧v<4294967296)→Cr (c++[(0,(c.length:Int),0,0,v)]) nd nr:=fun v hv=>mkd_const a1 hv
 rcases op_cases hp with ho|ho|ho|ho|ho|ho|ho|ho|ho|ho|ho|ho|ho|ho|ho|ho
 ·rw[one_nop (.inl ho)];exact⟨a1,a2,a3,by simp only;omega,by simp only;omega,by simp only;omega,by simp only;omega,by simp only;omega,by simp only;omega,by simp only;omega,a11,a12,a13,a14,.inl rfl⟩
 ·rw[one_lit (.inl ho)];exact⟨lit n hn,(a2.app _).add (vs1 (by simp;omega)),a3.app _,by simp;omega,by simp only;omega,by simp only;omega,by simp;omega,by simp only;omega,by simp;omega,by simp only;omega,a11,a12,fw (by simp),.inl rfl,.inl rfl⟩
 ·rw[one_lit (.inr ho)];exact⟨lit n hn,(a2.app _).add (vs1 (by simp;omega)),a3.app _,by simp;omega,by simp only;omega,by simp only;omega,by simp;omega,by simp only;omega,by simp;omega,by simp only;omega,a11,a12,fw (by simp),.inl rfl,.inl rfl⟩
 ·rw[one_dup ho hq];exact⟨b1,b2.add (vs2 b3 b3),b9 _ a3,by simp only;omega,by simp only;omega,by simp only;omega,by simp;omega,by simp only;omega,by simp;omega,by simp only;omega,a11,a12,fw b4,.inl rfl,.inl rfl⟩
 ·rw[one_drop ho hq];exact⟨b1,b2,b9 _ a3,by simp only;omega,by simp only;omega,by simp only;omega,by simp only;omega,by simp only;omega,by simp only;omega,by simp only;omega,a11,a12,fw b4,.inl rfl,.inl rfl⟩
 ·rw[one_swap ho hq hq2];exact⟨e1,e2.add (vs2 (by omega) e3),e9 _ (b9 _ a3),by simp only;omega,by simp only;omega,by simp only;omega,by simp;omega,by simp only;omega,by simp;omega,by simp only;omega,a11,a12,fw (aA b4 e4),.inl rfl,.inl rfl⟩
 ·rw[one_over ho hq hq2];exact⟨e1,e2.add (vs3 e3 (by omega) e3),e9 _ (b9 _ a3),by simp only;omega,by simp only;omega,by simp only;omega,by simp;omega,by simp only;omega,by simp;omega,by simp only;omega,a11,a12,fw (aA b4 e4),.inl rfl,.inl rfl⟩
 ·rw[one_tor ho hq];exact⟨b1,b2,(b9 _ a3).add (vs1 b3),by simp only;omega,by simp only;omega,by simp only;omega,by simp only;omega,by simp;omega,by simp only;omega,by simp;omega,a11,a12,fw b4,.inl rfl,.inl rfl⟩
 ·rw[one_fromr ho hqr];exact⟨g1,(g9 _ a2).add (vs1 g3),g2,by simp only;omega,by simp only;omega,by simp only;omega,by simp;omega,by simp only;omega,by simp;omega,by simp only;omega,a11,a12,fw g4,.inl rfl,.inl rfl⟩
 ·rw[one_alu ho hq hq2];have f1:=mkd_alu (t:=4) (a:=n2) (b:=n1) (op:=op) e1 (.inr ⟨rfl,.inl ho⟩) e3 (by omega);have f2:=mkd_alu (t:=3) (a:=n2) (b:=n1) (op:=op) f1 (.inl ⟨rfl,ho⟩) (by simp;omega) (by simp;omega);exact⟨f2,((e2.app _).app _).add (vs1 (by simp;omega)),((e9 _ (b9 _ a3)).app _).app _,by simp;omega,by simp only;omega,by simp only;omega,by simp;omega,by simp only;omega,by simp;omega,by simp only;omega,a11,a12,.inr (by simp;omega),.inl rfl,.inl rfl⟩
 ·rw[one_cmp ho hq hq2];have f1:=mkd_alu (t:=4) (a:=n2) (b:=n1) (op:=op) e1 (.inr ⟨rfl,.inr ho⟩) e3 (by omega);exact⟨f1,e2.app _,(e9 _ (b9 _ a3)).app _,by simp;omega,by simp only;omega,by simp only;omega,by simp only;omega,by simp only;omega,by simp only;omega,by simp only;omega,a11,a12,.inr (by simp;omega),.inl rfl,.inl rfl⟩
 ·rw[one_nop (.inr ho)];exact⟨a1,a2,a3,by simp only;omega,by simp only;omega,by simp only;omega,by simp only;omega,by simp only;omega,by simp only;omega,by simp only;omega,a11,a12,a13,a14,.inl rfl⟩
 ·rw[one_jcc ho];exact⟨a1,a2,a3,by simp only;omega,by simp only;omega,by simp only;omega,by simp only;omega,by simp only;omega,by simp only;omega,by simp only;omega,a11,a12,a13,.inl rfl,.inr ⟨ho.1,ho.2,rfl⟩⟩
 ·rw[one_call ho];exact⟨lit nx hx,a2.app _,(a3.app _).add (vs1 (by simp;omega)),by simp;omega,by simp only;omega,by simp only;omega,by simp only;omega,by simp;omega,by simp only;omega,by simp;omega,a11,a12,fw (by simp),.inl rfl,.inl rfl⟩
 ·rw[one_ret ho hqr];exact⟨g1,g9 _ a2,g2,by simp only;omega,by simp only;omega,by simp only;omega,by simp only;omega,by simp only;omega,by simp only;omega,by simp only;omega,a11,a12,fw g4,.inr g3,.inl rfl⟩
 ·rw[one_jmpi ho hq];exact⟨b1,b2,b9 _ a3,by simp only;omega,by simp only;omega,by simp only;omega,by simp only;omega,by simp only;omega,by simp only;omega,by simp only;omega,a11,a12,fw b4,.inr b3,.inl rfl⟩
theorem topW_inv{k j:Nat}{w:LW}(h:LwI k j w)(hj:j≤k):LwI k k (topW w):=by
 obtain⟨a1,a2,a3,a4,a5,a6,a7,a8,a9,a10,a11,a12,a13,a14,a15⟩:=h;exact⟨a1,a2,a3,a4,a5,a6,a7,a8,a9,a10,by simp only[topW];omega,by simp only[topW];omega,a13,a14,a15⟩
theorem oneP_z{op n nx:Int}{w:LW}(hp:plainB op=true)(he:endsB op=false)(hb:w.br=0∧w.tg = -1):(oneP op n nx w).br=0∧(oneP op n nx w).tg = -1:=by
 obtain⟨c,d,r,nd,hd,nr,hr,fl,tg,br⟩:=w;simp only at hb;obtain⟨rfl,rfl⟩:=hb
 have h2:¬(32≤op∧op≤40):=fun q=>by
  unfold endsB at he;simp at he;omega
 obtain⟨c1,d1,m1,n1,hq⟩:=popE 1 c d nd;obtain⟨c2,d2,m2,n2,hq2⟩:=popE 1 c1 d1 m1;obtain⟨cr,r1,mr,nr1,hqr⟩:=popE 2 c r nr;unfold oneP;rcases op_cases hp with ho|ho|ho|ho|ho|ho|ho|ho|ho|ho|ho|ho|ho|ho|ho|ho
 ·rw[one_nop (.inl ho)];exact⟨rfl,rfl⟩
 ·rw[one_lit (.inl ho)];exact⟨rfl,rfl⟩
 ·rw[one_lit (.inr ho)];exact⟨rfl,rfl⟩
 ·rw[one_dup ho hq];exact⟨rfl,rfl⟩
 ·rw[one_drop ho hq];exact⟨rfl,rfl⟩
 ·rw[one_swap ho hq hq2];exact⟨rfl,rfl⟩
 ·rw[one_over ho hq hq2];exact⟨rfl,rfl⟩
 ·rw[one_tor ho hq];exact⟨rfl,rfl⟩
 ·rw[one_fromr ho hqr];exact⟨rfl,rfl⟩
 ·rw[one_alu ho hq hq2];exact⟨rfl,rfl⟩
 ·rw[one_cmp ho hq hq2];exact⟨rfl,rfl⟩
 all_goals omega
theorem low_inv{l:List (Int × Int)}{pc:Int}(hok:OkIns l)(hn:∀x∈l,0≤x.2∧x.2<4294967296):∀k,k≤l.length→LwI k k (lowW l pc k)∧(k<l.length→(lowW l pc k).br=0∧(lowW l pc k).tg = -1):=by
 intro k
 induction k with
 |zero=>exact fun _=>⟨⟨⟨fun j x hx=>(by simp[lowW,low0]at hx),fun x hx=>(by simp[lowW,low0]at hx)⟩,fun x hx=>(by simp[lowW,low0]at hx),fun x hx=>(by simp[lowW,low0]at hx),by simp[lowW,low0],by simp[lowW,low0],by simp[lowW,low0],by simp[lowW,low0],by simp[lowW,low0],by simp[lowW,low0],by simp[lowW,low0],by simp[lowW,low0],by simp[lowW,low0],.inl rfl,.inl rfl,.inl rfl⟩,fun _=>⟨rfl,rfl⟩⟩
 |succ k ih =>
  intro hk;obtain⟨h1,h2⟩:=ih (by omega);have h2:=h2 (by omega);have hx:l[k]? = some (l[k]'(by omega)):=ac _;generalize l[k]'(by omega)=x at hx;obtain⟨q1,q2,q3⟩:=hok.ok k x hx;have hm:=hok.most;rw[lowW_succ hx];refine⟨topW_inv (oneB_inv h1 zo q2 (hn x (ah hx)) (u32_wrap_in _) h2) zo,fun hlt=>oneP_z q2 (q3 hlt) h2⟩
theorem low_b{l:List (Int × Int)}{pc:Int}(hok:OkIns l)(hn:∀x∈l,0≤x.2∧x.2<4294967296):∀k,k≤l.length→LwB (lowW l pc k):=fun k hk=>by
 obtain⟨h,_⟩:=low_inv (pc:=pc) hok hn k hk;have hm:=hok.most;have:=h.cl;have:=h.dle;have:=h.rle;have:=h.nd;have:=h.nr;exact⟨by omega,by omega,by omega,by omega,by omega⟩
theorem low_right{l:List (Int × Int)}{pc:Int}(hok:OkIns l)(hn:∀x∈l,0≤x.2∧x.2<4294967296):RightP (lowW l pc l.length).c (lowW l pc l.length).d (lowW l pc l.length).r (lowW l pc l.length).nd (lowW l pc l.length).nr (lowW l pc l.length).hd (lowW l pc l.length).hr (lowW l pc l.length).fl (lowW l pc l.length).tg (lowW l pc l.length).br (l.length:Int) ((lowW l pc l.length).c.length:Int):=by
 obtain⟨h,_⟩:=low_inv (pc:=pc) hok hn l.length (ak _);have hm:=hok.most;have h1:=hok.one;have a1:=h.cl;have a2:=h.nd;have a3:=h.nr;have a4:=h.hd;have a5:=h.hr;exact⟨rfl,by omega,by omega,by omega,by omega,by omega,by omega,h.cr.code,fun k x hx=>valB_iff.2 (h.d x (ah hx)),fun k x hx=>valB_iff.2 (h.r x (ah hx)),h.fl.imp id valB_iff.2,h.tg.imp id valB_iff.2,h.bt⟩
def Le(u v:List Bool):Prop:=∀i:Nat,u[i]? = some true→v[i]? = some true
theorem Le.trans{u v w:List Bool}(h:Le u v)(k:Le v w):Le u w:=fun i q=>k i (h i q)
theorem mark_le(u:List Bool)(x:Int):Le u (mark u x):=fun i q=>by
 unfold mark;split
 ·exact q
 ·rw[eA];split
  ·rename_i e;subst e;rw[if_pos (ae.1 q).1]
  ·exact q
theorem outS_le:∀(xs:List Int) (u:List Bool),Le u (outS u xs)
 | [],u=>fun i q=>q
 |x::xs,u=>(mark_le u x).trans (outS_le xs (mark u x))
theorem mark_in{u:List Bool}{x:Int}(h0:0≤x)(h:x<(u.length:Int)):(mark u x)[x.toNat]? = some true:=by
 unfold mark;rw[if_neg (by omega),eA,if_pos rfl,if_pos (by omega)]
theorem outS_in:∀(xs:List Int) (u:List Bool) (x:Int),x∈xs→0≤x→x<(u.length:Int)→(outS u xs)[x.toNat]? = some true
 |y::xs,u,x,hm,h0,h=>by
  rcases eG.1 hm with rfl|hm
  ·exact outS_le xs (mark u x) _ (mark_in h0 h)
  ·exact outS_in xs (mark u y) x hm h0 (by simpa using h)
theorem mark_ne{u:List Bool}{x:Int}{i:Nat}(h:x.toNat≠i):(mark u x)[i]? = u[i]? := by
 unfold mark;split
 ·rfl
 ·rw[eA,if_neg h]
theorem outS_ne:∀(xs:List Int) (u:List Bool) (i:Nat),(∀x∈xs,x.toNat≠i)→(outS u xs)[i]? = u[i]?
 | [],u,i,h=>rfl
 |x::xs,u,i,h=>(outS_ne xs (mark u x) i fun y hy=>h y (eu _ hy)).trans (mark_ne (h x (eI ..)))
theorem bkStep_le(v:List Bool)(i:Nat)(x:II):Le v (bkStep v i x):=by
 unfold bkStep;split
 ·exact outS_le _ _
 ·exact fun i q=>q
theorem bkU_le(c:List II)(u:List Bool):∀j,Le u (bkU c u j)
 |0=>fun i q=>q
 |j+1=>by
  unfold bkU;split
  ·exact(bkU_le c u j).trans (bkStep_le _ _ _)
  ·exact bkU_le c u j
theorem bkU_closed{c:List II}{u:List Bool}{nd nr:Int}(hu:u.length=c.length)(hc:∀(j:Nat) (x:II),c[j]? = some x→madeB nd nr x j=true):∀j,j≤c.length→∀(i:Nat) (x:II),c.length-j≤i→c[i]? = some x→(x.1=3∨x.1=4)→(bkU c u j)[i]? = some true→(bkU c u j)[x.2.2.1.toNat]? = some true∧(bkU c u j)[x.2.2.2.1.toNat]? = some true:=by
 intro j
 induction j with
 |zero=>intro _ i x hi hx;have:=(ae.1 hx).1;omega
 |succ j ih =>
  intro hj i x hi hx hop hb;have hm:c[c.length-(j+1)]? = some (c[c.length-(j+1)]'(by omega)):=ac _;generalize c[c.length-(j+1)]'(by omega)=y at hm
  have e:bkU c u (j+1)=bkStep (bkU c u j) (c.length-(j+1)) y:=by
   show(match c[c.length-(j+1)]? with|some x=>_|none=>_)=_;rw[hm]
  rw[e]at hb ⊢;have hlen:(bkU c u j).length=c.length:=by rw[bkU_len,hu]
  have same:∀q,c.length-(j+1)≤q→(bkStep (bkU c u j) (c.length-(j+1)) y)[q]? = (bkU c u j)[q]? := fun q hq=>by
   unfold bkStep;split
   ·rename_i hs;obtain⟨⟨y1,y2⟩,y3,y4⟩:=made_ab (hc _ y hm) hs.2;exact outS_ne _ _ _ fun z hz=>by simp at hz;rcases hz with rfl|rfl<;>omega
   ·rfl
  rw[same i hi]at hb
  by_cases hq:c.length-j≤i
  ·obtain⟨g1,g2⟩:=ih (by omega) i x hq hx hop hb;exact⟨bkStep_le _ _ _ _ g1,bkStep_le _ _ _ _ g2⟩
  ·have hie:i=c.length-(j+1):=by omega
   subst hie;rw[hm]at hx;cases hx;obtain⟨⟨y1,y2⟩,y3,y4⟩:=made_ab (hc _ _ hm) hop;rw[bkStep_yes hb hop];exact⟨outS_in _ _ _ (by simp) y1 (by omega),outS_in _ _ _ (by simp) y3 (by omega)⟩
structure PI(nd nr:Int)(u:List Bool)(k:Nat)(q:List Int × List II):Prop where
 code:∀(j:Nat) (y:II),q.2[j]? = some y→madeB nd nr y j=true
 imm:∀y∈q.2,0≤y.2.2.2.2∧y.2.2.2.2<4294967296
 pl:∀i:Nat,i<k→u[i]? = some true→∃p,q.1[i]? = some p∧0≤p∧p<(q.2.length:Int)
theorem plS_inv{c:List II}{u:List Bool}{nd nr:Int}(hu:u.length=c.length)(hc:∀(j:Nat) (x:II),c[j]? = some x→madeB nd nr x j=true)(hi:∀x∈c,0≤x.2.2.2.2∧x.2.2.2.2<4294967296)
    (hcl:∀(i:Nat) (x:II),c[i]? = some x→(x.1=3∨x.1=4)→u[i]? = some true→u[x.2.2.1.toNat]? = some true∧u[x.2.2.2.1.toNat]? = some true):∀k,k≤c.length→PI nd nr u k (plS c u k):=by
 intro k
 induction k with
 |zero=>exact fun _=>⟨fun j y h=>(by simp[plS]at h),fun y h=>(by simp[plS]at h),fun i h=>by omega⟩
 |succ k ih =>
  intro hk;have h:=ih (by omega);have hx:c[k]? = some (c[k]'(by omega)):=ac _;generalize c[k]'(by omega)=x at hx;have hb:u[k]? = some (u[k]'(by omega)):=ac _;generalize u[k]'(by omega)=b at hb;cases b with
  |false =>
   rw[plS_no hx hb];refine⟨h.code,h.imm,fun i hik hu'=>?_⟩;rcases(by omega:i<k∨i=k)with q|rfl
   ·exact h.pl i q hu'
   ·rw[hb]at hu';cases hu'
  |true =>
   rw[plS_yes hx hb];have hpl:=plS_len c u k;generalize hP:(plS c u k).1=P at *;generalize hC:(plS c u k).2=C at *;have hh:=h;have hm:=hc k x hx
   have hplX:madeB nd nr (plX (P.set k (C.length:Int)) (C.length:Int) x) (C.length:Nat)=true∧(plX (P.set k (C.length:Int)) (C.length:Int) x).2.2.2.2=x.2.2.2.2:=by
    by_cases hop:x.1=3∨x.1=4
    ·obtain⟨⟨y1,y2⟩,y3,y4⟩:=made_ab hm hop;obtain⟨g1,g2⟩:=hcl k x hx hop hb;obtain⟨p1,r1,r2,r3⟩:=h.pl _ (by omega) g1;obtain⟨p2,r4,r5,r6⟩:=h.pl _ (by omega) g2;rw[hP]at r1 r4;rw[hC]at r3 r6;rw[plX_yes (A:=x.2.2.1.toNat) (B:=x.2.2.2.1.toNat) (b1:=p1) (b2:=p2) hop (by omega) (by omega) (by rw[eA,if_neg (by omega)];exact r1) (by rw[eA,if_neg (by omega)];exact r4)];refine⟨?_,rfl⟩;obtain⟨o,dd,a,b',im⟩:=x;have:=(made_cases hm).2;unfold madeB valB;simp only at hop this ⊢;rcases hop with rfl|rfl<;>simp<;>omega
    ·rw[plX_no hop];refine⟨?_,rfl⟩;obtain⟨o,dd,a,b',im⟩:=x;have:=(made_cases hm).2;unfold madeB;simp only at hop this ⊢;rcases(by omega:o=0∨o=1∨o=2)with rfl|rfl|rfl<;>simp<;>omega
   refine⟨fun j y hy=>?_,fun y hy=>?_,fun i hik hu'=>?_⟩
   ·simp only at hy;rw[iO]at hy;split at hy
    ·exact h.code j y (by rw[hC];exact hy)
    ·have:j=C.length:=by
       have:=(ae.1 hy).1;simp at this;omega
     subst this;simp at hy;subst hy;exact hplX.1
   ·simp only at hy;rcases eE.1 hy with hy|hy
    ·exact h.imm y (by rw[hC];exact hy)
    ·simp at hy;subst hy;rw[hplX.2];exact hi x (ah hx)
   ·simp only;rcases(by omega:i<k∨i=k)with q|rfl
    ·obtain⟨p,r1,r2,r3⟩:=h.pl i q hu';rw[hP]at r1;rw[hC]at r3;exact⟨p,by rw[eA,if_neg (by omega)];exact r1,r2,by simp;omega⟩
    ·exact⟨(C.length:Int),by rw[eA,if_pos rfl,if_pos (by omega)],by omega,by simp;omega⟩
theorem sweep_right{c:List II}{od rd:List Int}{nd nr hd hr fl tg br ct:Int}(hR:RightP c od rd nd nr hd hr fl tg br ct (c.length:Int))(hi:∀x∈c,0≤x.2.2.2.2∧x.2.2.2.2<4294967296):
    RightP (swC c od rd fl tg) (movL (swP c od rd fl tg) od) (movL (swP c od rd fl tg) rd) nd nr hd hr (movO (swP c od rd fl tg) fl) (movO (swP c od rd fl tg) tg) br ct ((swC c od rd fl tg).length:Int)∧(∀x∈swC c od rd fl tg,0≤x.2.2.2.2∧x.2.2.2.2<4294967296):=by
 have hu0:(outS (outS (outS (List.replicate c.length false) od) rd) [fl,tg]).length=c.length:=by simp
 have hul:(swU c od rd fl tg).length=c.length:=by unfold swU;rw[bkU_len,hu0]
 have hI:=plS_inv (u:=swU c od rd fl tg) hul hR.code hi (fun i x hx hop hb=>bkU_closed hu0 hR.code c.length (ak _) i x (by omega) hx hop hb) c.length (ak _);have base:Le (outS (outS (outS (List.replicate c.length false) od) rd) [fl,tg]) (swU c od rd fl tg):=bkU_le _ _ _
 have at_:∀x:Int,(0≤x∧x<(c.length:Int))→(swU c od rd fl tg)[x.toNat]? = some true→valB (movI (swP c od rd fl tg) x) ((swC c od rd fl tg).length:Int)=true:=fun x hx hm=>by
  obtain⟨p,r1,r2,r3⟩:=hI.pl x.toNat (by omega) hm;refine valB_iff.2 ?_;unfold movI;rw[show(swP c od rd fl tg).getD x.toNat 0=p by rw[aj];unfold swP;rw[r1];rfl];exact⟨r2,r3⟩
 have hod:∀x∈od,valB (movI (swP c od rd fl tg) x) ((swC c od rd fl tg).length:Int)=true:=fun x hx=>by
  obtain⟨k,hk⟩:=aJ.1 hx;have hv:=valB_iff.1 (hR.od_ k x hk);exact at_ x hv (base _ (outS_le _ _ _ (outS_le _ _ _ (outS_in _ _ _ hx hv.1 (by simpa using hv.2)))))
 have hrd:∀x∈rd,valB (movI (swP c od rd fl tg) x) ((swC c od rd fl tg).length:Int)=true:=fun x hx=>by
  obtain⟨k,hk⟩:=aJ.1 hx;have hv:=valB_iff.1 (hR.rd_ k x hk);exact at_ x hv (base _ (outS_le _ _ _ (outS_in _ _ _ hx hv.1 (by simpa using hv.2))))
 have ho:∀x∈[fl,tg],(x = -1∨valB x (c.length:Int)=true)→movO (swP c od rd fl tg) x = -1∨valB (movO (swP c od rd fl tg) x) ((swC c od rd fl tg).length:Int)=true:=fun x hx hv=>by
  unfold movO
  by_cases hx1:x = -1
  ·rw[if_pos hx1];exact .inl rfl
  ·rw[if_neg hx1];have hv:=valB_iff.1 (hv.resolve_left hx1);exact .inr (at_ x hv (base _ (outS_in _ _ _ hx hv.1 (by simpa using hv.2))))
 refine⟨⟨rfl,aA (plS_le c _ _) hR.len,hR.nd_,hR.nr_,hR.hd_,hR.hr_,hR.ct_,hI.code,fun k x hx=>?_,fun k x hx=>?_,ho fl (by simp) hR.fl_,ho tg (by simp) hR.tg_,hR.br_.imp id fun⟨h1,h2,h3⟩=>⟨h1,h2,by unfold movO;rw[if_pos h3]⟩⟩,hI.imm⟩
 ·obtain⟨y,hy,rfl⟩:=iH.1 (ah hx);exact hod y hy
 ·obtain⟨y,hy,rfl⟩:=iH.1 (ah hx);exact hrd y hy
def Mid(l:List (Int × Int)):Prop:=∀x∈l,rightI x.1 x.2=true∧plainB x.1=true∧endsB x.1=false∧0≤x.2∧x.2<4294967296
theorem mid_nil:Mid []:=fun x hx=>by cases hx
theorem Mid.snoc{l:List (Int × Int)}(h:Mid l){o n:Int}(h1:rightI o n=true)(h2:0≤n∧n<4294967296)(h3:plainB o=true)(h4:endsB o=false):Mid (l++[(o,n)]):=fun x hx=>by
 rcases eE.1 hx with q|q
 ·exact h x q
 ·simp at q;subst q;exact⟨h1,h3,h4,h2⟩
theorem Mid.ok{l:List (Int × Int)}(h:Mid l)(h1:1≤l.length)(h2:l.length≤8):OkIns l:=⟨h1,h2,fun k x hx=>by
 obtain⟨a,b,c,_⟩:=h x (ah hx)
 exact⟨a,b,fun _=>c⟩⟩
theorem Mid.imm{l:List (Int × Int)}(h:Mid l):∀x∈l,0≤x.2∧x.2<4294967296:=fun x hx=>(h x hx).2.2.2
theorem Mid.last{l:List (Int × Int)}(h:Mid l)(h2:l.length≤7){o n:Int}(a1:rightI o n=true)(a3:plainB o=true):OkIns (l++[(o,n)]):=⟨by simp,by simp;omega,fun k x hx=>by
 rw[iO]at hx;split at hx
 ·obtain⟨a,b,c,_⟩:=h x (ah hx);exact⟨a,b,fun _=>c⟩
 ·have:=(ae.1 hx).1;simp at this;rw[show k-l.length=0 by omega]at hx;simp at hx;subst hx
  exact⟨a1,a3,fun q=>by simp at q;omega⟩⟩
theorem Mid.last_imm{l:List (Int × Int)}(h:Mid l){o n:Int}(a2:0≤n∧n<4294967296):∀x∈l++[(o,n)],0≤x.2∧x.2<4294967296:=fun x hx=>by
 rcases eE.1 hx with q|q
 ·exact h.imm x q
 ·simp at q;subst q;exact a2
structure LowI(m:List (Int × Int)):Prop where
 imm:∀x∈m,0≤x.2∧x.2<4294967296
 ok:m.length=0∨OkIns m
theorem Mid.low{l:List (Int × Int)}(h:Mid l)(h2:l.length≤8):LowI l:=⟨h.imm,by
 rcases iU l.length with q|q
 ·exact .inl q
 ·exact .inr (h.ok q h2)⟩
theorem tm40{x:Int}(h:0≤x∧x<18446744073709551616):0≤Int.tmod x 1099511627776∧Int.tmod x 1099511627776<18446744073709551616:=by rw[aU h.1];omega
theorem i64_in{l:List Int}(h:∀x∈l,i64B x=true){k:Nat}{x:Int}(hx:l[k]? = some x):i64B x=true:=h x (ah hx)
theorem movL_len2(P:List Int):∀l:List Int,(movL P l).length=l.length
 | []=>rfl
 |x::t=>by simp[movL]
theorem low_block{l:List (Int × Int)}{pc:Int}(hok:OkIns l)(hn:∀x∈l,0≤x.2∧x.2<4294967296){c:List II}{d r:List Int}{nd h1 nr h2 fl tg br f1 t1:Int}{C:List II}{OD RD:List Int}(hw:lowW l pc l.length=⟨c,d,r,nd,h1,nr,h2,fl,tg,br⟩)
    (e1:f1=movO (swP c d r fl tg) fl) (e2:t1=movO (swP c d r fl tg) tg) (e5:C=swC c d r fl tg) (e6:OD=movL (swP c d r fl tg) d) (e7:RD=movL (swP c d r fl tg) r) :
    RightP C OD RD nd nr h1 h2 f1 t1 br (l.length:Int) (C.length:Int)∧(∀x∈C,0≤x.2.2.2.2∧x.2.2.2.2<4294967296)∧OD.length<100∧RD.length<100:=by
 have hlr:=low_right (pc:=pc) hok hn;have hli:=(low_inv (pc:=pc) hok hn _ (ak _)).1;rw[hw]at hlr hli;have him:=hli.cr.imm;have hm:=hok.most;have hdl:=hli.dle;have hrl:=hli.rle;simp only at hlr him hdl hrl;obtain⟨hR,hi⟩:=sweep_right hlr him;subst e1 e2 e5 e6 e7;have l1:=movL_len2 (swP c d r fl tg) d;have l2:=movL_len2 (swP c d r fl tg) r;exact⟨hR,hi,by omega,by omega⟩
theorem lowPc_in{l:List (Int × Int)}{pc:Int}(h:0≤pc∧pc<4294967296):∀k,0≤lowPc l pc k∧lowPc l pc k<4294967296
 |0=>h
 |k+1=>by
  show 0≤(match l[k]? with|some x=>_|none=>_:Int)∧(match l[k]? with|some x=>_|none=>_:Int)<_;split
  ·exact u32_wrap_in _
  ·exact lowPc_in h k
theorem low_nx{l:List (Int × Int)}{pc:Int}(h:0≤pc∧pc<4294967296):u32P (lowNext l (lowPc l pc l.length)):=by
 have q:=lowPc_in (l:=l) h l.length;unfold lowNext;split
 ·split
  ·exact u32_wrap_in _
  ·exact q
 ·exact q
theorem low_tk(l:List (Int × Int))(e br:Int):u32P (lowTaken l e br):=by
 unfold lowTaken;split
 ·split
  ·exact⟨aK _,by decide⟩
  ·split
   ·exact⟨aK _,by decide⟩
   ·exact u32_wrap_in _
 ·exact⟨aK _,by decide⟩
noncomputable def f7b:Code:=Tryz.f7.body.getD .skip
set_option maxHeartbeats 4000000 in
theorem block_s{pc en:Int}{xl xv:List Int}(hpc:0≤pc∧pc<4294967296)(hen:i64B en=true)(h1:∀x∈xl,i64B x=true)(h2:∀x∈xv,0≤x∧x<4294967296)(hxl:xl.length≤9223372036854775807)(hxv:xv.length≤9223372036854775807):SCall Tryz.prog T15 7 #[jU pc,(s1 0 xl.length),(s1 1 xv.length),jI en] (hq [(inCo xl true),(uCo xv true)]) fun v h=>∃(nd nr hd hr f1 nx t1 br tk ct:Int) (C:List II) (OD RD:List Int),RightP C OD RD nd nr hd hr f1 t1 br ct (C.length:Int)∧(∀x∈C,0≤x.2.2.2.2∧x.2.2.2.2<4294967296)∧C.length<100000∧OD.length<100∧RD.length<100∧u32P nx∧u32P tk∧v=(pgV (s5 2 C.length) nd nr hd hr (s1 3 OD.length) (s1 4 RD.length) f1 nx t1 br tk ct (C.length:Int))∧h=hq [(inCo xl true),(uCo xv true),(iiF C),(inF OD),(inF RD)]:=by
 refine zS Tryz.f7 f7b 60 2 fun X hX=>(sd_run 17 ?_)
 obtain⟨N1,hN1⟩:∃N,N=min (min xl.length xv.length) 7:=⟨_,rfl⟩;refine sd_loop 60 (cl (cl (cr (cl (cr (cr f7b)))))) [.blk 0,.next (cr (cr (cr f7b)))] kr kr kr (fun m9 s9=>∃(k:Nat) (m:List (Int × Int)),m9=N1-k∧(k≤N1)∧(Mid m)∧(m.length=k)∧s9=⟨tmL [(0,jU pc),(1,(s1 0 xl.length)),(2,(s1 1 xv.length)),(3,jI en),(8,pT 2 0),(9,(s2 3 m.length)),(10,jI (k:Int))],hq [(inCo xl true),(uCo xv true),some ⟨pg0,34,false⟩,(jjCo m false)]⟩) (N1-0) _ (emOf (eM [1,2,3,0])) hX ⟨0,[],rfl,zo,mid_nil,rfl,rfl⟩ ⟨zs,zt⟩ kr ?_;rintro m9 s9 ⟨k,m,rfl,i1_0,i1_1,i1_2,rfl⟩ R1_ hR1_
 by_cases hlt:k<N1
 ·obtain⟨a1,ha1⟩:=zR xl k;have ia1:=i64_in h1 ha1;obtain⟨a2,ha2⟩:=zR xv k;have ia2:=h2 _ (ah ha2);refine zT 7 16 ((k:Int)<(xl.length:Int)) (zT 5 21 ((k:Int)<(xv.length:Int)) (zT 4 25 ((k:Int)<7) (zX 12 32 (pT 0 (0+k*1)) k xl.length (zL 0 33 (jI a1) 3 0 0 3 true inC_len ha1 (zX 2 36 (pT 1 (0+k*1)) k xv.length (zL 0 37 (jU a2) 25 1 0 25 true uC_len ha2 (zG 38 22 #[jI a1,jU a2,.bool false] (@plainK_s a1 a2 false ia1 ia2) [] ?_)))))));rintro v9 k9 ⟨o12_,n12_,q3_0,q3_1,q3_2,q3_3,rfl,rfl⟩;refine⟨rfl,.agg #[jI o12_,jU n12_],kr,?_⟩;refine sd_run 1 (sd_grow 40 63 63 65 1 15 3 m.length 1 5 (sK 4 1 1) (tab jjC m) [jI o12_,jU n12_] (tab jjC (m++[(o12_,n12_)])) kr kr kr kr kr ((tab_len jjC_len _).trans (by first|rfl|(simp only[ar,ay,aL,aP]at *;done))) kr kr (by decide) kr zo kr (tab_snoc m (o12_,n12_)) (sd_see 40 (s2 5 ((m++[(o12_,n12_)]).length)) (see_len (n:=(m.length+1)) kr (by simp)) (zI 7 28 .i64 ((k+1:Nat):Int) (IntKind.i64.wrap ((k:Int)+1)) (sd_run 2 ?_))));refine sd_inv R1_ kr (hR1_ _ (N1-(k+1)) _ (emOf (eM [1,2,3,6])) zo ⟨k+1,(m++[(o12_,n12_)]),rfl,zo,(i1_1.snoc q3_0 q3_1 q3_2 (q3_3 rfl)),(by simp;omega),rfl⟩ ⟨sub_of kr kr ⟨inC_b,uC_b,brn,jjC_b,⟨⟩⟩,zt⟩ kr)
 ·obtain rfl:k=N1:=by omega
  refine sd_run 2 (sd_mid 60 (cl (cl (cl (cl (cr (cl (cr (cr f7b)))))))) [.next (cr (cl (cl (cl (cr (cl (cr (cr f7b)))))))),.next (cr (cl (cl (cr (cl (cr (cr f7b))))))),.inv R1_,.blk 0,.next (cr (cr (cr f7b)))] kr kr kr (fun s9=>s9=⟨tmL [(0,jU pc),(1,(s1 0 xl.length)),(2,(s1 1 xv.length)),(3,jI en),(8,pT 2 0),(9,(s2 3 m.length)),(10,jI (k:Int)),(26,.bool false)],hq [(inCo xl true),(uCo xv true),some ⟨pg0,34,false⟩,(jjCo m false)]⟩) hX ?_ ?_)
  ·intro R2_ hR2_;rcases(by omega:k=xl.length∨(k<xl.length∧k=xv.length)∨(k<xl.length∧k<xv.length∧k=7))with hq|hq|hq
   ·refine zF 5 16 ((k:Int)<(xl.length:Int)) (sd_run 11 ?_);refine sd_inv R2_ kr (hR2_ _ _ e4_ rfl ⟨sub_of kr kr ⟨inC_b,uC_b,brn,jjC_b,⟨⟩⟩,zt⟩ kr)
   ·refine zT 5 16 ((k:Int)<(xl.length:Int)) (zF 5 21 ((k:Int)<(xv.length:Int)) (sd_run 6 ?_));refine sd_inv R2_ kr (hR2_ _ _ e4_ rfl ⟨sub_of kr kr ⟨inC_b,uC_b,brn,jjC_b,⟨⟩⟩,zt⟩ kr)
   ·refine zT 5 16 ((k:Int)<(xl.length:Int)) (zT 5 21 ((k:Int)<(xv.length:Int)) (zF 4 25 ((k:Int)<7) (sd_run 2 ?_)));refine sd_inv R2_ kr (hR2_ _ _ e4_ rfl ⟨sub_of kr kr ⟨inC_b,uC_b,brn,jjC_b,⟨⟩⟩,zt⟩ kr)
  ·rintro s9 rfl;refine sd_run 8 (sd_run 7 (zG 47 22 #[jI en,jU pc,.bool (((Int.tmod en 2):Int) == 0)] (@plainK_s en pc (((Int.tmod en 2):Int) == 0) hen hpc) [] ?_));rintro v9 k9 ⟨o13_,n13_,q4_0,q4_1,q4_2,q4_3,rfl,rfl⟩;refine⟨rfl,.agg #[jI o13_,jU n13_],kr,?_⟩;refine sd_run 1 (sd_grow 49 63 63 65 1 15 3 m.length 1 5 (sK 4 1 1) (tab jjC m) [jI o13_,jU n13_] (tab jjC (m++[(o13_,n13_)])) kr kr kr kr kr ((tab_len jjC_len _).trans (by first|rfl|(simp only[ar,ay,aL,aP]at *;done))) kr kr (by decide) kr zo kr (tab_snoc m (o13_,n13_)) (sd_see 49 (s2 5 ((m++[(o13_,n13_)]).length)) (see_len (n:=(m.length+1)) kr (by simp)) (sd_run 7 ?_)));have hok:OkIns (m++[(o13_,n13_)]):=i1_1.last (by omega) q4_0 q4_2;have hni:∀x∈(m++[(o13_,n13_)]),0≤x.2∧x.2<4294967296:=i1_1.last_imm q4_1;refine sdC 53 23 #[jU pc,(s2 5 ((m++[(o13_,n13_)]).length))] (@lower_s (m++[(o13_,n13_)]) pc (unk+2) hok (low_b hok hni) (low_right hok hni)) [some 5] ⟨jjC_b,⟨⟩⟩ ?_;rintro Y v9 k9 ⟨c4_,d4_,r4_,nd4_,hd4_,nr4_,hr4_,fl4_,tg4_,br4_,f14_,t14_,nx4_,tk4_,C4_,OD4_,RD4_,q5_0,q5_1,q5_2,q5_3,q5_4,q5_5,q5_6,q5_7,rfl,rfl⟩
   refine mkG (.tuple #[(pgV (s5 6 C4_.length) nd4_ nr4_ hd4_ hr4_ (s1 7 OD4_.length) (s1 8 RD4_.length) f14_ nx4_ t14_ br4_ tk4_ ((m++[(o13_,n13_)]).length:Int) (C4_.length:Int)),jI 0]) [(inCo xl true),(uCo xv true),some ⟨pg0,34,false⟩,none,oB 65 [jI o13_,jU n13_],(jjCo (m++[(o13_,n13_)]) false),(iiF C4_),(inF OD4_),(inF RD4_)] ⟨cvo,cvo,cvo,cvo,cvs 0 Y,iiC_c 1,inC_c 2,inC_c 3,⟨⟩⟩ ?_;obtain⟨hB0,hB1,hB2,hB3⟩:=low_block hok hni q5_0 q5_1 q5_2 q5_5 q5_6 q5_7;have hB4:=hB0.len;refine sd_run 25 ?_;refine zZ (pgV (s5 6 C4_.length) nd4_ nr4_ hd4_ hr4_ (s1 7 OD4_.length) (s1 8 RD4_.length) f14_ nx4_ t14_ br4_ tk4_ ((m++[(o13_,n13_)]).length:Int) (C4_.length:Int)) hX (pgV (s5 2 C4_.length) nd4_ nr4_ hd4_ hr4_ (s1 3 OD4_.length) (s1 4 RD4_.length) f14_ nx4_ t14_ br4_ tk4_ ((m++[(o13_,n13_)]).length:Int) (C4_.length:Int)) (eM [1,2,7,8,9]) ⟨nd4_,nr4_,hd4_,hr4_,f14_,nx4_,t14_,br4_,tk4_,((m++[(o13_,n13_)]).length:Int),C4_,OD4_,RD4_,hB0,hB1,zo,hB2,hB3,(by rw[q5_3];exact low_nx hpc),(by rw[q5_4];exact low_tk _ _ _),rfl,rfl⟩
theorem tm16{x:Int}(h:0≤x∧x<4294967296):0≤Int.tmod x 16∧Int.tmod x 16≤15:=by rw[aU h.1];omega
theorem V32.take{l:List Int}(h:V32 l)(n:Nat):V32 (l.take n):=fun x hx=>h x (List.mem_of_mem_take hx)
theorem stOk_of{d r:List Int}{fl:Int}(h1:d.length≤16)(h2:r.length≤16)(h3:fl≤15):stOk d r fl=true:=by simp[stOk,h1,h2,h3]
theorem V32.one{x:Int}(h:0≤x∧x<4294967296):V32 [x]:=fun y hy=>by simp at hy;subst hy;exact h
theorem V32.app{l m:List Int}(h:V32 l)(k:V32 m):V32 (l++m):=fun x hx=>(eE.1 hx).elim (h x) (k x)
theorem codes_any{c:List II}{od rd:List Int}{nd nr hd hr fl nx tg br tk ct:Int}{q:Sx}{d dj r rj:List Int}{ro:Bool}{ka kb:Nat}(hR:RightP c od rd nd nr hd hr fl tg br ct (c.length:Int))(hol:od.length<1000)(hrl:rd.length<1000)(hi:∀x∈c,0≤x.2.2.2.2∧x.2.2.2.2<4294967296)(hnx:u32P nx)(htk:u32P tk)(hd32:V32 d)(hr32:V32 r)(hpc9:0≤q.pc∧q.pc<4294967296)(hfl:0≤q.fl)(hok:stOk d r q.fl=true)(hcn:0≤q.cnt∧q.cnt<18446744073709551616):SCall Tryz.prog T15 5 #[(pgV (s5 0 c.length) nd nr hd hr (s1 1 od.length) (s1 2 rd.length) fl nx tg br tk ct (c.length:Int)),(stq q q.pc (sK 3 d.length ka) (sK 4 r.length kb) q.fl q.cnt)] (hq [(iiF c),(inF od),(inF rd),(uCo (d++dj) ro),(uCo (r++rj) ro)]) fun v h=>v=.bool true∧h=hq [(iiF c),(inF od),(inF rd),(uCo (d++dj) ro),(uCo (r++rj) ro)]:=by
 by_cases h:((nd≤(d.length:Int)∧(d.length:Int)+hd≤16)∧(nr≤(r.length:Int)∧(r.length:Int)+hr≤16)∧((d.length:Int)-nd+(od.length:Int)≤16)∧((r.length:Int)-nr+(rd.length:Int)≤16))
 ·exact codes_ok hR hol hrl hi hnx htk hd32 hr32 hpc9 hfl hok hcn h
 ·exact codes_no hR hol hrl hi hnx htk hd32 hr32 hpc9 hfl hok hcn h
noncomputable def f3b:Code:=Tryz.f3.body.getD .skip
set_option maxHeartbeats 4000000 in
theorem emitdoes_s{xa xb xd:List Int}{e3:Int}{pc en:Int}{xl xv:List Int}{q:Sx}{d r:List Int}(hx0:∀x∈xa,i64B x=true)(hx1:∀x∈xb,i64B x=true)(hx2:∀x∈xd,i64B x=true)(he3:i64B e3=true)(hl0:xa.length≤9223372036854775807)(hl1:xb.length≤9223372036854775807)(hl2:xd.length≤9223372036854775807)(hpc:0≤pc∧pc<4294967296)(hen:i64B en=true)(h1:∀x∈xl,i64B x=true)(h2:∀x∈xv,0≤x∧x<4294967296)(hxl:xl.length≤9223372036854775807)(hxv:xv.length≤9223372036854775807)(hd32:V32 d)(hr32:V32 r)(hdb:d.length*4≤140737488355328)(hrb:r.length*4≤140737488355328)(hfl:0≤q.fl∧q.fl<4294967296)(hcn:0≤q.cnt∧q.cnt<18446744073709551616)(hpc9:0≤q.pc∧q.pc<4294967296):SCall Tryz.prog T15 3 #[.agg #[(s1 0 xa.length),(s1 1 xb.length),(s1 2 xd.length),jI e3],jU pc,(s1 3 xl.length),(s1 4 xv.length),jI en,(stq q q.pc (s1 5 d.length) (s1 6 r.length) q.fl q.cnt)] (hq [(inCo xa true),(inCo xb true),(inCo xd true),(inCo xl true),(uCo xv true),(uCo d true),(uCo r true)]) fun v h=>v=.bool true∧h=hq [(inCo xa true),(inCo xb true),(inCo xd true),(inCo xl true),(uCo xv true),(uCo d true),(uCo r true)]:=by
 have hfl9:=tm16 hfl;have hcn9:=tm40 hcn;have htd:(d.take 16).length≤16:=by simp;omega
 have htr:(r.take 16).length≤16:=by simp;omega
 have hok9:stOk (d.take 16) (r.take 16) (Int.tmod q.fl 16)=true:=stOk_of (by simp;omega) (by simp;omega) hfl9.2;refine zS Tryz.f3 f3b 67 7 fun X hX=>(sd_run 10 (sdC 15 4 #[(stq q q.pc (s1 5 d.length) (s1 6 r.length) q.fl q.cnt)] (@trim_s q d [] r [] true hdb hrb) [some 5,some 6] ⟨bk_flat (tab uC d) kr (tab_plain uC_pl _) (congrArg (tab uC) (aX _).symm),bk_flat (tab uC r) kr (tab_plain uC_pl _) (congrArg (tab uC) (aX _).symm),⟨⟩⟩ ?_))
 rintro Y v9 k9 ⟨rfl,rfl⟩;refine mkG (stq q q.pc (s1 9 ((d.take 16).length)) (s1 10 ((r.take 16).length)) (Int.tmod q.fl 16) (Int.tmod q.cnt 1099511627776)) [(inCo xa true),(inCo xb true),(inCo xd true),(inCo xl true),(uCo xv true),(uCo d true),(uCo r true),oB 24 [(s1 0 xa.length),(s1 1 xb.length),(s1 2 xd.length),jI e3],oB 29 (slq q q.pc (s1 5 d.length) (s1 6 r.length) q.fl q.cnt),(uF (d.take 16++d.drop 16)),(uF (r.take 16++r.drop 16))] ⟨cvo,cvo,cvo,cvo,cvo,cvs 0 Y,cvs 1 Y,cvo,cvo,uC_c 2,uC_c 3,⟨⟩⟩ ?_;refine sd_run 12 ?_;have htl:(d.take 16).length=min 16 d.length:=aO
 by_cases h9:d.length<8
 ·refine sd_run 8 (sd_see 20 (.bool true) (see_bool (x:=(decide (((d.take 16).length:Int)<8))) kr (aQ zo)) (sd_run 6 (sd_drawP kr ?_)));refine svp_go 3 ?_;refine svp_line ?_;refine sv_first0N 24 26 26 25 0 3 12 ((d.take 16).length) 13 (s1 9 ((d.take 16).length)) (tab uC (d.take 16)) (tab uC (d.take 16)) kr kr kr kr kr (asrc_part (a:=d.take 16) (b_:=d.drop 16) (e:=25) (ro:=false) uC_len kr rfl) kr zo kr rfl kr kr ?_;refine sv_run 2 ?_;refine sv_rd 27 (s1 9 ((d.take 16).length)) 26 11 1 kr kr kr kr (veq_slice _ _ _) kr ?_;refine sv_run 4 ?_;refine sv_grow 32 26 26 25 0 3 13 ((d.take 16).length) 1 15 (sK 14 1 1) (tab uC (d.take 16)) [jU (IntKind.u32.wrap (pc*(IntKind.u32.wrap ((d.take 16).length:Int))))] (tab uC (d.take 16++[(IntKind.u32.wrap (pc*(IntKind.u32.wrap ((d.take 16).length:Int))))])) kr kr kr kr kr ((tab_len uC_len _).trans (by first|rfl|(simp only[ar,ay,aL,aP]at *;done))) kr kr (by decide) kr zo kr (tab_snoc (d.take 16) (IntKind.u32.wrap (pc*(IntKind.u32.wrap ((d.take 16).length:Int))))) kr ?_;refine sv_see 32 (s1 15 ((d.take 16++[(IntKind.u32.wrap (pc*(IntKind.u32.wrap ((d.take 16).length:Int))))]).length)) (see_len (n:=((d.take 16).length+1)) kr (by simp)) ?_;refine sv_run 2 ?_;refine sv_end kr ?_;refine sd_run 2 ?_
  refine sd_loop 67 (cl (cl (cl (cr (cr (cr f3b)))))) [.blk 0,.next (cr (cr (cr (cr f3b))))] kr kr kr (fun m9 s9=>∃(D:List Int) (jD:List Int),m9=8-D.length∧(D.length≤8)∧(V32 D)∧s9=⟨tmL [(1,jU pc),(2,(s1 3 xl.length)),(3,(s1 4 xv.length)),(4,jI en),(6,pT 7 0),(11,pT 8 0),(13,pT 11 0)],hq [(inCo xa true),(inCo xb true),(inCo xd true),(inCo xl true),(uCo xv true),(uCo d true),(uCo r true),oB 24 [(s1 0 xa.length),(s1 1 xb.length),(s1 2 xd.length),jI e3],oB 29 (slq q q.pc (s1 9 ((d.take 16).length)) (s1 10 ((r.take 16).length)) (Int.tmod q.fl 16) (Int.tmod q.cnt 1099511627776)),(uF (d.take 16++d.drop 16)),(uF (r.take 16++r.drop 16)),oB 29 (slq q q.pc (s1 15 D.length) (s1 10 ((r.take 16).length)) (Int.tmod q.fl 16) (Int.tmod q.cnt 1099511627776)),none,none,none,(uF (D++jD))]⟩) (8-(d.take 16++[(IntKind.u32.wrap (pc*(IntKind.u32.wrap ((d.take 16).length:Int))))]).length) _ (emOf (eM [1,2,3,4,5,6,7,8,9,10,11,12,0,0,0,16])) hX ⟨(d.take 16++[(IntKind.u32.wrap (pc*(IntKind.u32.wrap ((d.take 16).length:Int))))]),[],rfl,(by simp;omega),(V32.app (hd32.take 16) (.one (u32_wrap_in _))),rfl⟩ ⟨sub_of kr kr ⟨inC_b,inC_b,inC_b,inC_b,uC_b,uC_b,uC_b,brn,brn,uC_b,uC_b,brn,bk_flat (tab uC (d.take 16++[(IntKind.u32.wrap (pc*(IntKind.u32.wrap ((d.take 16).length:Int))))])) kr (tab_plain uC_pl _) (congrArg (tab uC) (aX _).symm),⟨⟩⟩,zt⟩ kr ?_;rintro m9 s9 ⟨D,jD,rfl,i1_0,i1_1,rfl⟩ R1_ hR1_
  by_cases h9:D.length<8
  ·refine zT 7 20 ((D.length:Int)<8) (sd_run 6 (sd_drawP kr ?_));refine svp_go 3 ?_;refine svp_line ?_;refine sv_first0N 24 26 26 25 0 3 16 D.length 17 (s1 15 D.length) (tab uC D) (tab uC D) kr kr kr kr kr (asrc_part (a:=D) (b_:=jD) (e:=25) (ro:=false) uC_len kr rfl) kr zo kr rfl kr kr ?_;refine sv_run 2 ?_;refine sv_rd 27 (s1 15 D.length) 26 11 1 kr kr kr kr (veq_slice _ _ _) kr ?_;refine sv_run 4 ?_;refine sv_grow 32 26 26 25 0 3 17 D.length 1 19 (sK 18 1 1) (tab uC D) [jU (IntKind.u32.wrap (pc*(IntKind.u32.wrap (D.length:Int))))] (tab uC (D++[(IntKind.u32.wrap (pc*(IntKind.u32.wrap (D.length:Int))))])) kr kr kr kr kr ((tab_len uC_len _).trans (by first|rfl|(simp only[ar,ay,aL,aP]at *;done))) kr kr (by decide) kr zo kr (tab_snoc D (IntKind.u32.wrap (pc*(IntKind.u32.wrap (D.length:Int))))) kr ?_;refine sv_see 32 (s1 19 ((D++[(IntKind.u32.wrap (pc*(IntKind.u32.wrap (D.length:Int))))]).length)) (see_len (n:=(D.length+1)) kr (by simp)) ?_;refine sv_run 2 ?_;refine sv_end kr ?_;refine sd_run 1 ?_;have hL9:(D++[(IntKind.u32.wrap (pc*(IntKind.u32.wrap (D.length:Int))))]).length=D.length+1:=by simp
   refine sd_inv R1_ kr (hR1_ _ (8-(D++[(IntKind.u32.wrap (pc*(IntKind.u32.wrap (D.length:Int))))]).length) _ (emOf (eM [1,2,3,4,5,6,7,8,9,10,11,12,0,0,0,20])) zo ⟨(D++[(IntKind.u32.wrap (pc*(IntKind.u32.wrap (D.length:Int))))]),[],rfl,zo,(V32.app i1_1 (.one (u32_wrap_in _))),rfl⟩ ⟨sub_of kr kr ⟨inC_b,inC_b,inC_b,inC_b,uC_b,uC_b,uC_b,brn,brn,uC_b,uC_b,brn,bk_flat (tab uC (D++[(IntKind.u32.wrap (pc*(IntKind.u32.wrap (D.length:Int))))])) kr (tab_plain uC_pl _) (congrArg (tab uC) (aX _).symm),⟨⟩⟩,zt⟩ kr)
  ·have hD32:=i1_1;refine zF 7 20 ((D.length:Int)<8) (sd_run 16 (sd_drawP kr ?_));refine svp_go 1 ?_;refine svp_line ?_;refine sv_call 37 6 #[.agg #[(s1 0 xa.length),(s1 1 xb.length),(s1 2 xd.length),jI e3]] (@sum_s xa xb xd e3 true hx0 hx1 hx2 he3 hl0 hl1 hl2) e3_ kr kr kr (hn_of 0 kr ⟨inC_b,inC_b,inC_b,⟨⟩⟩) (rnG_sound rn2_sound _ _ kr) ?_;rintro v9 k9 ⟨nd10_,fl10_,C0_,OD0_,q1_0,q1_1,q1_2,q1_3,rfl,rfl⟩
   refine⟨(pgV (s5 16 C0_.length) nd10_ 0 6 0 (s1 17 OD0_.length) nS fl10_ 0 (-1) 0 0 1 (C0_.length:Int)),hq [(inCo xa true),(inCo xb true),(inCo xd true),(inCo xl true),(uCo xv true),(uCo d true),(uCo r true),oB 24 [(s1 0 xa.length),(s1 1 xb.length),(s1 2 xd.length),jI e3],oB 29 (slq q q.pc (s1 9 ((d.take 16).length)) (s1 10 ((r.take 16).length)) (Int.tmod q.fl 16) (Int.tmod q.cnt 1099511627776)),(uF (d.take 16++d.drop 16)),(uF (r.take 16++r.drop 16)),oB 29 (slq q pc (s1 15 D.length) (s1 10 ((r.take 16).length)) (Int.tmod q.fl 16) (Int.tmod q.cnt 1099511627776)),none,none,none,(uF (D++jD)),(iiF C0_),(inF OD0_)],glue_of kr kr ⟨cov_same 0 (hn_of 0 kr ⟨inC_b,inC_b,inC_b,⟨⟩⟩) kr kr kr kr kr,cov_same 1 (hn_of 0 kr ⟨inC_b,inC_b,inC_b,⟨⟩⟩) kr kr kr kr kr,cov_same 2 (hn_of 0 kr ⟨inC_b,inC_b,inC_b,⟨⟩⟩) kr kr kr kr kr,cvo,cvo,cvo,cvo,cvo,cvo,cvo,cvo,cvo,cvo,iiC_c 3,inC_c 4,⟨⟩⟩,rn2_sound _ _ kr,(fun _=>⟨kr,keep_of (l1:=[(inCo xa true),(inCo xb true),(inCo xd true),(inCo xl true),(uCo xv true),(uCo d true),(uCo r true),oB 24 [(s1 0 xa.length),(s1 1 xb.length),(s1 2 xd.length),jI e3],oB 29 (slq q q.pc (s1 9 ((d.take 16).length)) (s1 10 ((r.take 16).length)) (Int.tmod q.fl 16) (Int.tmod q.cnt 1099511627776)),(uF (d.take 16++d.drop 16)),(uF (r.take 16++r.drop 16)),oB 29 (slq q pc (s1 15 D.length) (s1 10 ((r.take 16).length)) (Int.tmod q.fl 16) (Int.tmod q.cnt 1099511627776)),none,none,none,(uF (D++jD))]) kr kr⟩),?_⟩
   have hlen1:=q1_0.len;refine sv_rd 38 (stq q q.pc (s1 9 ((d.take 16).length)) (s1 10 ((r.take 16).length)) (Int.tmod q.fl 16) (Int.tmod q.cnt 1099511627776)) 29 8 0 kr kr kr kr (veqs_c (veq_int _ _) (veqs_c (veq_slice _ _ _) (veqs_c (veq_slice _ _ _) (veqs_c (veq_int _ _) (veqs_c (by simp[veq,veq0]) (veqs_c (by simp[veq,veq0]) (veqs_c (by simp[veq,veq0]) (veqs_c (veq_int _ _) (veqs_c (veq_int _ _) (veqs_c (veq_int _ _) (veqs_c (veq_int _ _) (veqs_c (veq_int _ _) (veqs_c (by simp[veq,veq0]) (veqs_c (by simp[veq,veq0]) (veqs_c (veq_int _ _) (veqs_c (by simp[veq,veq0]) rfl)))))))))))))))) kr ?_
   refine sv_callp 39 5 #[(pgV (s5 16 C0_.length) nd10_ 0 6 0 (s1 17 OD0_.length) nS fl10_ 0 (-1) 0 0 1 (C0_.length:Int)),(stq q q.pc (s1 9 ((d.take 16).length)) (s1 10 ((r.take 16).length)) (Int.tmod q.fl 16) (Int.tmod q.cnt 1099511627776))] (@codes_any C0_ OD0_ [] nd10_ (0:Int) 6 0 fl10_ 0 (-1) 0 0 1 (⟨q.pc,(Int.tmod q.fl 16),q.root,q.vec,q.epc,q.cause,q.addr,(Int.tmod q.cnt 1099511627776),q.su,q.pg,q.ie,q.es,q.ei,q.ha⟩:Sx) (d.take 16) (d.drop 16) (r.take 16) (r.drop 16) false (unk+1) (unk+1) q1_0 zo (by decide) q1_1 (by decide) (by decide) (hd32.take 16) (hr32.take 16) hpc9 hfl9.1 hok9 (show 0≤(Int.tmod q.cnt 1099511627776)∧(Int.tmod q.cnt 1099511627776)<18446744073709551616 from⟨hcn9.1,by omega⟩)) (eM [17,18,0,10,11]) kr kr kr (hn_of 0 kr ⟨iiC_b,inC_b,rfl,bk_flat (tab uC (d.take 16++d.drop 16)) kr (tab_plain uC_pl _) (by rfl),bk_flat (tab uC (r.take 16++r.drop 16)) kr (tab_plain uC_pl _) (by rfl),⟨⟩⟩) kr kr ?_;rintro v9 k9 ⟨rfl,rfl⟩;refine⟨rfl,.bool true,kr,?_⟩;refine sv_run 2 ?_;refine sv_call 42 6 #[.agg #[(s1 0 xa.length),(s1 1 xb.length),(s1 2 xd.length),jI e3]] (@sum_s xa xb xd e3 true hx0 hx1 hx2 he3 hl0 hl1 hl2) e3_ kr kr kr (hn_of 0 kr ⟨inC_b,inC_b,inC_b,⟨⟩⟩) (rnG_sound rn2_sound _ _ kr) ?_;rintro v9 k9 ⟨nd11_,fl11_,C1_,OD1_,q2_0,q2_1,q2_2,q2_3,rfl,rfl⟩
   refine⟨(pgV (s5 18 C1_.length) nd11_ 0 6 0 (s1 19 OD1_.length) nS fl11_ 0 (-1) 0 0 1 (C1_.length:Int)),hq [(inCo xa true),(inCo xb true),(inCo xd true),(inCo xl true),(uCo xv true),(uCo d true),(uCo r true),oB 24 [(s1 0 xa.length),(s1 1 xb.length),(s1 2 xd.length),jI e3],oB 29 (slq q q.pc (s1 9 ((d.take 16).length)) (s1 10 ((r.take 16).length)) (Int.tmod q.fl 16) (Int.tmod q.cnt 1099511627776)),(uF (d.take 16++d.drop 16)),(uF (r.take 16++r.drop 16)),oB 29 (slq q pc (s1 15 D.length) (s1 10 ((r.take 16).length)) (Int.tmod q.fl 16) (Int.tmod q.cnt 1099511627776)),none,none,none,(uF (D++jD)),(iiF C0_),(inF OD0_),(iiF C1_),(inF OD1_)],glue_of kr kr ⟨cov_same 0 (hn_of 0 kr ⟨inC_b,inC_b,inC_b,⟨⟩⟩) kr kr kr kr kr,cov_same 1 (hn_of 0 kr ⟨inC_b,inC_b,inC_b,⟨⟩⟩) kr kr kr kr kr,cov_same 2 (hn_of 0 kr ⟨inC_b,inC_b,inC_b,⟨⟩⟩) kr kr kr kr kr,cvo,cvo,cvo,cvo,cvo,cvo,cvo,cvo,cvo,cvo,cvo,cvo,iiC_c 3,inC_c 4,⟨⟩⟩,rn2_sound _ _ kr,(fun _=>⟨kr,keep_of (l1:=[(inCo xa true),(inCo xb true),(inCo xd true),(inCo xl true),(uCo xv true),(uCo d true),(uCo r true),oB 24 [(s1 0 xa.length),(s1 1 xb.length),(s1 2 xd.length),jI e3],oB 29 (slq q q.pc (s1 9 ((d.take 16).length)) (s1 10 ((r.take 16).length)) (Int.tmod q.fl 16) (Int.tmod q.cnt 1099511627776)),(uF (d.take 16++d.drop 16)),(uF (r.take 16++r.drop 16)),oB 29 (slq q pc (s1 15 D.length) (s1 10 ((r.take 16).length)) (Int.tmod q.fl 16) (Int.tmod q.cnt 1099511627776)),none,none,none,(uF (D++jD)),(iiF C0_),(inF OD0_)]) kr kr⟩),?_⟩
   have hlen2:=q2_0.len;refine sv_rd 43 (stq q pc (s1 15 D.length) (s1 10 ((r.take 16).length)) (Int.tmod q.fl 16) (Int.tmod q.cnt 1099511627776)) 29 11 0 kr kr kr kr (veqs_c (veq_int _ _) (veqs_c (veq_slice _ _ _) (veqs_c (veq_slice _ _ _) (veqs_c (veq_int _ _) (veqs_c (by simp[veq,veq0]) (veqs_c (by simp[veq,veq0]) (veqs_c (by simp[veq,veq0]) (veqs_c (veq_int _ _) (veqs_c (veq_int _ _) (veqs_c (veq_int _ _) (veqs_c (veq_int _ _) (veqs_c (veq_int _ _) (veqs_c (by simp[veq,veq0]) (veqs_c (by simp[veq,veq0]) (veqs_c (veq_int _ _) (veqs_c (by simp[veq,veq0]) rfl)))))))))))))))) kr ?_;refine sv_callp 44 5 #[(pgV (s5 18 C1_.length) nd11_ 0 6 0 (s1 19 OD1_.length) nS fl11_ 0 (-1) 0 0 1 (C1_.length:Int)),(stq q pc (s1 15 D.length) (s1 10 ((r.take 16).length)) (Int.tmod q.fl 16) (Int.tmod q.cnt 1099511627776))] (@codes_any C1_ OD1_ [] nd11_ (0:Int) 6 0 fl11_ 0 (-1) 0 0 1 (⟨pc,(Int.tmod q.fl 16),q.root,q.vec,q.epc,q.cause,q.addr,(Int.tmod q.cnt 1099511627776),q.su,q.pg,q.ie,q.es,q.ei,q.ha⟩:Sx) D jD (r.take 16) (r.drop 16) false (unk+1) (unk+1) q2_0 zo (by decide) q2_1 (by decide) (by decide) hD32 (hr32.take 16) hpc hfl9.1 (stOk_of zo htr hfl9.2) (show 0≤(Int.tmod q.cnt 1099511627776)∧(Int.tmod q.cnt 1099511627776)<18446744073709551616 from⟨hcn9.1,by omega⟩)) (eM [19,20,0,16,11]) kr kr kr (hn_of 0 kr ⟨iiC_b,inC_b,rfl,uC_b,bk_flat (tab uC (r.take 16++r.drop 16)) kr (tab_plain uC_pl _) (by rfl),⟨⟩⟩) kr kr ?_;rintro v9 k9 ⟨rfl,rfl⟩
   refine⟨rfl,.bool true,kr,?_⟩;refine sv_run 6 ?_;refine sv_call 51 7 #[jU pc,(s1 3 xl.length),(s1 4 xv.length),jI en] (@block_s pc en xl xv hpc hen h1 h2 hxl hxv) (emOf [some 3,some 4]) kr kr kr (hn_of 0 kr ⟨inC_b,uC_b,⟨⟩⟩) (rnG_sound rn2_sound _ _ kr) ?_;rintro v9 k9 ⟨nd2_,nr2_,hd2_,hr2_,f12_,nx2_,t12_,br2_,tk2_,ct2_,C2_,OD2_,RD2_,q3_0,q3_1,q3_2,q3_3,q3_4,q3_5,q3_6,rfl,rfl⟩
   refine⟨(pgV (s5 20 C2_.length) nd2_ nr2_ hd2_ hr2_ (s1 21 OD2_.length) (s1 22 RD2_.length) f12_ nx2_ t12_ br2_ tk2_ ct2_ (C2_.length:Int)),hq [(inCo xa true),(inCo xb true),(inCo xd true),(inCo xl true),(uCo xv true),(uCo d true),(uCo r true),oB 24 [(s1 0 xa.length),(s1 1 xb.length),(s1 2 xd.length),jI e3],oB 29 (slq q q.pc (s1 9 ((d.take 16).length)) (s1 10 ((r.take 16).length)) (Int.tmod q.fl 16) (Int.tmod q.cnt 1099511627776)),(uF (d.take 16++d.drop 16)),(uF (r.take 16++r.drop 16)),oB 29 (slq q pc (s1 15 D.length) (s1 10 ((r.take 16).length)) (Int.tmod q.fl 16) (Int.tmod q.cnt 1099511627776)),none,none,none,(uF (D++jD)),(iiF C0_),(inF OD0_),(iiF C1_),(inF OD1_),(iiF C2_),(inF OD2_),(inF RD2_)],glue_of kr kr ⟨cvo,cvo,cvo,cov_same 0 (hn_of 0 kr ⟨inC_b,uC_b,⟨⟩⟩) kr kr kr kr kr,cov_same 1 (hn_of 0 kr ⟨inC_b,uC_b,⟨⟩⟩) kr kr kr kr kr,cvo,cvo,cvo,cvo,cvo,cvo,cvo,cvo,cvo,cvo,cvo,cvo,iiC_c 2,inC_c 3,inC_c 4,⟨⟩⟩,rn2_sound _ _ kr,(fun _=>⟨kr,keep_of (l1:=[(inCo xa true),(inCo xb true),(inCo xd true),(inCo xl true),(uCo xv true),(uCo d true),(uCo r true),oB 24 [(s1 0 xa.length),(s1 1 xb.length),(s1 2 xd.length),jI e3],oB 29 (slq q q.pc (s1 9 ((d.take 16).length)) (s1 10 ((r.take 16).length)) (Int.tmod q.fl 16) (Int.tmod q.cnt 1099511627776)),(uF (d.take 16++d.drop 16)),(uF (r.take 16++r.drop 16)),oB 29 (slq q pc (s1 15 D.length) (s1 10 ((r.take 16).length)) (Int.tmod q.fl 16) (Int.tmod q.cnt 1099511627776)),none,none,none,(uF (D++jD)),(iiF C0_),(inF OD0_),(iiF C1_),(inF OD1_)]) kr kr⟩),?_⟩
   refine sv_rd 52 (stq q q.pc (s1 9 ((d.take 16).length)) (s1 10 ((r.take 16).length)) (Int.tmod q.fl 16) (Int.tmod q.cnt 1099511627776)) 29 8 0 kr kr kr kr (veqs_c (veq_int _ _) (veqs_c (veq_slice _ _ _) (veqs_c (veq_slice _ _ _) (veqs_c (veq_int _ _) (veqs_c (by simp[veq,veq0]) (veqs_c (by simp[veq,veq0]) (veqs_c (by simp[veq,veq0]) (veqs_c (veq_int _ _) (veqs_c (veq_int _ _) (veqs_c (veq_int _ _) (veqs_c (veq_int _ _) (veqs_c (veq_int _ _) (veqs_c (by simp[veq,veq0]) (veqs_c (by simp[veq,veq0]) (veqs_c (veq_int _ _) (veqs_c (by simp[veq,veq0]) rfl)))))))))))))))) kr ?_
   refine sv_callp 53 5 #[(pgV (s5 20 C2_.length) nd2_ nr2_ hd2_ hr2_ (s1 21 OD2_.length) (s1 22 RD2_.length) f12_ nx2_ t12_ br2_ tk2_ ct2_ (C2_.length:Int)),(stq q q.pc (s1 9 ((d.take 16).length)) (s1 10 ((r.take 16).length)) (Int.tmod q.fl 16) (Int.tmod q.cnt 1099511627776))] (@codes_any C2_ OD2_ RD2_ nd2_ nr2_ hd2_ hr2_ f12_ nx2_ t12_ br2_ tk2_ ct2_ (⟨q.pc,(Int.tmod q.fl 16),q.root,q.vec,q.epc,q.cause,q.addr,(Int.tmod q.cnt 1099511627776),q.su,q.pg,q.ie,q.es,q.ei,q.ha⟩:Sx) (d.take 16) (d.drop 16) (r.take 16) (r.drop 16) false (unk+1) (unk+1) q3_0 zo zo q3_1 q3_5 q3_6 (hd32.take 16) (hr32.take 16) hpc9 hfl9.1 hok9 (show 0≤(Int.tmod q.cnt 1099511627776)∧(Int.tmod q.cnt 1099511627776)<18446744073709551616 from⟨hcn9.1,by omega⟩)) (eM [21,22,23,10,11]) kr kr kr (hn_of 0 kr ⟨iiC_b,inC_b,inC_b,bk_flat (tab uC (d.take 16++d.drop 16)) kr (tab_plain uC_pl _) (by rfl),bk_flat (tab uC (r.take 16++r.drop 16)) kr (tab_plain uC_pl _) (by rfl),⟨⟩⟩) kr kr ?_;rintro v9 k9 ⟨rfl,rfl⟩;refine⟨rfl,.bool true,kr,?_⟩;refine sv_run 6 ?_;refine sv_call 60 7 #[jU pc,(s1 3 xl.length),(s1 4 xv.length),jI en] (@block_s pc en xl xv hpc hen h1 h2 hxl hxv) (emOf [some 3,some 4]) kr kr kr (hn_of 0 kr ⟨inC_b,uC_b,⟨⟩⟩) (rnG_sound rn2_sound _ _ kr) ?_;rintro v9 k9 ⟨nd3_,nr3_,hd3_,hr3_,f13_,nx3_,t13_,br3_,tk3_,ct3_,C3_,OD3_,RD3_,q4_0,q4_1,q4_2,q4_3,q4_4,q4_5,q4_6,rfl,rfl⟩
   refine⟨(pgV (s5 23 C3_.length) nd3_ nr3_ hd3_ hr3_ (s1 24 OD3_.length) (s1 25 RD3_.length) f13_ nx3_ t13_ br3_ tk3_ ct3_ (C3_.length:Int)),hq [(inCo xa true),(inCo xb true),(inCo xd true),(inCo xl true),(uCo xv true),(uCo d true),(uCo r true),oB 24 [(s1 0 xa.length),(s1 1 xb.length),(s1 2 xd.length),jI e3],oB 29 (slq q q.pc (s1 9 ((d.take 16).length)) (s1 10 ((r.take 16).length)) (Int.tmod q.fl 16) (Int.tmod q.cnt 1099511627776)),(uF (d.take 16++d.drop 16)),(uF (r.take 16++r.drop 16)),oB 29 (slq q pc (s1 15 D.length) (s1 10 ((r.take 16).length)) (Int.tmod q.fl 16) (Int.tmod q.cnt 1099511627776)),none,none,none,(uF (D++jD)),(iiF C0_),(inF OD0_),(iiF C1_),(inF OD1_),(iiF C2_),(inF OD2_),(inF RD2_),(iiF C3_),(inF OD3_),(inF RD3_)],glue_of kr kr ⟨cvo,cvo,cvo,cov_same 0 (hn_of 0 kr ⟨inC_b,uC_b,⟨⟩⟩) kr kr kr kr kr,cov_same 1 (hn_of 0 kr ⟨inC_b,uC_b,⟨⟩⟩) kr kr kr kr kr,cvo,cvo,cvo,cvo,cvo,cvo,cvo,cvo,cvo,cvo,cvo,cvo,cvo,cvo,cvo,iiC_c 2,inC_c 3,inC_c 4,⟨⟩⟩,rn2_sound _ _ kr,(fun _=>⟨kr,keep_of (l1:=[(inCo xa true),(inCo xb true),(inCo xd true),(inCo xl true),(uCo xv true),(uCo d true),(uCo r true),oB 24 [(s1 0 xa.length),(s1 1 xb.length),(s1 2 xd.length),jI e3],oB 29 (slq q q.pc (s1 9 ((d.take 16).length)) (s1 10 ((r.take 16).length)) (Int.tmod q.fl 16) (Int.tmod q.cnt 1099511627776)),(uF (d.take 16++d.drop 16)),(uF (r.take 16++r.drop 16)),oB 29 (slq q pc (s1 15 D.length) (s1 10 ((r.take 16).length)) (Int.tmod q.fl 16) (Int.tmod q.cnt 1099511627776)),none,none,none,(uF (D++jD)),(iiF C0_),(inF OD0_),(iiF C1_),(inF OD1_),(iiF C2_),(inF OD2_),(inF RD2_)]) kr kr⟩),?_⟩
   refine sv_rd 61 (stq q pc (s1 15 D.length) (s1 10 ((r.take 16).length)) (Int.tmod q.fl 16) (Int.tmod q.cnt 1099511627776)) 29 11 0 kr kr kr kr (veqs_c (veq_int _ _) (veqs_c (veq_slice _ _ _) (veqs_c (veq_slice _ _ _) (veqs_c (veq_int _ _) (veqs_c (by simp[veq,veq0]) (veqs_c (by simp[veq,veq0]) (veqs_c (by simp[veq,veq0]) (veqs_c (veq_int _ _) (veqs_c (veq_int _ _) (veqs_c (veq_int _ _) (veqs_c (veq_int _ _) (veqs_c (veq_int _ _) (veqs_c (by simp[veq,veq0]) (veqs_c (by simp[veq,veq0]) (veqs_c (veq_int _ _) (veqs_c (by simp[veq,veq0]) rfl)))))))))))))))) kr ?_;refine sv_callp 62 5 #[(pgV (s5 23 C3_.length) nd3_ nr3_ hd3_ hr3_ (s1 24 OD3_.length) (s1 25 RD3_.length) f13_ nx3_ t13_ br3_ tk3_ ct3_ (C3_.length:Int)),(stq q pc (s1 15 D.length) (s1 10 ((r.take 16).length)) (Int.tmod q.fl 16) (Int.tmod q.cnt 1099511627776))] (@codes_any C3_ OD3_ RD3_ nd3_ nr3_ hd3_ hr3_ f13_ nx3_ t13_ br3_ tk3_ ct3_ (⟨pc,(Int.tmod q.fl 16),q.root,q.vec,q.epc,q.cause,q.addr,(Int.tmod q.cnt 1099511627776),q.su,q.pg,q.ie,q.es,q.ei,q.ha⟩:Sx) D jD (r.take 16) (r.drop 16) false (unk+1) (unk+1) q4_0 zo zo q4_1 q4_5 q4_6 hD32 (hr32.take 16) hpc hfl9.1 (stOk_of zo htr hfl9.2) (show 0≤(Int.tmod q.cnt 1099511627776)∧(Int.tmod q.cnt 1099511627776)<18446744073709551616 from⟨hcn9.1,by omega⟩)) (eM [24,25,26,16,11]) kr kr kr (hn_of 0 kr ⟨iiC_b,inC_b,inC_b,uC_b,bk_flat (tab uC (r.take 16++r.drop 16)) kr (tab_plain uC_pl _) (by rfl),⟨⟩⟩) kr kr ?_
   rintro v9 k9 ⟨rfl,rfl⟩;refine⟨rfl,.bool true,kr,?_⟩;refine sv_run 2 ?_;refine sv_ask 65 (.bool true) 8 #[] kr kr kr rfl ?_;refine sv_run 2 ?_;refine sv_end kr ?_;refine sd_run 2 ?_;refine zY (.bool true) hX i7_ ⟨rfl,rfl⟩
 ·refine sd_run 8 (sd_see 20 (.bool false) (see_bool (x:=(decide (((d.take 16).length:Int)<8))) kr (aD zo)) (sd_run 16 (sd_drawP kr ?_)));refine svp_go 1 ?_;refine svp_line ?_;refine sv_call 37 6 #[.agg #[(s1 0 xa.length),(s1 1 xb.length),(s1 2 xd.length),jI e3]] (@sum_s xa xb xd e3 true hx0 hx1 hx2 he3 hl0 hl1 hl2) e3_ kr kr kr (hn_of 0 kr ⟨inC_b,inC_b,inC_b,⟨⟩⟩) (rnG_sound rn2_sound _ _ kr) ?_;rintro v9 k9 ⟨nd14_,fl14_,C4_,OD4_,q5_0,q5_1,q5_2,q5_3,rfl,rfl⟩
  refine⟨(pgV (s5 12 C4_.length) nd14_ 0 6 0 (s1 13 OD4_.length) nS fl14_ 0 (-1) 0 0 1 (C4_.length:Int)),hq [(inCo xa true),(inCo xb true),(inCo xd true),(inCo xl true),(uCo xv true),(uCo d true),(uCo r true),oB 24 [(s1 0 xa.length),(s1 1 xb.length),(s1 2 xd.length),jI e3],oB 29 (slq q q.pc (s1 9 ((d.take 16).length)) (s1 10 ((r.take 16).length)) (Int.tmod q.fl 16) (Int.tmod q.cnt 1099511627776)),(uF (d.take 16++d.drop 16)),(uF (r.take 16++r.drop 16)),oB 29 (slq q pc (s1 9 ((d.take 16).length)) (s1 10 ((r.take 16).length)) (Int.tmod q.fl 16) (Int.tmod q.cnt 1099511627776)),(iiF C4_),(inF OD4_)],glue_of kr kr ⟨cov_same 0 (hn_of 0 kr ⟨inC_b,inC_b,inC_b,⟨⟩⟩) kr kr kr kr kr,cov_same 1 (hn_of 0 kr ⟨inC_b,inC_b,inC_b,⟨⟩⟩) kr kr kr kr kr,cov_same 2 (hn_of 0 kr ⟨inC_b,inC_b,inC_b,⟨⟩⟩) kr kr kr kr kr,cvo,cvo,cvo,cvo,cvo,cvo,cvo,cvo,cvo,iiC_c 3,inC_c 4,⟨⟩⟩,rn2_sound _ _ kr,(fun _=>⟨kr,keep_of (l1:=[(inCo xa true),(inCo xb true),(inCo xd true),(inCo xl true),(uCo xv true),(uCo d true),(uCo r true),oB 24 [(s1 0 xa.length),(s1 1 xb.length),(s1 2 xd.length),jI e3],oB 29 (slq q q.pc (s1 9 ((d.take 16).length)) (s1 10 ((r.take 16).length)) (Int.tmod q.fl 16) (Int.tmod q.cnt 1099511627776)),(uF (d.take 16++d.drop 16)),(uF (r.take 16++r.drop 16)),oB 29 (slq q pc (s1 9 ((d.take 16).length)) (s1 10 ((r.take 16).length)) (Int.tmod q.fl 16) (Int.tmod q.cnt 1099511627776))]) kr kr⟩),?_⟩;have hlen5:=q5_0.len
  refine sv_rd 38 (stq q q.pc (s1 9 ((d.take 16).length)) (s1 10 ((r.take 16).length)) (Int.tmod q.fl 16) (Int.tmod q.cnt 1099511627776)) 29 8 0 kr kr kr kr (veqs_c (veq_int _ _) (veqs_c (veq_slice _ _ _) (veqs_c (veq_slice _ _ _) (veqs_c (veq_int _ _) (veqs_c (by simp[veq,veq0]) (veqs_c (by simp[veq,veq0]) (veqs_c (by simp[veq,veq0]) (veqs_c (veq_int _ _) (veqs_c (veq_int _ _) (veqs_c (veq_int _ _) (veqs_c (veq_int _ _) (veqs_c (veq_int _ _) (veqs_c (by simp[veq,veq0]) (veqs_c (by simp[veq,veq0]) (veqs_c (veq_int _ _) (veqs_c (by simp[veq,veq0]) rfl)))))))))))))))) kr ?_
  refine sv_callp 39 5 #[(pgV (s5 12 C4_.length) nd14_ 0 6 0 (s1 13 OD4_.length) nS fl14_ 0 (-1) 0 0 1 (C4_.length:Int)),(stq q q.pc (s1 9 ((d.take 16).length)) (s1 10 ((r.take 16).length)) (Int.tmod q.fl 16) (Int.tmod q.cnt 1099511627776))] (@codes_any C4_ OD4_ [] nd14_ (0:Int) 6 0 fl14_ 0 (-1) 0 0 1 (⟨q.pc,(Int.tmod q.fl 16),q.root,q.vec,q.epc,q.cause,q.addr,(Int.tmod q.cnt 1099511627776),q.su,q.pg,q.ie,q.es,q.ei,q.ha⟩:Sx) (d.take 16) (d.drop 16) (r.take 16) (r.drop 16) false (unk+1) (unk+1) q5_0 zo (by decide) q5_1 (by decide) (by decide) (hd32.take 16) (hr32.take 16) hpc9 hfl9.1 hok9 (show 0≤(Int.tmod q.cnt 1099511627776)∧(Int.tmod q.cnt 1099511627776)<18446744073709551616 from⟨hcn9.1,by omega⟩)) (eM [13,14,0,10,11]) kr kr kr (hn_of 0 kr ⟨iiC_b,inC_b,rfl,bk_flat (tab uC (d.take 16++d.drop 16)) kr (tab_plain uC_pl _) (by rfl),bk_flat (tab uC (r.take 16++r.drop 16)) kr (tab_plain uC_pl _) (by rfl),⟨⟩⟩) kr kr ?_;rintro v9 k9 ⟨rfl,rfl⟩;refine⟨rfl,.bool true,kr,?_⟩;refine sv_run 2 ?_;refine sv_call 42 6 #[.agg #[(s1 0 xa.length),(s1 1 xb.length),(s1 2 xd.length),jI e3]] (@sum_s xa xb xd e3 true hx0 hx1 hx2 he3 hl0 hl1 hl2) e3_ kr kr kr (hn_of 0 kr ⟨inC_b,inC_b,inC_b,⟨⟩⟩) (rnG_sound rn2_sound _ _ kr) ?_;rintro v9 k9 ⟨nd15_,fl15_,C5_,OD5_,q6_0,q6_1,q6_2,q6_3,rfl,rfl⟩
  refine⟨(pgV (s5 14 C5_.length) nd15_ 0 6 0 (s1 15 OD5_.length) nS fl15_ 0 (-1) 0 0 1 (C5_.length:Int)),hq [(inCo xa true),(inCo xb true),(inCo xd true),(inCo xl true),(uCo xv true),(uCo d true),(uCo r true),oB 24 [(s1 0 xa.length),(s1 1 xb.length),(s1 2 xd.length),jI e3],oB 29 (slq q q.pc (s1 9 ((d.take 16).length)) (s1 10 ((r.take 16).length)) (Int.tmod q.fl 16) (Int.tmod q.cnt 1099511627776)),(uF (d.take 16++d.drop 16)),(uF (r.take 16++r.drop 16)),oB 29 (slq q pc (s1 9 ((d.take 16).length)) (s1 10 ((r.take 16).length)) (Int.tmod q.fl 16) (Int.tmod q.cnt 1099511627776)),(iiF C4_),(inF OD4_),(iiF C5_),(inF OD5_)],glue_of kr kr ⟨cov_same 0 (hn_of 0 kr ⟨inC_b,inC_b,inC_b,⟨⟩⟩) kr kr kr kr kr,cov_same 1 (hn_of 0 kr ⟨inC_b,inC_b,inC_b,⟨⟩⟩) kr kr kr kr kr,cov_same 2 (hn_of 0 kr ⟨inC_b,inC_b,inC_b,⟨⟩⟩) kr kr kr kr kr,cvo,cvo,cvo,cvo,cvo,cvo,cvo,cvo,cvo,cvo,cvo,iiC_c 3,inC_c 4,⟨⟩⟩,rn2_sound _ _ kr,(fun _=>⟨kr,keep_of (l1:=[(inCo xa true),(inCo xb true),(inCo xd true),(inCo xl true),(uCo xv true),(uCo d true),(uCo r true),oB 24 [(s1 0 xa.length),(s1 1 xb.length),(s1 2 xd.length),jI e3],oB 29 (slq q q.pc (s1 9 ((d.take 16).length)) (s1 10 ((r.take 16).length)) (Int.tmod q.fl 16) (Int.tmod q.cnt 1099511627776)),(uF (d.take 16++d.drop 16)),(uF (r.take 16++r.drop 16)),oB 29 (slq q pc (s1 9 ((d.take 16).length)) (s1 10 ((r.take 16).length)) (Int.tmod q.fl 16) (Int.tmod q.cnt 1099511627776)),(iiF C4_),(inF OD4_)]) kr kr⟩),?_⟩
  have hlen6:=q6_0.len;refine sv_rd 43 (stq q pc (s1 9 ((d.take 16).length)) (s1 10 ((r.take 16).length)) (Int.tmod q.fl 16) (Int.tmod q.cnt 1099511627776)) 29 11 0 kr kr kr kr (veqs_c (veq_int _ _) (veqs_c (veq_slice _ _ _) (veqs_c (veq_slice _ _ _) (veqs_c (veq_int _ _) (veqs_c (by simp[veq,veq0]) (veqs_c (by simp[veq,veq0]) (veqs_c (by simp[veq,veq0]) (veqs_c (veq_int _ _) (veqs_c (veq_int _ _) (veqs_c (veq_int _ _) (veqs_c (veq_int _ _) (veqs_c (veq_int _ _) (veqs_c (by simp[veq,veq0]) (veqs_c (by simp[veq,veq0]) (veqs_c (veq_int _ _) (veqs_c (by simp[veq,veq0]) rfl)))))))))))))))) kr ?_
  refine sv_callp 44 5 #[(pgV (s5 14 C5_.length) nd15_ 0 6 0 (s1 15 OD5_.length) nS fl15_ 0 (-1) 0 0 1 (C5_.length:Int)),(stq q pc (s1 9 ((d.take 16).length)) (s1 10 ((r.take 16).length)) (Int.tmod q.fl 16) (Int.tmod q.cnt 1099511627776))] (@codes_any C5_ OD5_ [] nd15_ (0:Int) 6 0 fl15_ 0 (-1) 0 0 1 (⟨pc,(Int.tmod q.fl 16),q.root,q.vec,q.epc,q.cause,q.addr,(Int.tmod q.cnt 1099511627776),q.su,q.pg,q.ie,q.es,q.ei,q.ha⟩:Sx) (d.take 16) (d.drop 16) (r.take 16) (r.drop 16) false (unk+1) (unk+1) q6_0 zo (by decide) q6_1 (by decide) (by decide) (hd32.take 16) (hr32.take 16) hpc hfl9.1 hok9 (show 0≤(Int.tmod q.cnt 1099511627776)∧(Int.tmod q.cnt 1099511627776)<18446744073709551616 from⟨hcn9.1,by omega⟩)) (eM [15,16,0,10,11]) kr kr kr (hn_of 0 kr ⟨iiC_b,inC_b,rfl,bk_flat (tab uC (d.take 16++d.drop 16)) kr (tab_plain uC_pl _) (by rfl),bk_flat (tab uC (r.take 16++r.drop 16)) kr (tab_plain uC_pl _) (by rfl),⟨⟩⟩) kr kr ?_;rintro v9 k9 ⟨rfl,rfl⟩;refine⟨rfl,.bool true,kr,?_⟩;refine sv_run 6 ?_;refine sv_call 51 7 #[jU pc,(s1 3 xl.length),(s1 4 xv.length),jI en] (@block_s pc en xl xv hpc hen h1 h2 hxl hxv) (emOf [some 3,some 4]) kr kr kr (hn_of 0 kr ⟨inC_b,uC_b,⟨⟩⟩) (rnG_sound rn2_sound _ _ kr) ?_;rintro v9 k9 ⟨nd6_,nr6_,hd6_,hr6_,f16_,nx6_,t16_,br6_,tk6_,ct6_,C6_,OD6_,RD6_,q7_0,q7_1,q7_2,q7_3,q7_4,q7_5,q7_6,rfl,rfl⟩
  refine⟨(pgV (s5 16 C6_.length) nd6_ nr6_ hd6_ hr6_ (s1 17 OD6_.length) (s1 18 RD6_.length) f16_ nx6_ t16_ br6_ tk6_ ct6_ (C6_.length:Int)),hq [(inCo xa true),(inCo xb true),(inCo xd true),(inCo xl true),(uCo xv true),(uCo d true),(uCo r true),oB 24 [(s1 0 xa.length),(s1 1 xb.length),(s1 2 xd.length),jI e3],oB 29 (slq q q.pc (s1 9 ((d.take 16).length)) (s1 10 ((r.take 16).length)) (Int.tmod q.fl 16) (Int.tmod q.cnt 1099511627776)),(uF (d.take 16++d.drop 16)),(uF (r.take 16++r.drop 16)),oB 29 (slq q pc (s1 9 ((d.take 16).length)) (s1 10 ((r.take 16).length)) (Int.tmod q.fl 16) (Int.tmod q.cnt 1099511627776)),(iiF C4_),(inF OD4_),(iiF C5_),(inF OD5_),(iiF C6_),(inF OD6_),(inF RD6_)],glue_of kr kr ⟨cvo,cvo,cvo,cov_same 0 (hn_of 0 kr ⟨inC_b,uC_b,⟨⟩⟩) kr kr kr kr kr,cov_same 1 (hn_of 0 kr ⟨inC_b,uC_b,⟨⟩⟩) kr kr kr kr kr,cvo,cvo,cvo,cvo,cvo,cvo,cvo,cvo,cvo,cvo,cvo,iiC_c 2,inC_c 3,inC_c 4,⟨⟩⟩,rn2_sound _ _ kr,(fun _=>⟨kr,keep_of (l1:=[(inCo xa true),(inCo xb true),(inCo xd true),(inCo xl true),(uCo xv true),(uCo d true),(uCo r true),oB 24 [(s1 0 xa.length),(s1 1 xb.length),(s1 2 xd.length),jI e3],oB 29 (slq q q.pc (s1 9 ((d.take 16).length)) (s1 10 ((r.take 16).length)) (Int.tmod q.fl 16) (Int.tmod q.cnt 1099511627776)),(uF (d.take 16++d.drop 16)),(uF (r.take 16++r.drop 16)),oB 29 (slq q pc (s1 9 ((d.take 16).length)) (s1 10 ((r.take 16).length)) (Int.tmod q.fl 16) (Int.tmod q.cnt 1099511627776)),(iiF C4_),(inF OD4_),(iiF C5_),(inF OD5_)]) kr kr⟩),?_⟩
  refine sv_rd 52 (stq q q.pc (s1 9 ((d.take 16).length)) (s1 10 ((r.take 16).length)) (Int.tmod q.fl 16) (Int.tmod q.cnt 1099511627776)) 29 8 0 kr kr kr kr (veqs_c (veq_int _ _) (veqs_c (veq_slice _ _ _) (veqs_c (veq_slice _ _ _) (veqs_c (veq_int _ _) (veqs_c (by simp[veq,veq0]) (veqs_c (by simp[veq,veq0]) (veqs_c (by simp[veq,veq0]) (veqs_c (veq_int _ _) (veqs_c (veq_int _ _) (veqs_c (veq_int _ _) (veqs_c (veq_int _ _) (veqs_c (veq_int _ _) (veqs_c (by simp[veq,veq0]) (veqs_c (by simp[veq,veq0]) (veqs_c (veq_int _ _) (veqs_c (by simp[veq,veq0]) rfl)))))))))))))))) kr ?_
  refine sv_callp 53 5 #[(pgV (s5 16 C6_.length) nd6_ nr6_ hd6_ hr6_ (s1 17 OD6_.length) (s1 18 RD6_.length) f16_ nx6_ t16_ br6_ tk6_ ct6_ (C6_.length:Int)),(stq q q.pc (s1 9 ((d.take 16).length)) (s1 10 ((r.take 16).length)) (Int.tmod q.fl 16) (Int.tmod q.cnt 1099511627776))] (@codes_any C6_ OD6_ RD6_ nd6_ nr6_ hd6_ hr6_ f16_ nx6_ t16_ br6_ tk6_ ct6_ (⟨q.pc,(Int.tmod q.fl 16),q.root,q.vec,q.epc,q.cause,q.addr,(Int.tmod q.cnt 1099511627776),q.su,q.pg,q.ie,q.es,q.ei,q.ha⟩:Sx) (d.take 16) (d.drop 16) (r.take 16) (r.drop 16) false (unk+1) (unk+1) q7_0 zo zo q7_1 q7_5 q7_6 (hd32.take 16) (hr32.take 16) hpc9 hfl9.1 hok9 (show 0≤(Int.tmod q.cnt 1099511627776)∧(Int.tmod q.cnt 1099511627776)<18446744073709551616 from⟨hcn9.1,by omega⟩)) (eM [17,18,19,10,11]) kr kr kr (hn_of 0 kr ⟨iiC_b,inC_b,inC_b,bk_flat (tab uC (d.take 16++d.drop 16)) kr (tab_plain uC_pl _) (by rfl),bk_flat (tab uC (r.take 16++r.drop 16)) kr (tab_plain uC_pl _) (by rfl),⟨⟩⟩) kr kr ?_;rintro v9 k9 ⟨rfl,rfl⟩;refine⟨rfl,.bool true,kr,?_⟩;refine sv_run 6 ?_;refine sv_call 60 7 #[jU pc,(s1 3 xl.length),(s1 4 xv.length),jI en] (@block_s pc en xl xv hpc hen h1 h2 hxl hxv) (emOf [some 3,some 4]) kr kr kr (hn_of 0 kr ⟨inC_b,uC_b,⟨⟩⟩) (rnG_sound rn2_sound _ _ kr) ?_;rintro v9 k9 ⟨nd7_,nr7_,hd7_,hr7_,f17_,nx7_,t17_,br7_,tk7_,ct7_,C7_,OD7_,RD7_,q8_0,q8_1,q8_2,q8_3,q8_4,q8_5,q8_6,rfl,rfl⟩
  refine⟨(pgV (s5 19 C7_.length) nd7_ nr7_ hd7_ hr7_ (s1 20 OD7_.length) (s1 21 RD7_.length) f17_ nx7_ t17_ br7_ tk7_ ct7_ (C7_.length:Int)),hq [(inCo xa true),(inCo xb true),(inCo xd true),(inCo xl true),(uCo xv true),(uCo d true),(uCo r true),oB 24 [(s1 0 xa.length),(s1 1 xb.length),(s1 2 xd.length),jI e3],oB 29 (slq q q.pc (s1 9 ((d.take 16).length)) (s1 10 ((r.take 16).length)) (Int.tmod q.fl 16) (Int.tmod q.cnt 1099511627776)),(uF (d.take 16++d.drop 16)),(uF (r.take 16++r.drop 16)),oB 29 (slq q pc (s1 9 ((d.take 16).length)) (s1 10 ((r.take 16).length)) (Int.tmod q.fl 16) (Int.tmod q.cnt 1099511627776)),(iiF C4_),(inF OD4_),(iiF C5_),(inF OD5_),(iiF C6_),(inF OD6_),(inF RD6_),(iiF C7_),(inF OD7_),(inF RD7_)],glue_of kr kr ⟨cvo,cvo,cvo,cov_same 0 (hn_of 0 kr ⟨inC_b,uC_b,⟨⟩⟩) kr kr kr kr kr,cov_same 1 (hn_of 0 kr ⟨inC_b,uC_b,⟨⟩⟩) kr kr kr kr kr,cvo,cvo,cvo,cvo,cvo,cvo,cvo,cvo,cvo,cvo,cvo,cvo,cvo,cvo,iiC_c 2,inC_c 3,inC_c 4,⟨⟩⟩,rn2_sound _ _ kr,(fun _=>⟨kr,keep_of (l1:=[(inCo xa true),(inCo xb true),(inCo xd true),(inCo xl true),(uCo xv true),(uCo d true),(uCo r true),oB 24 [(s1 0 xa.length),(s1 1 xb.length),(s1 2 xd.length),jI e3],oB 29 (slq q q.pc (s1 9 ((d.take 16).length)) (s1 10 ((r.take 16).length)) (Int.tmod q.fl 16) (Int.tmod q.cnt 1099511627776)),(uF (d.take 16++d.drop 16)),(uF (r.take 16++r.drop 16)),oB 29 (slq q pc (s1 9 ((d.take 16).length)) (s1 10 ((r.take 16).length)) (Int.tmod q.fl 16) (Int.tmod q.cnt 1099511627776)),(iiF C4_),(inF OD4_),(iiF C5_),(inF OD5_),(iiF C6_),(inF OD6_),(inF RD6_)]) kr kr⟩),?_⟩
  refine sv_rd 61 (stq q pc (s1 9 ((d.take 16).length)) (s1 10 ((r.take 16).length)) (Int.tmod q.fl 16) (Int.tmod q.cnt 1099511627776)) 29 11 0 kr kr kr kr (veqs_c (veq_int _ _) (veqs_c (veq_slice _ _ _) (veqs_c (veq_slice _ _ _) (veqs_c (veq_int _ _) (veqs_c (by simp[veq,veq0]) (veqs_c (by simp[veq,veq0]) (veqs_c (by simp[veq,veq0]) (veqs_c (veq_int _ _) (veqs_c (veq_int _ _) (veqs_c (veq_int _ _) (veqs_c (veq_int _ _) (veqs_c (veq_int _ _) (veqs_c (by simp[veq,veq0]) (veqs_c (by simp[veq,veq0]) (veqs_c (veq_int _ _) (veqs_c (by simp[veq,veq0]) rfl)))))))))))))))) kr ?_
  refine sv_callp 62 5 #[(pgV (s5 19 C7_.length) nd7_ nr7_ hd7_ hr7_ (s1 20 OD7_.length) (s1 21 RD7_.length) f17_ nx7_ t17_ br7_ tk7_ ct7_ (C7_.length:Int)),(stq q pc (s1 9 ((d.take 16).length)) (s1 10 ((r.take 16).length)) (Int.tmod q.fl 16) (Int.tmod q.cnt 1099511627776))] (@codes_any C7_ OD7_ RD7_ nd7_ nr7_ hd7_ hr7_ f17_ nx7_ t17_ br7_ tk7_ ct7_ (⟨pc,(Int.tmod q.fl 16),q.root,q.vec,q.epc,q.cause,q.addr,(Int.tmod q.cnt 1099511627776),q.su,q.pg,q.ie,q.es,q.ei,q.ha⟩:Sx) (d.take 16) (d.drop 16) (r.take 16) (r.drop 16) false (unk+1) (unk+1) q8_0 zo zo q8_1 q8_5 q8_6 (hd32.take 16) (hr32.take 16) hpc hfl9.1 hok9 (show 0≤(Int.tmod q.cnt 1099511627776)∧(Int.tmod q.cnt 1099511627776)<18446744073709551616 from⟨hcn9.1,by omega⟩)) (eM [20,21,22,10,11]) kr kr kr (hn_of 0 kr ⟨iiC_b,inC_b,inC_b,bk_flat (tab uC (d.take 16++d.drop 16)) kr (tab_plain uC_pl _) (by rfl),bk_flat (tab uC (r.take 16++r.drop 16)) kr (tab_plain uC_pl _) (by rfl),⟨⟩⟩) kr kr ?_;rintro v9 k9 ⟨rfl,rfl⟩;refine⟨rfl,.bool true,kr,?_⟩;refine sv_run 2 ?_;refine sv_ask 65 (.bool true) 8 #[] kr kr kr rfl ?_;refine sv_run 2 ?_;refine sv_end kr ?_;refine sd_run 2 ?_;refine zY (.bool true) hX i7_ ⟨rfl,rfl⟩
end Ls
end Go.Proofs.YtihacfclecanjaaGreat
