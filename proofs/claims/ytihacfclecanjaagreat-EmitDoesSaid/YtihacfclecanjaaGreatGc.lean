/- Chapter 22: walks and laws. -/
import Derived.Test.YtihacfclecanjaaGreatGb
set_option linter.unusedVariables false
set_option linter.unusedSimpArgs false
namespace Go.Proofs.YtihacfclecanjaaGreat
open Go Go.Ev Go.RowKit
set_option maxRecDepth 100000
namespace Ls
def bnOf(c:Cf):Option (BinOp × TypeId × Value × Value):=match (opC c).op with
 |.binOp op t x y _=>(match aeval c.s.tm x,aeval c.s.tm y with|some u,some v=>some (op,t,u,v)|_,_=>none)
 |_=>none
theorem sd_bin{P:Program}{T:Tab}{X:Cx}{Q:Xt→St→Prop}{c:Cf}(t:Nat)(v:Value)(op:BinOp)(ty:TypeId)(u w:Value)(ho:okOp c t=true)(hs:strictC c=true)(hA:bnOf c=some (op,ty,u,w))(hb:abin T op ty u w=some v)(hk:SD P T X Q (c.put t v c.s.H)):SD P T X Q c:=by
 refine sd_val t v c.s.H ho hs ?_ hk;unfold bnOf at hA;split at hA
 ·rename_i op' ty' x y po hop;split at hA
  ·rename_i u' w' e1 e2;cases hA;unfold aop;simp only[hop,e1,e2,hb,orVal,val]
  ·cases hA
 ·cases hA
theorem ab_rem{T:Tab}{t:TypeId}{k:IntKind}{a b:Int}(h:(b == 0)=false):abin T .rem t (.int k a) (.int k b)=some (.int k (a.tmod b)):=by
 have hk:(k == k)=true:=by simp
 simp only[abin,isShift,hk,ai,af,ibin,h]
def mkAB(d r:List Int)(A B o im:Int):Int:=if o=0 then im else if o=1 then argD d im.toNat else if o=2 then argD r im.toNat else if o=3 then doR im A B else doF im A B
theorem mkV_AB(d r V:List Int)(x:II):mkV d r V x=mkAB d r (V.getD x.2.2.1.toNat 0) (V.getD x.2.2.2.1.toNat 0) x.1 x.2.2.2.2:=rfl
theorem made_ab9{nd nr k:Int}{x:II}(h:madeB nd nr x k=true):(x.2.2.1=0∧x.2.2.2.1=0)∨((0≤x.2.2.1∧x.2.2.1<k)∧(0≤x.2.2.2.1∧x.2.2.2.1<k)):=by
 obtain⟨o,dd,a,b,im⟩:=x;obtain⟨_,h⟩:=made_cases h;dsimp only;omega
theorem made_op9{nd nr k:Int}{x:II}{d r:List Int}(h:madeB nd nr x k=true)(hd:nd≤(d.length:Int))(hr:nr≤(r.length:Int)):x.1=0∨(x.1=1∧x.2.2.2.2<(d.length:Int))∨(x.1=2∧x.2.2.2.2<(r.length:Int))∨(x.1=3∨x.1=4):=by
 obtain⟨o,dd,a,b,im⟩:=x;obtain⟨_,h⟩:=made_cases h;dsimp only;omega
theorem tm_at(A k:Nat)(h:A≤k):Int.tmod (A:Int) ((k+1:Nat):Int)=(A:Int):=by
 rw[aU (by omega)];exact eL (by omega) (by omega)
theorem hB_hK{op f:Int}(h:hB op f=true):hK op=true:=by
 unfold hB at h;unfold hK;simp only[ap]
 by_cases h1:op=33
 ·omega
 rw[if_neg h1]at h
 by_cases h2:op=34
 ·omega
 rw[if_neg h2]at h
 by_cases h3:op=35
 ·omega
 rw[if_neg h3]at h
 by_cases h4:op=36
 ·omega
 rw[if_neg h4]at h
 by_cases h5:op=37
 ·omega
 rw[if_neg h5]at h;cases h
theorem putL_len{V l:List Int}{n:Nat}{out:List Int}(h:n≤l.length):(putL V l n out).length=l.length-n+out.length:=by unfold putL;rw[ar,aO,List.length_map];omega
theorem part0(V l:List Int)(n:Nat):l=putL V l n []++l.drop (l.length-n):=by unfold putL;simp
structure GP(V rg sl:List Int)(mh mk:List (Int × Int))(vm:Nat):Prop where
 v:V=rdV rg sl mh mk
 m:vm=V.length
 lr:rg.length=vm
 ls:sl.length=vm
theorem GP.of{rg sl:List Int}{mh mk:List (Int × Int)}{vm:Nat}(h:rg.length=vm)(k:sl.length=vm):GP (rdV rg sl mh mk) rg sl mh mk vm:=⟨rfl,by simp[h],h,k⟩
def evM(c:List II)(d r rg sl:List Int):Nat→List (Int × Int) × List (Int × Int)
 |0=>([],[])
 |k+1=>match c[k]? with
  |some x=>(stepH rg sl k (mkV d r (rdV rg sl (evM c d r rg sl k).1 (evM c d r rg sl k).2) x) (evM c d r rg sl k).1,stepK rg sl k (mkV d r (rdV rg sl (evM c d r rg sl k).1 (evM c d r rg sl k).2) x) (evM c d r rg sl k).2)
  |none=>evM c d r rg sl k
theorem evM_succ{c:List II}{d r rg sl:List Int}{k:Nat}{x:II}(h:c[k]? = some x):evM c d r rg sl (k+1)=(stepH rg sl k (mkV d r (rdV rg sl (evM c d r rg sl k).1 (evM c d r rg sl k).2) x) (evM c d r rg sl k).1,stepK rg sl k (mkV d r (rdV rg sl (evM c d r rg sl k).1 (evM c d r rg sl k).2) x) (evM c d r rg sl k).2):=by
 show(match c[k]? with|some x=>_|none=>_)=_;rw[h]
def evW(c:List II)(d r rg sl:List Int)(k:Nat):List Int:=rdV rg sl (evM c d r rg sl k).1 (evM c d r rg sl k).2
theorem evM_32{c:List II}{d r rg sl:List Int}(hd:V32 d)(hr:V32 r)(hi:∀x∈c,0≤x.2.2.2.2∧x.2.2.2.2<4294967296):∀k,M32 (evM c d r rg sl k).1∧M32 (evM c d r rg sl k).2
 |0=>⟨M32.nil,M32.nil⟩
 |k+1=>by
  obtain⟨h1,h2⟩:=evM_32 (rg:=rg) (sl:=sl) hd hr hi k;unfold evM;split
  ·rename_i x hx;have hv:=mkV_rng hd hr (rdV_32 (rg:=rg) (sl:=sl) h1 h2) (hi x (ah hx));refine⟨?_,?_⟩
   ·dsimp only;unfold stepH;split
    ·exact h1
    ·exact h1.upd hv
   ·dsimp only;unfold stepK;split
    ·exact h2.upd hv
    ·exact h2
  ·exact⟨h1,h2⟩
theorem evW_32{c:List II}{d r rg sl:List Int}(hd:V32 d)(hr:V32 r)(hi:∀x∈c,0≤x.2.2.2.2∧x.2.2.2.2<4294967296)(k:Nat):V32 (evW c d r rg sl k):=rdV_32 (evM_32 hd hr hi k).1 (evM_32 hd hr hi k).2
@[simp] theorem evW_len(c:List II)(d r rg sl:List Int)(k:Nat):(evW c d r rg sl k).length=rg.length:=by simp[evW]
theorem evi_all{c:List II}{od rd d r rg sl:List Int}{nd nr hd hr fl tg br ct:Int}(hR:RightP c od rd nd nr hd hr fl tg br ct (c.length:Int))(hp:PlanA (ofL c od rd fl tg) rg sl):
    ∀n:Nat,n≤c.length→EvI (ofL c od rd fl tg) (evV c d r n) rg sl n (evM c d r rg sl n).1 (evM c d r rg sl n).2:=by
 have hIv:=iv_of hR;have hl:=ivs_of hR;intro n
 induction n with
 |zero=>intro _ i a hi;omega
 |succ n ih =>
  intro hn;have h:=ih (by omega);have hx:c[n]? = some (c[n]'(by omega)):=ac _;generalize c[n]'(by omega)=x at hx;have hln:n<(ofL c od rd fl tg).length:=by rw[ofL_len];omega
  have hmd:=hR.code n x hx
  have key:mkV d r (rdV rg sl (evM c d r rg sl n).1 (evM c d r rg sl n).2) x=mkV d r (evV c d r n) x:=by
   have use9:∀A:Nat,A<n→(x.1=3∨x.1=4)→(x.2.2.1=(A:Int)∨x.2.2.2.1=(A:Int))→(rdV rg sl (evM c d r rg sl n).1 (evM c d r rg sl n).2).getD A 0=(evV c d r n).getD A 0:=fun A hA hop hab=>by
    rw[rdV_at (by rw[hp.lr];omega)];have ha:(ofL c od rd fl tg)[A]? = some ((ofL c od rd fl tg)[A]'(by omega)):=ac _;refine h A _ hA ha ?_;exact(hIv.at_ A _ ha).2.2.2.2.2 n (.inl ⟨n,x,by omega,hx,hop,hab,rfl⟩)
   by_cases hop:x.1=3∨x.1=4
   ·obtain⟨⟨a1,a2⟩,b1,b2⟩:=made_ab hmd hop;refine mkV_congr (fun _=>⟨?_,?_⟩) zo
    ·exact use9 _ (by omega) hop (.inl (by omega))
    ·exact use9 _ (by omega) hop (.inr (by omega))
   ·have:=made_op9 (d:=d) (r:=r) hmd;refine mkV_congr (fun h9=>absurd h9 hop) ?_;obtain⟨o,dd,a,b,im⟩:=x;obtain⟨_,h⟩:=made_cases hmd;dsimp only at *;omega
  have hs:=evi_step hl hp hln h (v:=mkV d r (evV c d r n) x) (V':=evV c d r (n+1)) (evV_succ hx) (by rw[evV_len];omega);rw[evM_succ hx,key];exact hs
theorem evW_at{c:List II}{od rd d r rg sl:List Int}{nd nr hd hr fl tg br ct:Int}(hR:RightP c od rd nd nr hd hr fl tg br ct (c.length:Int))(hp:PlanA (ofL c od rd fl tg) rg sl){x:Int}(h0:0≤x)(hx:x<(c.length:Int))(h:x∈od∨x∈rd∨x=fl∨x=tg):
    (evW c d r rg sl c.length).getD x.toNat 0=(evV c d r c.length).getD x.toNat 0:=by
 obtain⟨A,rfl⟩:=aa h0;have hA:A<(ofL c od rd fl tg).length:=by rw[ofL_len];omega
 have ha:(ofL c od rd fl tg)[A]? = some ((ofL c od rd fl tg)[A]'hA):=ac _;unfold evW;rw[show(A:Int).toNat=A by omega,rdV_at (by rw[hp.lr];exact hA)];exact evi_all hR hp c.length (ak _) A _ (by omega) ha ((iv_of hR).at_ A _ ha |>.2.2.2.2.2 _ (.inr ⟨h,rfl⟩))
theorem ew_put{c:List II}{od rd d r rg sl:List Int}{nd nr hd hr fl tg br ct:Int}(hR:RightP c od rd nd nr hd hr fl tg br ct (c.length:Int))(hp:PlanA (ofL c od rd fl tg) rg sl)(l:List Int)(n:Nat):putL (evW c d r rg sl c.length) l n od=putL (evV c d r c.length) l n od∧putL (evW c d r rg sl c.length) l n rd=putL (evV c d r c.length) l n rd :=
 ⟨putL_congr fun x hx=>by
  obtain⟨k,hk⟩:=aJ.1 hx;have:=valB_iff2.1 (hR.od_ k x hk);exact evW_at hR hp this.1 this.2 (.inl hx),putL_congr fun x hx=>by
  obtain⟨k,hk⟩:=aJ.1 hx;have:=valB_iff2.1 (hR.rd_ k x hk)
  exact evW_at hR hp this.1 this.2 (.inr (.inl hx))⟩
theorem ew_fl{c:List II}{od rd d r rg sl:List Int}{nd nr hd hr fl tg br ct:Int}(hR:RightP c od rd nd nr hd hr fl tg br ct (c.length:Int))(hp:PlanA (ofL c od rd fl tg) rg sl)(f0:Int):leftF (evW c d r rg sl c.length) fl f0=leftF (evV c d r c.length) fl f0:=by
 unfold leftF;split
 ·rfl
 ·rcases hR.fl_ with h|h
  ·contradiction
  ·have:=valB_iff2.1 h;rw[evW_at hR hp this.1 this.2 (.inr (.inr (.inl rfl)))]
theorem ew_pc{c:List II}{od rd d r rg sl:List Int}{nd nr hd hr fl tg br ct:Int}(hR:RightP c od rd nd nr hd hr fl tg br ct (c.length:Int))(hp:PlanA (ofL c od rd fl tg) rg sl)(nx tk F:Int):leftP (evW c d r rg sl c.length) nx tg br tk F=leftP (evV c d r c.length) nx tg br tk F:=by
 unfold leftP;split
 ·rfl
 ·split
  ·rfl
  ·rcases hR.tg_ with h|h
   ·contradiction
   ·have:=valB_iff2.1 h;rw[evW_at hR hp this.1 this.2 (.inr (.inr (.inr rfl)))]
structure FF(s s':MS)(r9 r10 r11 r12:Int):Prop where
 R:∀i,s'.R i=if i=9 then r9 else if i=10 then r10 else if i=11 then r11 else if i=12 then r12 else s.R i
 M:s'.M=s.M
theorem FF.start(s:MS):FF s s (s.R 9) (s.R 10) (s.R 11) (s.R 12):=⟨fun i=>by
 split
 ·rename_i h;rw[h]
 ·split
  ·rename_i h;rw[h]
  ·split
   ·rename_i h;rw[h]
   ·split
    ·rename_i h;rw[h]
    ·rfl,rfl⟩
section
variable {s s':MS}{r9 r10 r11 r12:Int}
theorem FF.at9(h:FF s s' r9 r10 r11 r12):s'.R 9=r9:=by rw[h.R];rfl
theorem FF.at10(h:FF s s' r9 r10 r11 r12):s'.R 10=r10:=by rw[h.R];rfl
theorem FF.at11(h:FF s s' r9 r10 r11 r12):s'.R 11=r11:=by rw[h.R];rfl
theorem FF.at12(h:FF s s' r9 r10 r11 r12):s'.R 12=r12:=by rw[h.R];rfl
theorem FF.at_(h:FF s s' r9 r10 r11 r12){i:Int}(hi:i<9∨12<i):s'.R i=s.R i:=by rw[h.R,if_neg (by omega),if_neg (by omega),if_neg (by omega),if_neg (by omega)]
theorem FF.op10(h:FF s s' r9 r10 r11 r12){op:Int}(ra rb:Int)(ho:2≤op∧op≤13){v:Int}(hv:hI op (s'.R ra) (s'.R rb)=v):FF s (ex1 (opI op 10 ra rb) s') r9 v r11 r12:=by
 rw[ex_op _ _ _ _ ho,hv];refine⟨fun i=>?_,h.M⟩;show up s'.R 10 v i=_;unfold up
 by_cases q:i=10
 ·rw[if_pos q,if_neg (by omega),if_pos q]
 ·rw[if_neg q,h.R,if_neg q,if_neg q]
theorem FF.op11(h:FF s s' r9 r10 r11 r12){op:Int}(ra rb:Int)(ho:2≤op∧op≤13){v:Int}(hv:hI op (s'.R ra) (s'.R rb)=v):FF s (ex1 (opI op 11 ra rb) s') r9 r10 v r12:=by
 rw[ex_op _ _ _ _ ho,hv];refine⟨fun i=>?_,h.M⟩;show up s'.R 11 v i=_;unfold up
 by_cases q:i=11
 ·rw[if_pos q,if_neg (by omega),if_neg (by omega),if_pos q]
 ·rw[if_neg q,h.R,if_neg q,if_neg q]
theorem FF.op12(h:FF s s' r9 r10 r11 r12){op:Int}(ra rb:Int)(ho:2≤op∧op≤13){v:Int}(hv:hI op (s'.R ra) (s'.R rb)=v):FF s (ex1 (opI op 12 ra rb) s') r9 r10 r11 v:=by
 rw[ex_op _ _ _ _ ho,hv];refine⟨fun i=>?_,h.M⟩;show up s'.R 12 v i=_;unfold up
 by_cases q:i=12
 ·rw[if_pos q,if_neg (by omega),if_neg (by omega),if_neg (by omega),if_pos q]
 ·rw[if_neg q,h.R,if_neg q,if_neg q]
theorem FF.li12(h:FF s s' r9 r10 r11 r12)(v:Int):FF s (ex1 (liI 12 v) s') r9 r10 r11 v:=by
 rw[ex_li];refine⟨fun i=>?_,h.M⟩;show up s'.R 12 v i=_;unfold up
 by_cases q:i=12
 ·rw[if_pos q,if_neg (by omega),if_neg (by omega),if_neg (by omega),if_pos q]
 ·rw[if_neg q,h.R,if_neg q,if_neg q]
theorem FF.sign9(h:FF s s' r9 r10 r11 r12):okL (signC 11 9) s'∧FF s (exL (signC 11 9) s') r9 r10 (hI 9 r9 31) 31:=by
 have h1:=h.li12 31;exact⟨⟨ok_li _ _ _,ok_op _ _ _ _ (by decide),trivial⟩,h1.op11 (op:=9) 9 12 (by decide) (by rw[h1.at9,h1.at12])⟩
theorem FF.sign11(h:FF s s' r9 r10 r11 r12):okL (signC 11 11) s'∧FF s (exL (signC 11 11) s') r9 r10 (hI 9 r11 31) 31:=by
 have h1:=h.li12 31;exact⟨⟨ok_li _ _ _,ok_op _ _ _ _ (by decide),trivial⟩,h1.op11 (op:=9) 11 12 (by decide) (by rw[h1.at11,h1.at12])⟩
theorem FF.bit(h:FF s s' r9 r10 r11 r12)(u:Int):okL (bitC 11 u) s'∧FF s (exL (bitC 11 u) s') r9 (bitI r10 r11 u) (hI 8 r11 u) u:=by
 have h1:=h.li12 u;have h2:=h1.op11 11 12 (by decide:(2:Int)≤8∧(8:Int)≤13) (v:=hI 8 r11 u) (by rw[h1.at11,h1.at12]);exact⟨⟨ok_li _ _ _,ok_op _ _ _ _ (by decide),ok_op _ _ _ _ (by decide),trivial⟩,h2.op10 (op:=6) 10 11 (by decide) (v:=bitI r10 r11 u) (by rw[h2.at10,h2.at11];rfl)⟩
theorem FF.ov(h:FF s s' r9 r10 r11 r12):okL ovC s'∧∃a b,FF s (exL ovC s') r9 (bitI r10 (hI 9 (hI 5 r11 r12) 31) 3) a b:=by
 have h1:=h.op11 11 12 (by decide:(2:Int)≤5∧(5:Int)≤13) (v:=hI 5 r11 r12) (by rw[h.at11,h.at12]);obtain⟨o2,h2⟩:=h1.sign11;obtain⟨o3,h3⟩:=h2.bit 3;refine⟨⟨ok_op _ _ _ _ (by decide),okL_app _ _ _ o2 o3⟩,hI 8 (hI 9 (hI 5 r11 r12) 31) 3,3,?_⟩;show FF s (exL (signC 11 11++bitC 11 3) (ex1 (opI 5 11 11 12) s')) _ _ _ _;rw[exL_app];exact h3
end
theorem hostO_in(op:Int):2≤hostO op∧hostO op≤13:=by unfold hostO;(repeat' split)<;>omega
theorem alu_ex{op rd a b:Int}(s:MS)(h:rd≠12):okL (aluC op rd a b) s∧(exL (aluC op rd a b) s).R rd=aluI op (s.R a) (s.R b)∧(∀i,i≠rd→i≠12→(exL (aluC op rd a b) s).R i=s.R i)∧(exL (aluC op rd a b) s).M=s.M:=by
 unfold aluC aluI;cases lowO op
 ·simp only[Bool.false_eq_true,if_false];refine⟨⟨ok_op _ _ _ _ (hostO_in op),ok_li _ _ _,ok_op _ _ _ _ (by decide),trivial⟩,?_,?_,?_⟩
  ·show(ex1 (opI 5 rd rd 12) (ex1 (liI 12 4294967295) (ex1 (opI (hostO op) rd a b) s))).R rd=_;rw[ex_op _ _ _ _ (by decide),ex_li,ex_op _ _ _ _ (hostO_in op)];simp[up,h]
  ·intro i h1 h2;show(ex1 (opI 5 rd rd 12) (ex1 (liI 12 4294967295) (ex1 (opI (hostO op) rd a b) s))).R i=_;rw[ex_op _ _ _ _ (by decide),ex_li,ex_op _ _ _ _ (hostO_in op)];simp[up,h1,h2]
  ·show(ex1 (opI 5 rd rd 12) (ex1 (liI 12 4294967295) (ex1 (opI (hostO op) rd a b) s))).M=_;rw[ex_op _ _ _ _ (by decide),ex_li,ex_op _ _ _ _ (hostO_in op)]
 ·simp only[if_true];refine⟨⟨ok_op _ _ _ _ (hostO_in op),trivial⟩,?_,?_,?_⟩
  ·show(ex1 (opI (hostO op) rd a b) s).R rd=_;rw[ex_op _ _ _ _ (hostO_in op)];exact up_at _ _ _
  ·intro i h1 _;show(ex1 (opI (hostO op) rd a b) s).R i=_;rw[ex_op _ _ _ _ (hostO_in op)];exact up_ne _ _ h1
  ·show(ex1 (opI (hostO op) rd a b) s).M=_;rw[ex_op _ _ _ _ (hostO_in op)]
theorem flag_ex{op a b:Int}(s:MS)(h0:s.R 15=0)(ha:a<9)(hb:b<9):okL (flagC op a b) s∧(exL (flagC op a b) s).R 10=flagI op (s.R a) (s.R b)∧(∀i,i<9∨12<i→(exL (flagC op a b) s).R i=s.R i)∧(exL (flagC op a b) s).M=s.M:=by
 obtain⟨o1,v1,k1,m1⟩:=alu_ex (op:=op) (rd:=9) (a:=a) (b:=b) s (by decide)
 have f1:FF s (exL (aluC op 9 a b) s) (aluI op (s.R a) (s.R b)) (s.R 10) (s.R 11) ((exL (aluC op 9 a b) s).R 12):=⟨fun i=>by
  by_cases q:i=9
  ·rw[if_pos q,q,v1]
  ·rw[if_neg q]
   by_cases q2:i=12
   ·rw[if_neg (by omega),if_neg (by omega),if_pos q2,q2]
   ·rw[k1 i q q2];split
    ·rename_i q3;rw[q3]
    ·split
     ·rename_i q3;rw[q3]
     ·rfl,m1⟩
 obtain⟨r,hr⟩:∃r,r=aluI op (s.R a) (s.R b):=⟨_,rfl⟩;rw[←hr]at f1;have f2:=f1.op10 9 15 (by decide:(2:Int)≤13∧(13:Int)≤13) (v:=hI 13 r 0) (by rw[f1.at9,f1.at_ (by omega),h0]);obtain⟨o3,f3⟩:=f2.sign9;obtain⟨o4,f4⟩:=f3.bit 1
 have key:∀(t:List II) (v:Int),okL t (exL (bitC 11 1) (exL (signC 11 9) (ex1 (opI 13 10 9 15) (exL (aluC op 9 a b) s))))→(∃x y,FF s (exL t (exL (bitC 11 1) (exL (signC 11 9) (ex1 (opI 13 10 9 15) (exL (aluC op 9 a b) s))))) r v x y) →
     okL (aluC op 9 a b++(opI 13 10 9 15::(signC 11 9++(bitC 11 1++t)))) s∧(exL (aluC op 9 a b++(opI 13 10 9 15::(signC 11 9++(bitC 11 1++t)))) s).R 10=v∧(∀i,i<9∨12<i→(exL (aluC op 9 a b++(opI 13 10 9 15::(signC 11 9++(bitC 11 1++t)))) s).R i=s.R i)∧(exL (aluC op 9 a b++(opI 13 10 9 15::(signC 11 9++(bitC 11 1++t)))) s).M=s.M:=by
  intro t v ot ⟨x,y,ft⟩
  have e:exL (aluC op 9 a b++(opI 13 10 9 15::(signC 11 9++(bitC 11 1++t)))) s=exL t (exL (bitC 11 1) (exL (signC 11 9) (ex1 (opI 13 10 9 15) (exL (aluC op 9 a b) s)))):=by
   rw[exL_app];show exL (signC 11 9++(bitC 11 1++t)) (ex1 (opI 13 10 9 15) (exL (aluC op 9 a b) s))=_;rw[exL_app,exL_app]
  rw[e];exact⟨okL_app _ _ _ o1 ⟨ok_op _ _ _ _ (by decide),okL_app _ _ _ o3 (okL_app _ _ _ o4 ot)⟩,ft.at10,fun i hi=>ft.at_ hi,ft.M⟩
 unfold flagC flagI;simp only[←hr]
 by_cases q:op=16
 ·rw[if_pos q,if_pos q];have f5:=f4.op11 9 a (by decide:(2:Int)≤12∧(12:Int)≤13) (v:=hI 12 r (s.R a)) (by rw[f4.at9,f4.at_ (by omega)]);obtain⟨o6,f6⟩:=f5.bit 2;have f7:=f6.op11 a 9 (by decide:(2:Int)≤7∧(7:Int)≤13) (v:=hI 7 (s.R a) r) (by rw[f6.at9,f6.at_ (by omega)]);have f8:=f7.op12 b 9 (by decide:(2:Int)≤7∧(7:Int)≤13) (v:=hI 7 (s.R b) r) (by rw[f7.at9,f7.at_ (by omega)]);obtain⟨o9,x,y,f9⟩:=f8.ov;refine key _ _ ⟨ok_op _ _ _ _ (by decide),okL_app _ _ _ o6 ⟨ok_op _ _ _ _ (by decide),ok_op _ _ _ _ (by decide),o9⟩⟩ ⟨x,y,?_⟩;show FF s (exL (bitC 11 2++(opI 7 11 a 9::opI 7 12 b 9::ovC)) (ex1 (opI 12 11 9 a) _)) _ _ _ _;rw[exL_app];exact f9
 ·rw[if_neg q,if_neg q]
  by_cases q2:op=17∨op=25
  ·rw[if_pos q2,if_pos q2];have f5:=f4.op11 a b (by decide:(2:Int)≤12∧(12:Int)≤13) (v:=hI 12 (s.R a) (s.R b)) (by rw[f4.at_ (by omega),f4.at_ (by omega)]);obtain⟨o6,f6⟩:=f5.bit 2;have f7:=f6.op11 a b (by decide:(2:Int)≤7∧(7:Int)≤13) (v:=hI 7 (s.R a) (s.R b)) (by rw[f6.at_ (by omega),f6.at_ (by omega)]);have f8:=f7.op12 a 9 (by decide:(2:Int)≤7∧(7:Int)≤13) (v:=hI 7 (s.R a) r) (by rw[f7.at9,f7.at_ (by omega)]);obtain⟨o9,x,y,f9⟩:=f8.ov;refine key _ _ ⟨ok_op _ _ _ _ (by decide),okL_app _ _ _ o6 ⟨ok_op _ _ _ _ (by decide),ok_op _ _ _ _ (by decide),o9⟩⟩ ⟨x,y,?_⟩;show FF s (exL (bitC 11 2++(opI 7 11 a b::opI 7 12 a 9::ovC)) (ex1 (opI 12 11 a b) _)) _ _ _ _;rw[exL_app];exact f9
  ·rw[if_neg q2,if_neg q2];exact key [] _ trivial ⟨_,_,f4⟩
def PlB(rg sl:List Int)(n:Nat):Prop:=∀i,i<n→(0≤rg.getD i 0∧rg.getD i 0<7)∨(rg.getD i 0 = -1∧0≤sl.getD i 0∧sl.getD i 0<64)
def plV(rg sl:List Int)(s:MS)(n:Int):Int:=if 0≤rg.getD n.toNat 0 then s.R (rg.getD n.toNat 0)else s.M (64+sl.getD n.toNat 0)
theorem gR_lt{rg sl:List Int}{n:Nat}{x:Int}{into:Int}(hp:PlB rg sl n)(h0:0≤x)(h1:x<(n:Int)):(gR rg x into<7∧0≤gR rg x into∧gR rg x into=rg.getD x.toNat 0)∨(gR rg x into=into∧rg.getD x.toNat 0 = -1):=by
 unfold gR;rcases hp x.toNat (by omega)with⟨a,b⟩|⟨a,b,c⟩
 ·rw[if_pos a];exact .inl ⟨b,a,rfl⟩
 ·rw[if_neg (by omega)];exact .inr ⟨rfl,a⟩
theorem get_ex{rg sl:List Int}{n:Nat}{x into:Int}(s:MS)(hp:PlB rg sl n)(h0:0≤x)(h1:x<(n:Int))(hz:s.R 15=0):okL (gC rg sl x into) s∧(exL (gC rg sl x into) s).R (gR rg x into)=plV rg sl s x∧(∀i,i≠into→(exL (gC rg sl x into) s).R i=s.R i)∧(exL (gC rg sl x into) s).M=s.M:=by
 unfold gC gR plV;rcases hp x.toNat (by omega)with⟨a,b⟩|⟨a,b,c⟩
 ·simp only[if_pos a];exact⟨trivial,rfl,fun _ _=>rfl,rfl⟩
 ·have hn:¬0≤rg.getD x.toNat 0:=by omega
  simp only[if_neg hn];refine⟨⟨ok_ld _ _ _ _ (by rw[hz];omega),trivial⟩,?_,fun i hi=>?_,rfl⟩
  ·show up s.R into (s.M (s.R 15+(64+sl.getD x.toNat 0))) into=_;rw[up_at,hz,ik]
  ·exact up_ne _ _ hi
theorem get2_ex{rg sl:List Int}{n:Nat}{x y:Int}(s:MS)(hp:PlB rg sl n)(hx:0≤x∧x<(n:Int))(hy:0≤y∧y<(n:Int))(hz:s.R 15=0):
    let t:=exL (gC rg sl y 8) (exL (gC rg sl x 7) s)
    okL (gC rg sl x 7) s∧okL (gC rg sl y 8) (exL (gC rg sl x 7) s)∧t.R (gR rg x 7)=plV rg sl s x∧t.R (gR rg y 8)=plV rg sl s y∧(∀i,i≠7→i≠8→t.R i=s.R i)∧t.M=s.M:=by
 intro t;obtain⟨a1,a2,a3,a4⟩:=get_ex (into:=7) s hp hx.1 hx.2 hz;obtain⟨b1,b2,b3,b4⟩:=get_ex (into:=8) (exL (gC rg sl x 7) s) hp hy.1 hy.2 (by rw[a3 15 (by decide)];exact hz)
 have e:plV rg sl (exL (gC rg sl x 7) s) y=plV rg sl s y:=by
  unfold plV;rcases hp y.toNat (by omega)with⟨a,b⟩|⟨a,b,c⟩
  ·rw[if_pos a,if_pos a,a3 _ (by omega)]
  ·rw[if_neg (by omega),if_neg (by omega),a4]
 refine⟨a1,b1,?_,b2.trans e,fun i h7 h8=>(b3 i h8).trans (a3 i h7),b4.trans a4⟩;rw[←a2];rcases gR_lt (into:=7) hp hx.1 hx.2 with⟨q,_,_⟩|⟨q,_⟩<;>exact b3 _ (by omega)
structure Hld(M0:Int→Int)(nd nr:Int)(d r:List Int)(s:MS):Prop where
 z:s.R 15=0
 bd:s.R 14=(d.length:Int)-nd
 br:s.R 13=(r.length:Int)-nr
 m:∀i,i<64→s.M i=M0 i
structure Lay(M0:Int→Int)(d r:List Int):Prop where
 ld:∀i:Nat,i<d.length→M0 (4+(i:Int))=d.getD i 0
 lr:∀i:Nat,i<r.length→M0 (20+(i:Int))=r.getD i 0
 dl:d.length≤16
 rl:r.length≤16
theorem val_ex{rg sl:List Int}{n:Nat}{M0:Int→Int}{d r:List Int}{nd nr k rd:Int}{x:II}(s:MS)(hp:PlB rg sl n)(hk:k≤(n:Int))(hm:madeB nd nr x k=true)(hi:0≤x.2.2.2.2∧x.2.2.2.2<4294967296)(hl:Lay M0 d r)(hh:Hld M0 nd nr d r s)(hnd:0≤nd∧nd≤(d.length:Int))(hnr:0≤nr∧nr≤(r.length:Int))(hrd:rd≠12)
    (hAB:x.1=3∨x.1=4→u32P (plV rg sl s x.2.2.1)∧u32P (plV rg sl s x.2.2.2.1)) :
    okL (valC rg sl nd nr rd x) s∧(exL (valC rg sl nd nr rd x) s).R rd=mkAB d r (plV rg sl s x.2.2.1) (plV rg sl s x.2.2.2.1) x.1 x.2.2.2.2∧(∀i,i≠rd→(i<7∨12<i)→(exL (valC rg sl nd nr rd x) s).R i=s.R i)∧(exL (valC rg sl nd nr rd x) s).M=s.M:=by
 obtain⟨o,dd,a,b,im⟩:=x;obtain⟨_,hc⟩:=made_cases hm;simp only at hi hAB ⊢;unfold valC mkAB;simp only
 have hargD:∀(l:List Int) (nn:Int) (base w:Int),0≤im→im<nn→nn≤(l.length:Int)→l.length≤16→(∀i:Nat,i<l.length→M0 (w+(i:Int))=l.getD i 0)→4≤w→w≤20→base=(l.length:Int)-nn→s.M (base+(w+nn-1-im))=argD l im.toNat∧(0≤base+(w+nn-1-im)∧base+(w+nn-1-im)<256):=by
  intro l nn base w h1 h2 h3 h4 h5 h6 h7 h8;subst h8;have e:(l.length:Int)-nn+(w+nn-1-im)=w+((l.length-1-im.toNat:Nat):Int):=by omega
  rw[e,hh.m _ (by omega),h5 _ (by omega)];exact⟨rfl,by omega⟩
 rcases hc with⟨rfl,ha,hb⟩|⟨rfl,ha,hb,hn⟩|⟨rfl,ha,hb,hn⟩|⟨rfl,ha,hb,h1,h2⟩|⟨rfl,ha,hb,h1,h2⟩|⟨rfl,ha,hb,h1⟩
 ·exact⟨⟨ok_li _ _ _,trivial⟩,up_at _ _ _,fun i h _=>up_ne _ _ h,rfl⟩
 ·obtain⟨e1,e2⟩:=hargD d nd (s.R 14) 4 hi.1 hn hnd.2 hl.dl hl.ld (by decide) (by decide) hh.bd;refine⟨⟨ok_ld _ _ _ _ e2,trivial⟩,?_,fun i h _=>up_ne _ _ h,rfl⟩;show up s.R rd (s.M (s.R 14+(4+nd-1-im))) rd=argD d im.toNat
  rw[up_at,e1]
 ·obtain⟨e1,e2⟩:=hargD r nr (s.R 13) 20 hi.1 hn hnr.2 hl.rl hl.lr (by decide) (by decide) hh.br;refine⟨⟨ok_ld _ _ _ _ e2,trivial⟩,?_,fun i h _=>up_ne _ _ h,rfl⟩;show up s.R rd (s.M (s.R 13+(20+nr-1-im))) rd=argD r im.toNat
  rw[up_at,e1]
 ·obtain⟨hA,hB⟩:=hAB (by simp);obtain⟨o1,o2,v1,v2,k1,m1⟩:=get2_ex (x:=a) (y:=b) s hp ⟨ha.1,by omega⟩ ⟨hb.1,by omega⟩ hh.z;obtain⟨o3,v3,k3,m3⟩:=alu_ex (op:=im) (rd:=rd) (a:=gR rg a 7) (b:=gR rg b 8) (exL (gC rg sl b 8) (exL (gC rg sl a 7) s)) hrd;simp only[show((3:Int)=0)=False by simp,show((3:Int)=1)=False by simp,show((3:Int)=2)=False by simp,if_false,if_true];rw[exL_app,exL_app];refine⟨okL_app _ _ _ o1 (okL_app _ _ _ o2 o3),?_,fun i h h'=>(k3 i h zo).trans (k1 i zo zo),m3.trans m1⟩;rw[v3,v1,v2,alu_do hA hB (.inl ⟨h1,h2⟩),if_neg (by omega)]
 all_goals
  obtain⟨hA,hB⟩:=hAB (by simp);obtain⟨o1,o2,v1,v2,k1,m1⟩:=get2_ex (x:=a) (y:=b) s hp ⟨ha.1,by omega⟩ ⟨hb.1,by omega⟩ hh.z;have g1:gR rg a 7<9:=by rcases gR_lt (into:=7) hp ha.1 (by omega:a<(n:Int))with⟨q,_⟩|⟨q,_⟩<;>omega
  have g2:gR rg b 8<9:=by rcases gR_lt (into:=8) hp hb.1 (by omega:b<(n:Int))with⟨q,_⟩|⟨q,_⟩<;>omega
  obtain⟨o3,v3,k3,m3⟩:=flag_ex (op:=im) (a:=gR rg a 7) (b:=gR rg b 8) (exL (gC rg sl b 8) (exL (gC rg sl a 7) s)) (by rw[k1 15 (by decide) (by decide)];exact hh.z) g1 g2;simp only[show((4:Int)=0)=False by simp,show((4:Int)=1)=False by simp,show((4:Int)=2)=False by simp,show((4:Int)=3)=False by simp,if_false];rw[exL_app,exL_app,exL_app];refine⟨okL_app _ _ _ o1 (okL_app _ _ _ o2 (okL_app _ _ _ o3 ⟨ok_op (op:=2) rd 10 0 _ (by decide),trivial⟩)),?_,fun i h h'=>?_,?_⟩
  ·show(ex1 (opI 2 rd 10 0) _).R rd=_;rw[ex_op _ _ _ _ (by decide)];show up _ rd _ rd=_;rw[up_at];show(exL (flagC im _ _) _).R 10=_;rw[v3,v1,v2];exact flag_do hA hB (by omega)
  ·show(ex1 (opI 2 rd 10 0) _).R i=_;rw[ex_op _ _ _ _ (by decide)];show up _ rd _ i=_;rw[up_ne _ _ h,k3 i (by omega),k1 i (by omega) (by omega)]
  ·show(ex1 (opI 2 rd 10 0) _).M=_;rw[ex_op _ _ _ _ (by decide)];exact m3.trans m1
theorem mkAB_low(d r:List Int){A B A' B' o im:Int}(h:o=0∨o=1∨o=2):mkAB d r A B o im=mkAB d r A' B' o im:=by
 unfold mkAB;rcases h with rfl|rfl|rfl<;>rfl
structure BInv(c:List II)(d r rg sl:List Int)(M0:Int→Int)(nd nr:Int)(k:Nat)(s:MS):Prop where
 h:Hld M0 nd nr d r s
 v:∀j:Nat,j<k→plV rg sl s (j:Int)=rdP rg sl (evM c d r rg sl k).1 (evM c d r rg sl k).2 j
theorem one_ex{c:List II}{d r rg sl:List Int}{M0:Int→Int}{nd nr:Int}{k:Nat}{x:II}{s:MS}(hb:BInv c d r rg sl M0 nd nr k s)(hx:c[k]? = some x)(hp:PlB rg sl c.length)(hlr:rg.length=c.length)(hm:madeB nd nr x (k:Int)=true)(hi:∀x∈c,0≤x.2.2.2.2∧x.2.2.2.2<4294967296)(hl:Lay M0 d r)(hd32:V32 d)(hr32:V32 r)(hnd:0≤nd∧nd≤(d.length:Int))(hnr:0≤nr∧nr≤(r.length:Int)):
    okL (oneC rg sl nd nr k x) s∧BInv c d r rg sl M0 nd nr (k+1) (exL (oneC rg sl nd nr k x) s):=by
 have hkc:k<c.length:=(ae.1 hx).1;obtain⟨hM1,hM2⟩:=evM_32 (rg:=rg) (sl:=sl) hd32 hr32 hi k;have h32:V32 (evW c d r rg sl k):=evW_32 hd32 hr32 hi k
 have hread:∀a:Int,0≤a→a<(k:Int)→plV rg sl s a=(evW c d r rg sl k).getD a.toNat 0:=fun a h0 h1=>by
  have:=hb.v a.toNat (by omega);rw[show(a.toNat:Int)=a by omega]at this;rw[this];exact(rdV_at (by omega)).symm
 have hops:x.1=3∨x.1=4→(0≤x.2.2.1∧x.2.2.1<(k:Int))∧(0≤x.2.2.2.1∧x.2.2.2.1<(k:Int)):=fun h=>by
  obtain⟨o,dd,a,b,im⟩:=x;have:=(made_cases hm).2;simp only at h ⊢;omega
 have hlow:¬(x.1=3∨x.1=4)→x.1=0∨x.1=1∨x.1=2:=fun h=>by
  obtain⟨o,dd,a,b,im⟩:=x;have:=(made_cases hm).2;simp only at h ⊢;omega
 have hval:mkAB d r (plV rg sl s x.2.2.1) (plV rg sl s x.2.2.2.1) x.1 x.2.2.2.2=mkV d r (evW c d r rg sl k) x:=by
  rw[mkV_AB]
  by_cases q:x.1=3∨x.1=4
  ·obtain⟨⟨a1,a2⟩,b1,b2⟩:=hops q;rw[hread _ a1 a2,hread _ b1 b2]
  ·exact mkAB_low d r (hlow q)
 have hv32:=mkV_rng hd32 hr32 h32 (hi x (ah hx));obtain⟨v,hv⟩:∃v,v=mkV d r (evW c d r rg sl k) x:=⟨_,rfl⟩;rw[←hv]at hval hv32;have hstep:=evM_succ (d:=d) (r:=r) (rg:=rg) (sl:=sl) hx;have hv2:mkV d r (rdV rg sl (evM c d r rg sl k).1 (evM c d r rg sl k).2) x=v:=hv.symm;rw[hv2]at hstep
 have vex:=fun(rd:Int) (h:rd≠12)=>val_ex (rd:=rd) s hp (show(k:Int)≤(c.length:Int) by omega) hm (hi x (ah hx)) hl hb.h hnd hnr h (fun q=>by
  obtain⟨⟨a1,a2⟩,b1,b2⟩:=hops q;rw[hread _ a1 a2,hread _ b1 b2]
  exact⟨h32.getD _,h32.getD _⟩)
 unfold oneC;rcases hp k hkc with⟨a,b⟩|⟨a,b,b2⟩
 ·have e1:gR rg (k:Int) 9=rg.getD k 0:=by unfold gR;rw[aH,if_pos a]
  have e2:kC rg sl (k:Int) (gR rg (k:Int) 9)=[]:=by unfold kC;rw[aH,if_neg (by omega)]
  rw[e2,aX,e1];obtain⟨o1,v1,k1,m1⟩:=vex (rg.getD k 0) (by omega);rw[hval]at v1;refine⟨o1,⟨(k1 15 zo zo).trans hb.h.z,(k1 14 zo zo).trans hb.h.bd,(k1 13 zo zo).trans hb.h.br,fun i hi=>by rw[m1];exact hb.h.m i hi⟩,fun j hj=>?_⟩;rw[hstep];unfold plV rdP stepH stepK;simp only[aH];rw[if_neg (show ¬rg.getD k 0 = -1 by omega),if_neg (show ¬rg.getD k 0 = -1 by omega)]
  by_cases hjk:j=k
  ·subst hjk;rw[if_pos a,if_neg (by omega),v1,look_same]
  ·have hold:=hb.v j (by omega);unfold plV rdP at hold;simp only[aH]at hold;rcases hp j (by omega)with⟨c1,c2⟩|⟨c1,c2,c3⟩
   ·rw[if_pos c1,if_neg (by omega)]at hold;rw[if_pos c1,if_neg (by omega)]
    by_cases hq:rg.getD j 0=rg.getD k 0
    ·rw[hq,v1,look_same]
    ·rw[k1 _ hq (by omega),hold,look_other _ _ hq]
   ·rw[if_neg (by omega),if_pos c1]at hold;rw[if_neg (by omega),if_pos c1,m1];exact hold
 ·have e1:gR rg (k:Int) 9=9:=by unfold gR;rw[aH,if_neg (by omega)]
  have e2:kC rg sl (k:Int) (gR rg (k:Int) 9)=[stI 15 (64+sl.getD k 0) 9]:=by rw[e1];unfold kC;rw[aH,if_pos (by omega)]
  rw[e2,e1];obtain⟨o1,v1,k1,m1⟩:=vex 9 (by decide);rw[hval]at v1;have z1:(exL (valC rg sl nd nr 9 x) s).R 15=0:=(k1 15 (by omega) (by omega)).trans hb.h.z;rw[exL_app]
  have ef:exL [stI 15 (64+sl.getD k 0) 9] (exL (valC rg sl nd nr 9 x) s)=⟨(exL (valC rg sl nd nr 9 x) s).R,up s.M (64+sl.getD k 0) v⟩:=by
   show ex1 (stI 15 (64+sl.getD k 0) 9) _=_;rw[ex_st,z1,v1,m1,ik,eL hv32.1 hv32.2]
  refine⟨okL_app _ _ _ o1 ⟨ok_st _ _ _ _ (by rw[z1];omega),trivial⟩,?_⟩;rw[ef];refine⟨⟨z1,(k1 14 zo zo).trans hb.h.bd,(k1 13 zo zo).trans hb.h.br,fun i hi=>?_⟩,fun j hj=>?_⟩
  ·show up s.M _ v i=_;rw[up_ne _ _ (by omega)];exact hb.h.m i hi
  ·rw[hstep];unfold plV rdP stepH stepK;simp only[aH];rw[if_pos a,if_pos a]
   by_cases hjk:j=k
   ·subst hjk;rw[if_neg (by omega),if_pos a,up_at,look_same]
   ·have hold:=hb.v j (by omega);unfold plV rdP at hold;simp only[aH]at hold;rcases hp j (by omega)with⟨c1,c2⟩|⟨c1,c2,c3⟩
    ·rw[if_pos c1,if_neg (by omega)]at hold;rw[if_pos c1,if_neg (by omega),k1 _ (by omega) (by omega)];exact hold
    ·rw[if_neg (by omega),if_pos c1]at hold;rw[if_neg (by omega),if_pos c1]
     by_cases hq:sl.getD j 0=sl.getD k 0
     ·rw[hq,up_at,look_same]
     ·rw[up_ne _ _ (by omega),look_other _ _ hq];exact hold
theorem body_ex{c:List II}{d r rg sl:List Int}{M0:Int→Int}{nd nr:Int}{s:MS}(h:Hld M0 nd nr d r s)(hp:PlB rg sl c.length)(hlr:rg.length=c.length)(hm:∀(k:Nat) (x:II),c[k]? = some x→madeB nd nr x (k:Int)=true)(hi:∀x∈c,0≤x.2.2.2.2∧x.2.2.2.2<4294967296)(hl:Lay M0 d r)(hd32:V32 d)(hr32:V32 r)(hnd:0≤nd∧nd≤(d.length:Int))(hnr:0≤nr∧nr≤(r.length:Int)):
    ∀k,k≤c.length→okL (bodyC rg sl nd nr c k) s∧BInv c d r rg sl M0 nd nr k (exL (bodyC rg sl nd nr c k) s)
 |0,_=>⟨trivial,h,fun j hj=>by omega⟩
 |k+1,hk=>by
  obtain⟨o1,b1⟩:=body_ex h hp hlr hm hi hl hd32 hr32 hnd hnr k (by omega);have hx:c[k]? = some (c[k]'(by omega)):=ac _;obtain⟨o2,b2⟩:=one_ex b1 hx hp hlr (hm k _ hx) hi hl hd32 hr32 hnd hnr
  have e:bodyC rg sl nd nr c (k+1)=bodyC rg sl nd nr c k++oneC rg sl nd nr k (c[k]'(by omega)):=by
   show(match c[k]? with|some x=>_|none=>_)=_;rw[hx]
  rw[e,exL_app];exact⟨okL_app _ _ _ o1 o2,b2⟩
theorem out_ex{rg sl:List Int}{n:Nat}{V:Int→Int}{bs frm B:Int}(hp:PlB rg sl n)(hbs:bs=13∨bs=14):∀(l:List Int) (k:Int) (s:MS),s.R 15=0→s.R bs=B→(∀x∈l,0≤x∧x<(n:Int)∧plV rg sl s x=V x∧u32P (V x))→0≤B+frm+k→B+frm+k+(l.length:Int)≤64 →
    okL (outC rg sl bs frm l k) s∧(∀i,i≠7→(exL (outC rg sl bs frm l k) s).R i=s.R i)∧(∀i:Nat,i<l.length→(exL (outC rg sl bs frm l k) s).M (B+frm+k+(i:Int))=V (l.getD i 0))∧(∀a,a<B+frm+k∨B+frm+k+(l.length:Int)≤a→(exL (outC rg sl bs frm l k) s).M a=s.M a)
 | [],k,s,_,_,_,_,_=>⟨trivial,fun _ _=>rfl,fun i h=>by simp at h,fun _ _=>rfl⟩
 |x::l,k,s,hz,hB,hv,h0,h1=>by
  obtain⟨x0,x1,x2,x3⟩:=hv x (eI ..);obtain⟨o1,v1,k1,m1⟩:=get_ex (into:=7) s hp x0 x1 hz;simp only[ay]at h1;have z1:=(k1 15 (by decide)).trans hz;have b1:(exL (gC rg sl x 7) s).R bs=B:=(k1 bs (by omega)).trans hB
  have e2:ex1 (stI bs (frm+k) (gR rg x 7)) (exL (gC rg sl x 7) s)=⟨(exL (gC rg sl x 7) s).R,up s.M (B+(frm+k)) (V x)⟩:=by
   rw[ex_st,b1,v1,x2,m1,eL x3.1 x3.2]
  have hpl:∀y,0≤y→y<(n:Int)→plV rg sl ⟨(exL (gC rg sl x 7) s).R,up s.M (B+(frm+k)) (V x)⟩ y=plV rg sl s y:=fun y y0 y1=>by
   unfold plV;rcases hp y.toNat (by omega)with⟨a,b⟩|⟨a,b,c⟩
   ·rw[if_pos a,if_pos a];exact k1 _ (by omega)
   ·rw[if_neg (by omega),if_neg (by omega)];exact up_ne _ _ (by omega)
  obtain⟨o3,k3,v3,m3⟩:=out_ex (frm:=frm) (B:=B) hp hbs l (k+1) ⟨(exL (gC rg sl x 7) s).R,up s.M (B+(frm+k)) (V x)⟩ z1 b1 (fun y hy=>by
   obtain⟨y0,y1,y2,y3⟩:=hv y (eu _ hy)
   exact⟨y0,y1,(hpl y y0 y1).trans y2,y3⟩) (by omega) (by omega)
  show okL (gC rg sl x 7++(stI bs (frm+k) (gR rg x 7)::outC rg sl bs frm l (k+1))) s∧_
  have e3:exL (outC rg sl bs frm (x::l) k) s=exL (outC rg sl bs frm l (k+1)) ⟨(exL (gC rg sl x 7) s).R,up s.M (B+(frm+k)) (V x)⟩:=by
   show exL (gC rg sl x 7++(stI bs (frm+k) (gR rg x 7)::outC rg sl bs frm l (k+1))) s=_;rw[exL_app];show exL (outC rg sl bs frm l (k+1)) (ex1 (stI bs (frm+k) (gR rg x 7)) _)=_;rw[e2]
  rw[e3];refine⟨okL_app _ _ _ o1 ⟨ok_st bs (frm+k) (gR rg x 7) _ (by rw[b1];omega),by rw[e2];exact o3⟩,fun i hi=>(k3 i hi).trans (k1 i hi),fun i hi=>?_,fun a ha=>?_⟩
  ·cases i with
   |zero =>
    rw[m3 (B+frm+k+((0:Nat):Int)) (by omega),show B+frm+k+((0:Nat):Int)=B+(frm+k) by simp;omega];simp only;rw[up_at];rfl
   |succ i =>
    have:=v3 i (by simpa using hi);rw[show B+frm+k+((i+1:Nat):Int)=B+frm+(k+1)+(i:Int) by omega,this];rfl
  ·simp only[ay]at ha;rw[m3 a (by omega)];exact up_ne _ _ (by omega)
theorem stack_ex{rg sl:List Int}{n:Nat}{V:Int→Int}{bs frm word B:Int}(hp:PlB rg sl n)(hbs:bs=13∨bs=14)(l:List Int)(s:MS)(hz:s.R 15=0)(hB:s.R bs=B)(hv:∀x∈l,0≤x∧x<(n:Int)∧plV rg sl s x=V x∧u32P (V x))(h0:0≤B)(hf:0≤frm)(h1:B+frm+(l.length:Int)≤64)(hw:0≤word∧word<4∧4≤frm):
    okL (stackC rg sl bs frm word l) s∧(∀i,i≠7→i≠11→(exL (stackC rg sl bs frm word l) s).R i=s.R i)∧(∀i:Nat,i<l.length→(exL (stackC rg sl bs frm word l) s).M (B+frm+(i:Int))=V (l.getD i 0))∧(exL (stackC rg sl bs frm word l) s).M word=(l.length:Int)+B ∧
    (∀a,a≠word→(a<B+frm∨B+frm+(l.length:Int)≤a)→(exL (stackC rg sl bs frm word l) s).M a=s.M a):=by
 obtain⟨o1,k1,v1,m1⟩:=out_ex (frm:=frm) (B:=B) hp hbs l 0 s hz hB hv (by omega) (by omega);unfold stackC;rw[exL_app];obtain⟨t,ht⟩:∃t,t=exL (outC rg sl bs frm l 0) s:=⟨_,rfl⟩;rw[←ht]at k1 v1 m1;have zt:=(k1 15 (by decide)).trans hz;have bt:=(k1 bs (by omega)).trans hB
 have e:exL [liI 11 (l.length:Int),opI 3 11 11 bs,stI 15 word 11] t=⟨up (up t.R 11 (l.length:Int)) 11 ((l.length:Int)+B),up t.M word ((l.length:Int)+B)⟩:=by
  show ex1 (stI 15 word 11) (ex1 (opI 3 11 11 bs) (ex1 (liI 11 (l.length:Int)) t))=_;rw[ex_li,ex_op _ _ _ _ (by decide),ex_st]
  have e1:hI 3 (up t.R 11 (l.length:Int) 11) (up t.R 11 (l.length:Int) bs)=(l.length:Int)+B:=by
   rw[up_at,up_ne _ _ (by omega),bt];show((l.length:Int)+B) % 18446744073709551616=_;omega
  simp only[e1];rw[up_ne _ _ (by decide),up_ne _ _ (by decide),zt,up_at,ik,show((l.length:Int)+B) % 4294967296=(l.length:Int)+B by omega]
 rw[←ht,e];refine⟨okL_app _ _ _ o1 ⟨ok_li _ _ _,ok_op _ _ _ _ (by decide),ok_st _ _ _ _ ?_,trivial⟩,fun i h7 h11=>?_,fun i hi=>?_,up_at _ _ _,fun a ha hb=>?_⟩
 ·rw[←ht,ex_op _ _ _ _ (by decide),ex_li];simp[up,zt];omega
 ·simp only[up,if_neg h11];exact k1 i h7
 ·simp only;rw[up_ne _ _ (by omega)];have:=v1 i hi;rw[show B+frm+0+(i:Int)=B+frm+(i:Int) by omega]at this;exact this
 ·simp only;rw[up_ne _ _ ha];exact m1 a (by omega)
section
variable {code:List II}{p:Nat}{s:MS}{base word need most cnt E:Int}
theorem stp_line{x:II}(hx:code[p]? = some x)(ho:ok1 x s):stp code s p=some (ex1 x s,p+1):=by
 obtain⟨h1,h2⟩:=ho;unfold stp;rw[hx];simp only;rw[if_pos h1]
 by_cases h:x.1=14∨x.1=15
 ·rw[if_pos h,if_pos (h2 h)]
 ·rw[if_neg h]
theorem stp_bnez{ra imm:Int}(hx:code[p]? = some (17,0,ra,0,imm)):stp code s p=if s.R ra=0 then some (s,p+1)else some (s,imm.toNat):=by
 unfold stp;rw[hx]
 by_cases h:s.R ra=0<;>simp[h]
theorem stp_beqz{ra imm:Int}(hx:code[p]? = some (16,0,ra,0,imm)):stp code s p=if s.R ra=0 then some (s,imm.toNat)else some (s,p+1):=by
 unfold stp;rw[hx]
 by_cases h:s.R ra=0<;>simp[h]
theorem Steps.one{t:MS}{j:Nat}(h:stp code s p=some (t,j)):Steps code 1 s p t j:=⟨t,j,h,rfl,rfl⟩
theorem room_ex(hc:∀i x,(roomC base word need most E)[i]? = some x→code[p+i]? = some x)(hz:s.R 15=0)(hm:s.M word=cnt)(hw:0≤word∧word<256)(hb:base=13∨base=14)(hn:0≤need∧need<100)(hq:0≤cnt∧cnt<100)(hmo:0≤most∧most<100):
    ((need≤cnt∧cnt≤most)→∃t,Steps code 8 s p t (p+8)∧t.R base=cnt-need∧(∀i,i≠base→i≠11→i≠12→t.R i=s.R i)∧t.M=s.M) ∧
    (¬(need≤cnt∧cnt≤most)→∃n t,n≤8∧Steps code n s p t E.toNat∧t.M=s.M):=by
 obtain⟨a1,ha1⟩:∃t,t=ex1 (opI 12 12 base 11) (ex1 (liI 11 need) (ex1 (ldI base 15 word) s)):=⟨_,rfl⟩;have e1:ex1 (ldI base 15 word) s=⟨up s.R base cnt,s.M⟩:=by rw[ex_ld,hz,ik,hm]
 have e3:a1=⟨up (up (up s.R base cnt) 11 need) 12 (if cnt<need then 1 else 0),s.M⟩:=by
  rw[ha1,e1,ex_li,ex_op _ _ _ _ (by decide)];simp only;rw[up_ne _ _ (show base≠11 by omega),up_at,up_at];rfl
 have s3:Steps code 3 s p a1 (p+3):=by
  rw[ha1];refine steps_line [ldI base 15 word,liI 11 need,opI 12 12 base 11] s p (fun i x h=>?_) ⟨ok_ld _ _ _ _ (by rw[hz];omega),ok_li _ _ _,ok_op _ _ _ _ (by decide),trivial⟩;refine hc i x ?_;rcases i with _|_|_|i
  ·exact h
  ·exact h
  ·exact h
  ·simp at h
 have b4:=stp_bnez (s:=a1) (hc 3 _ rfl);have r12:a1.R 12=if cnt<need then 1 else 0:=by rw[e3];simp only;rw[up_at]
 rw[r12]at b4
 by_cases q1:cnt<need
 ·rw[if_pos q1,if_neg (by decide)]at b4;exact⟨fun h=>by omega,fun _=>⟨3+1,a1,by omega,s3.app (Steps.one b4),by rw[e3]⟩⟩
 ·rw[if_neg q1,if_pos rfl]at b4;have s4:=s3.app (Steps.one b4);obtain⟨a2,ha2⟩:∃t,t=ex1 (opI 12 12 12 base) (ex1 (liI 12 most) a1):=⟨_,rfl⟩
  have e6:a2=⟨up (up (up (up (up s.R base cnt) 11 need) 12 (if cnt<need then 1 else 0)) 12 most) 12 (if most<cnt then 1 else 0),s.M⟩:=by
   rw[ha2,e3,ex_li,ex_op _ _ _ _ (by decide)];simp only;rw[up_at,up_ne _ _ (show base≠12 by omega),up_ne _ _ (show base≠12 by omega),up_ne _ _ (show base≠11 by omega),up_at];rfl
  have s6:Steps code 2 a1 (p+3+1) a2 (p+3+1+2):=by
   rw[ha2];refine steps_line [liI 12 most,opI 12 12 12 base] a1 (p+3+1) (fun i x h=>?_) ⟨ok_li _ _ _,ok_op _ _ _ _ (by decide),trivial⟩;rw[show p+3+1+i=p+(4+i) by omega];refine hc (4+i) x ?_;rcases i with _|_|i
   ·exact h
   ·exact h
   ·simp at h
  have b7:=stp_bnez (s:=a2) (show code[p+3+1+2]? = some (17,0,12,0,E)from hc 6 _ rfl);have r12':a2.R 12=if most<cnt then 1 else 0:=by rw[e6];simp only;rw[up_at]
  rw[r12']at b7
  by_cases q2:most<cnt
  ·rw[if_pos q2,if_neg (by decide)]at b7;exact⟨fun h=>by omega,fun _=>⟨3+1+2+1,a2,by omega,(s4.app s6).app (Steps.one b7),by rw[e6]⟩⟩
  ·rw[if_neg q2,if_pos rfl]at b7;refine⟨fun _=>⟨ex1 (opI 4 base base 11) a2,((s4.app s6).app (Steps.one b7)).app (m:=1) (Steps.one (stp_line (show code[p+3+1+2+1]? = _ from hc 7 _ rfl) (ok_op _ _ _ _ (by decide)))),?_,fun i h1 h2 h3=>?_,?_⟩,fun h=>by omega⟩
   ·rw[ex_op _ _ _ _ (by decide),e6];show up _ base _ base=_;rw[up_at];simp only;rw[up_ne _ _ (show base≠12 by omega),up_ne _ _ (show base≠12 by omega),up_ne _ _ (show base≠12 by omega),up_ne _ _ (show base≠11 by omega),up_at,up_ne _ _ (show(11:Int)≠12 by decide),up_ne _ _ (show(11:Int)≠12 by decide),up_ne _ _ (show(11:Int)≠12 by decide),up_at];show(cnt-need) % 18446744073709551616=_;omega
   ·rw[ex_op _ _ _ _ (by decide),e6];show up _ base _ i=_;rw[up_ne _ _ h1];simp only;rw[up_ne _ _ h3,up_ne _ _ h3,up_ne _ _ h3,up_ne _ _ h2,up_ne _ _ h1]
   ·rw[ex_op _ _ _ _ (by decide),e6]
end
theorem and15I{x:Int}(h:u32P x):hI 5 15 x=x % 16:=by
 obtain⟨n,rfl⟩:=aa h.1;show(((15:Int).toNat &&& (n:Int).toNat:Nat):Int)=_;rw[aH,Nat.and_comm,show(15:Int).toNat=2 ^ 4-1 by decide,iM];omega
theorem fl_ex{rg sl:List Int}{n:Nat}{V:List Int}{fl f0:Int}(s:MS)(hp:PlB rg sl n)(hz:s.R 15=0)(hfl:fl = -1∨(0≤fl∧fl<(n:Int)))(hv:0≤fl→plV rg sl s fl=V.getD fl.toNat 0∧u32P (V.getD fl.toNat 0))(hf:s.M 1=f0):
    okL (flC rg sl fl) s∧(∀i,i≠7→i≠11→(exL (flC rg sl fl) s).R i=s.R i)∧(exL (flC rg sl fl) s).M 1=leftF V fl f0∧(∀a,a≠1→(exL (flC rg sl fl) s).M a=s.M a):=by
 unfold flC leftF;rcases hfl with rfl|⟨h0,h1⟩
 ·rw[if_neg (by decide),if_pos rfl];exact⟨trivial,fun _ _ _=>rfl,hf,fun _ _=>rfl⟩
 ·obtain⟨v0,v1⟩:=hv h0;rw[if_pos h0,if_neg (by omega)];have hz1:(ex1 (liI 11 15) s).R 15=0:=by rw[ex_li];simp only;rw[up_ne _ _ (by decide)];exact hz
  obtain⟨o1,w1,k1,m1⟩:=get_ex (into:=7) (ex1 (liI 11 15) s) hp h0 h1 hz1
  have hpl:plV rg sl (ex1 (liI 11 15) s) fl=plV rg sl s fl:=by
   rw[ex_li];unfold plV;rcases hp fl.toNat (by omega)with⟨a,b⟩|⟨a,b,c⟩
   ·rw[if_pos a,if_pos a];simp only;rw[up_ne _ _ (by omega)]
   ·rw[if_neg (by omega),if_neg (by omega)]
  obtain⟨t,ht⟩:∃t,t=exL (gC rg sl fl 7) (ex1 (liI 11 15) s):=⟨_,rfl⟩;rw[←ht]at w1 k1 m1;have r11:t.R 11=15:=by rw[k1 11 (by decide),ex_li];simp only;rw[up_at]
  have r15:t.R 15=0:=(k1 15 (by decide)).trans hz1
  have ee:exL (liI 11 15::(gC rg sl fl 7++[opI 5 11 11 (gR rg fl 7),stI 15 1 11])) s=⟨up t.R 11 (V.getD fl.toNat 0 % 16),up t.M 1 (V.getD fl.toNat 0 % 16)⟩:=by
   show exL (gC rg sl fl 7++[opI 5 11 11 (gR rg fl 7),stI 15 1 11]) (ex1 (liI 11 15) s)=_;rw[exL_app,←ht];show ex1 (stI 15 1 11) (ex1 (opI 5 11 11 (gR rg fl 7)) t)=_;have hv0:hI 5 (t.R 11) (t.R (gR rg fl 7))=V.getD fl.toNat 0 % 16:=by rw[r11,w1,hpl,v0,and15I v1]
   rw[ex_op _ _ _ _ (by decide),hv0,ex_st];simp only;rw[up_ne _ _ (by decide),r15,up_at,ik,show V.getD fl.toNat 0 % 16 % 4294967296=V.getD fl.toNat 0 % 16 by omega]
  rw[ee];refine⟨⟨ok_li _ _ _,okL_app _ _ _ o1 ⟨ok_op _ _ _ _ (by decide),ok_st _ _ _ _ ?_,trivial⟩⟩,fun i h7 h11=>?_,?_,fun a ha=>?_⟩
  ·rw[←ht,ex_op _ _ _ _ (by decide)];simp[up,r15]
  ·simp only;rw[up_ne _ _ h11,k1 i h7,ex_li];simp only;rw[up_ne _ _ h11]
  ·simp only;rw[up_at]
  ·simp only;rw[up_ne _ _ ha,m1,ex_li]
theorem and_bit{F:Int}(h:0≤F∧F≤15){b:Int}(hb:b=1∨b=2∨b=4∨b=8):hI 5 F b=bits .and .u32 F b:=(bits_u32 ⟨h.1,by omega⟩ ⟨by omega,by omega⟩).1
theorem br_ex{code:List II}{p:Nat}{s:MS}{br tk F nx:Int}(hc:∀i x,(brC br tk ((p:Int)+3))[i]? = some x→code[p+i]? = some x)(hz:s.R 15=0)(hf:s.M 1=F)(hF:0≤F∧F≤15)(hbr:br=0∨(33≤br∧br≤37))(h9:s.R 9=nx):
    ∃n t,n≤5∧Steps code n s p t (p+(brC br tk ((p:Int)+3)).length)∧t.R 9=(if hK br=true∧hB br F=true then tk else nx)∧(∀i,i≠9→i≠11→i≠12→t.R i=s.R i)∧t.M=s.M:=by
 rcases hbr with rfl|hbr
 ·refine⟨0,s,by omega,⟨rfl,rfl⟩,?_,fun _ _ _ _=>rfl,rfl⟩;rw[h9,if_neg];intro h;exact absurd h.1 (by decide)
 ·have hlen:brC br tk ((p:Int)+3)=[ldI 11 15 1,liI 12 (bitO br),opI 5 11 11 12,(if br=34 then 17 else 16,0,11,0,((p:Int)+3)+2),liI 9 tk]:=by unfold brC;rw[if_neg (by omega)]
  rw[hlen]at hc ⊢;obtain⟨a,ha⟩:∃t,t=ex1 (opI 5 11 11 12) (ex1 (liI 12 (bitO br)) (ex1 (ldI 11 15 1) s)):=⟨_,rfl⟩
  have ea:a=⟨up (up (up s.R 11 F) 12 (bitO br)) 11 (hI 5 F (bitO br)),s.M⟩:=by
   rw[ha,ex_ld,hz,ik,hf,ex_li,ex_op _ _ _ _ (by decide)];simp only;rw[up_ne _ _ (by decide),up_at,up_at]
  have s3:Steps code 3 s p a (p+3):=by
   rw[ha];refine steps_line [ldI 11 15 1,liI 12 (bitO br),opI 5 11 11 12] s p (fun i x h=>?_) ⟨ok_ld _ _ _ _ (by rw[hz];omega),ok_li _ _ _,ok_op _ _ _ _ (by decide),trivial⟩;refine hc i x ?_;rcases i with _|_|_|i
   ·exact h
   ·exact h
   ·exact h
   ·simp at h
  have hbit:bitO br=1∨bitO br=2∨bitO br=4∨bitO br=8:=by unfold bitO;(repeat' split)<;>omega
  have r11:a.R 11=bits .and .u32 F (bitO br):=by rw[ea];simp only;rw[up_at];exact and_bit hF hbit
  have r9:a.R 9=nx:=by rw[ea];simp only;rw[up_ne _ _ (by decide),up_ne _ _ (by decide),up_ne _ _ (by decide)];exact h9
  have hk:hK br=true:=by unfold hK;simp;omega
  have rk:∀i,i≠9→i≠11→i≠12→a.R i=s.R i:=fun i h1 h2 h3=>by rw[ea];simp only;rw[up_ne _ _ h2,up_ne _ _ h3,up_ne _ _ h2]
  have rm:a.M=s.M:=by rw[ea]
  have skip:stp code a (p+3)=some (a,p+5)→hB br F=false→∃n t,n≤5∧Steps code n s p t (p+5)∧t.R 9=(if hK br=true∧hB br F=true then tk else nx)∧(∀i,i≠9→i≠11→i≠12→t.R i=s.R i)∧t.M=s.M:=fun h hb =>
   ⟨3+1,a,by omega,s3.app (Steps.one h),by rw[r9,if_neg (by rw[hb];simp)],rk,rm⟩
  have go:stp code a (p+3)=some (a,p+3+1)→hB br F=true→∃n t,n≤5∧Steps code n s p t (p+5)∧t.R 9=(if hK br=true∧hB br F=true then tk else nx)∧(∀i,i≠9→i≠11→i≠12→t.R i=s.R i)∧t.M=s.M:=fun h hb =>
   ⟨3+1+1,ex1 (liI 9 tk) a,by omega,(s3.app (Steps.one h)).app (Steps.one (stp_line (show code[p+3+1]? = _ from hc 4 _ rfl) (ok_li _ _ _))),by rw[ex_li,if_pos ⟨hk,hb⟩];simp only;rw[up_at],fun i h1 h2 h3=>by rw[ex_li];simp only;rw[up_ne _ _ h1];exact rk i h1 h2 h3,by rw[ex_li];exact rm⟩
  have ej:((p:Int)+3+2).toNat=p+5:=by omega
  by_cases h34:br=34
  ·subst h34;have hx:code[p+3]? = some (17,0,11,0,(p:Int)+3+2):=hc 3 _ rfl;have b4:=stp_bnez (s:=a) hx;rw[r11,show bitO 34=1 from rfl,ej]at b4
   by_cases q:bits .and .u32 F 1=0
   ·rw[if_pos q]at b4;exact go b4 (by unfold hB;simp[q])
   ·rw[if_neg q]at b4;exact skip b4 (by unfold hB;simp[q])
  ·have hx:code[p+3]? = some (16,0,11,0,(p:Int)+3+2):=hc 3 _ (by simp[h34]);have b4:=stp_beqz (s:=a) hx;rw[r11,ej]at b4
   have hbb:hB br F=(bits .and .u32 F (bitO br) != 0):=by
    rcases(by omega:br=33∨br=35∨br=36∨br=37)with rfl|rfl|rfl|rfl<;>rfl
   by_cases q:bits .and .u32 F (bitO br)=0
   ·rw[if_pos q]at b4;exact skip b4 (by rw[hbb];simp[q])
   ·rw[if_neg q]at b4;exact go b4 (by rw[hbb];simp[q])
theorem tg_ex{rg sl:List Int}{n:Nat}{V:List Int}{tg w:Int}(s:MS)(hp:PlB rg sl n)(hz:s.R 15=0)(htg:tg = -1∨(0≤tg∧tg<(n:Int)))(hv:0≤tg→plV rg sl s tg=V.getD tg.toNat 0)(h9:s.R 9=w):
    okL (tgC rg sl tg) s∧(exL (tgC rg sl tg) s).R 9=(if tg = -1 then w else V.getD tg.toNat 0)∧(∀i,i≠7→i≠9→(exL (tgC rg sl tg) s).R i=s.R i)∧(exL (tgC rg sl tg) s).M=s.M:=by
 unfold tgC;rcases htg with rfl|⟨h0,h1⟩
 ·rw[if_neg (by decide),if_pos rfl];exact⟨trivial,h9,fun _ _ _=>rfl,rfl⟩
 ·rw[if_pos h0,if_neg (by omega)];obtain⟨o1,w1,k1,m1⟩:=get_ex (into:=7) s hp h0 h1 hz;rw[exL_app];refine⟨okL_app _ _ _ o1 ⟨ok_op (op:=2) 9 _ 0 _ (by decide),trivial⟩,?_,fun i h7 h9=>?_,?_⟩
  ·show(ex1 (opI 2 9 (gR rg tg 7) 0) _).R 9=_;rw[ex_op _ _ _ _ (by decide)];simp only;rw[up_at];show(exL (gC rg sl tg 7) s).R (gR rg tg 7)=_;rw[w1,hv h0]
  ·show(ex1 (opI 2 9 (gR rg tg 7) 0) _).R i=_;rw[ex_op _ _ _ _ (by decide)];simp only;rw[up_ne _ _ h9];exact k1 i h7
  ·show(ex1 (opI 2 9 (gR rg tg 7) 0) _).M=_;rw[ex_op _ _ _ _ (by decide)];exact m1
theorem fin_ex{ct w:Int}(s:MS)(hz:s.R 15=0)(h9:s.R 9=w)(hw:u32P w)(hct:u32P ct):okL (finC ct) s∧(exL (finC ct) s).M=up (up s.M 0 w) 36 ct:=by
 have e:exL (finC ct) s=⟨up s.R 11 ct,up (up s.M 0 w) 36 ct⟩:=by
  have e1:ex1 (stI 15 0 9) s=⟨s.R,up s.M 0 w⟩:=by rw[ex_st,hz,h9,ik,eL hw.1 hw.2]
  show ex1 (stI 15 36 11) (ex1 (liI 11 ct) (ex1 (stI 15 0 9) s))=_;rw[e1,ex_li,ex_st];simp only;rw[up_ne _ _ (by decide),hz,up_at,ik,eL hct.1 hct.2]
 rw[e];refine⟨⟨ok_st _ _ _ _ (by rw[hz];omega),ok_li _ _ _,ok_st _ _ _ _ ?_,trivial⟩,rfl⟩;rw[ex_li,ex_st];simp[up,hz]
theorem steps_in{code a l b:List II}{s:MS}{p:Nat}(hc:∀(i:Nat) (x:II),(a++(l++b))[i]? = some x→code[i]? = some x)(hp:p=a.length)(h:okL l s):Steps code l.length s p (exL l s) (p+l.length):=by
 subst hp;refine steps_line l s a.length (fun i x hx=>hc _ x ?_) h;rw[aw (by omega),show a.length+i-a.length=i by omega,am (ae.1 hx).1];exact hx
theorem in_at{code a l b:List II}{p:Nat}(hc:∀(i:Nat) (x:II),(a++(l++b))[i]? = some x→code[i]? = some x)(hp:p=a.length):∀(i:Nat) (x:II),l[i]? = some x→code[p+i]? = some x:=fun i x hx=>by
 subst hp;refine hc _ x ?_;rw[aw (by omega),show a.length+i-a.length=i by omega,am (ae.1 hx).1];exact hx
structure Laid(M0:Int→Int)(d r:List Int)(pc f0:Int):Prop where
 lay:Lay M0 d r
 pc:M0 0=pc
 fl:M0 1=f0
 nd:M0 2=(d.length:Int)
 nr:M0 3=(r.length:Int)
 ct:M0 36=0
 f15:0≤f0∧f0≤15
 d32:V32 d
 r32:V32 r
structure Left(M:Int→Int)(D R:List Int)(pc f ct:Int):Prop where
 pc:M 0=pc
 fl:M 1=f
 nd:M 2=(D.length:Int)
 nr:M 3=(R.length:Int)
 d:∀i:Nat,i<D.length→M (4+(i:Int))=D.getD i 0
 r:∀i:Nat,i<R.length→M (20+(i:Int))=R.getD i 0
 ct:M 36=ct
theorem putL_left{V l:List Int}{n:Nat}{out:List Int}{i:Nat}(h:i<l.length-n):(putL V l n out).getD i 0=l.getD i 0:=by
 unfold putL;rw[aj,aj,am (by simp;omega),List.getElem?_take_of_lt h]
theorem putL_right{V l:List Int}{n:Nat}{out:List Int}{i:Nat}(hi:i<out.length)(hn:n≤l.length):(putL V l n out).getD (l.length-n+i) 0=V.getD (out.getD i 0).toNat 0:=by
 unfold putL;have h1:(l.take (l.length-n)).length=l.length-n:=by simp
 rw[aj,aw (by omega),h1,show l.length-n+i-(l.length-n)=i by omega,iI,aj (l:=out),ac hi];rfl
theorem putL_len9(V l:List Int){n:Nat}(out:List Int)(hn:n≤l.length):(putL V l n out).length=l.length-n+out.length:=by unfold putL;simp
theorem emit_fit{code:List II}{c:List II}{od rd rg sl d r:List Int}{nd nr hd hr fl nx tg br tk ct pc f0 E:Int}{s:MS}(hR:RightP c od rd nd nr hd hr fl tg br ct (c.length:Int))(hi:∀x∈c,0≤x.2.2.2.2∧x.2.2.2.2<4294967296)(hp:PlB rg sl c.length)(hlr:rg.length=c.length)(hl:Laid s.M d r pc f0)
    (hc:∀(i:Nat) (x:II),(fullC rg sl nd nr hd hr fl nx tg br tk ct c od rd E)[i]? = some x→code[i]? = some x) (hnx:u32P nx) (htk:u32P tk) (hct:u32P ct)
    (hfd:nd≤(d.length:Int)∧(d.length:Int)+hd≤16) (hfr:nr≤(r.length:Int)∧(r.length:Int)+hr≤16) (htd:(d.length:Int)-nd+(od.length:Int)≤16) (htr:(r.length:Int)-nr+(rd.length:Int)≤16) :
    ∃n t,n≤(fullC rg sl nd nr hd hr fl nx tg br tk ct c od rd E).length+5∧Steps code n s 0 t ((fullC rg sl nd nr hd hr fl nx tg br tk ct c od rd E).length-1)∧code[(fullC rg sl nd nr hd hr fl nx tg br tk ct c od rd E).length-1]? = some (19,0,0,0,1) ∧
     Left t.M (putL (evW c d r rg sl c.length) d nd.toNat od) (putL (evW c d r rg sl c.length) r nr.toNat rd) (leftP (evW c d r rg sl c.length) nx tg br tk (leftF (evW c d r rg sl c.length) fl f0)) (leftF (evW c d r rg sl c.length) fl f0) ct:=by
 have q3:=hR.nd_;have q4:=hR.nr_;have q5:=hR.hd_;have q6:=hR.hr_;obtain⟨V,hV⟩:∃V,V=evW c d r rg sl c.length:=⟨_,rfl⟩;have hV32:V32 V:=by rw[hV];exact evW_32 hl.d32 hl.r32 hi _
 rw[←hV];have hdl:=hl.lay.dl;have hrl:=hl.lay.rl;obtain⟨H,hH⟩:∃H,H=headC nd nr (mostO nd hd (od.length:Int)) (mostO nr hr (rd.length:Int)) E:=⟨_,rfl⟩;obtain⟨D,hD⟩:∃D,D=midC rg sl nd nr fl nx c od rd:=⟨_,rfl⟩;obtain⟨B,hBq⟩:∃B,B=brC br tk ((17+D.length:Nat)+3):=⟨_,rfl⟩;obtain⟨Z,hZ⟩:∃Z,Z=tgC rg sl tg++finC ct:=⟨_,rfl⟩;have hHl:H.length=17:=by rw[hH];rfl
 have hF:fullC rg sl nd nr hd hr fl nx tg br tk ct c od rd E=H++(D++(B++(Z++[(19,0,0,0,1)]))):=by
  unfold fullC tailC;rw[hBq,hD,hH,hZ,et]
 rw[hF]at hc ⊢
 -- the rooms
 have z0:okL [liI 15 0] s:=⟨ok_li _ _ _,trivial⟩;have c0:∀(i:Nat) (x:II),([]++([liI 15 0]++((roomC 14 2 nd (mostO nd hd (od.length:Int)) E++roomC 13 3 nr (mostO nr hr (rd.length:Int)) E)++(D++(B++(Z++[(19,0,0,0,1)]))))))[i]? = some x→code[i]? = some x:=fun i x h=>hc i x (by rw[hH];exact h)
 have st0:=steps_in c0 (p:=0) rfl z0;obtain⟨s0,hs0⟩:∃t,t=exL [liI 15 0] s:=⟨_,rfl⟩;rw[←hs0]at st0;have e0:s0=⟨up s.R 15 0,s.M⟩:=by rw[hs0];exact ex_li _ _ _
 have c1:∀(i:Nat) (x:II),([liI 15 0]++(roomC 14 2 nd (mostO nd hd (od.length:Int)) E++(roomC 13 3 nr (mostO nr hr (rd.length:Int)) E++(D++(B++(Z++[(19,0,0,0,1)]))))))[i]? = some x→code[i]? = some x:=fun i x h=>hc i x (by rw[hH];simpa[headC]using h)
 obtain⟨s1,st1,v1,k1,m1⟩:=(room_ex (s:=s0) (cnt:=(d.length:Int)) (in_at c1 (p:=1) rfl) (by rw[e0];simp only;rw[up_at]) (by rw[e0];exact hl.nd) (by decide) (.inr rfl) (by omega) (by omega) (by unfold mostO;omega)).1 ⟨hfd.1,by unfold mostO;omega⟩;have c2:∀(i:Nat) (x:II),((liI 15 0::roomC 14 2 nd (mostO nd hd (od.length:Int)) E)++(roomC 13 3 nr (mostO nr hr (rd.length:Int)) E++(D++(B++(Z++[(19,0,0,0,1)])))))[i]? = some x→code[i]? = some x:=fun i x h=>hc i x (by rw[hH];simpa[headC]using h)
 obtain⟨s2,st2,v2,k2,m2⟩:=(room_ex (s:=s1) (cnt:=(r.length:Int)) (in_at c2 (p:=9) rfl) (by rw[k1 15 (by decide) (by decide) (by decide),e0];simp only;rw[up_at]) (by rw[m1,e0];exact hl.nr) (by decide) (.inl rfl) (by omega) (by omega) (by unfold mostO;omega)).1 ⟨hfr.1,by unfold mostO;omega⟩;have hm2:s2.M=s.M:=by rw[m2,m1,e0]
 have hh2:Hld s.M nd nr d r s2:=⟨by rw[k2 15 (by decide) (by decide) (by decide),k1 15 (by decide) (by decide) (by decide),e0];simp only;rw[up_at],by rw[k2 14 (by decide) (by decide) (by decide),v1],v2,fun i _=>by rw[hm2]⟩
 -- the values
 obtain⟨ob,bb⟩:=body_ex hh2 hp hlr hR.code hi hl.lay hl.d32 hl.r32 ⟨q3.1,hfd.1⟩ ⟨q4.1,hfr.1⟩ c.length (ak _);obtain⟨s3,hs3⟩:∃t,t=exL (bodyC rg sl nd nr c c.length) s2:=⟨_,rfl⟩;rw[←hs3]at bb
 have hpl3:∀x:Int,0≤x→x<(c.length:Int)→plV rg sl s3 x=V.getD x.toNat 0∧u32P (V.getD x.toNat 0):=fun x h0 h1=>by
  have:=bb.v x.toNat (by omega);rw[show(x.toNat:Int)=x by omega]at this;rw[this,hV];refine⟨(rdV_at zo).symm,?_⟩;rw[←hV];exact hV32.getD _
 have plc:∀(t:MS),(∀i,i<7→t.R i=s3.R i)→(∀a,64≤a→t.M a=s3.M a)→∀x:Int,0≤x→x<(c.length:Int)→plV rg sl t x=plV rg sl s3 x:=fun t h1 h2 x x0 x1=>by
  unfold plV;rcases hp x.toNat (by omega)with⟨a,b⟩|⟨a,b,e⟩
  ·rw[if_pos a,if_pos a,h1 _ b]
  ·rw[if_neg (by omega),if_neg (by omega),h2 _ (by omega)]
 have hod:∀x∈od,0≤x∧x<(c.length:Int):=fun x hx=>by obtain⟨k,hk⟩:=aJ.1 hx;exact valB_iff2.1 (hR.od_ k x hk)
 have hrd:∀x∈rd,0≤x∧x<(c.length:Int):=fun x hx=>by obtain⟨k,hk⟩:=aJ.1 hx;exact valB_iff2.1 (hR.rd_ k x hk)
 -- the stacks
 obtain⟨o4,k4,v4,w4,m4⟩:=stack_ex (V:=fun x=>V.getD x.toNat 0) (bs:=14) (frm:=4) (word:=2) (B:=(d.length:Int)-nd) hp (.inr rfl) od s3 bb.h.z bb.h.bd (fun x hx=>⟨(hod x hx).1,(hod x hx).2,(hpl3 x (hod x hx).1 (hod x hx).2).1,(hpl3 x (hod x hx).1 (hod x hx).2).2⟩) (by omega) (by decide) (by omega) (by decide);obtain⟨s4,hs4⟩:∃t,t=exL (stackC rg sl 14 4 2 od) s3:=⟨_,rfl⟩;rw[←hs4]at k4 v4 w4 m4;have pl4:=plc s4 (fun i h=>k4 i (by omega) (by omega)) (fun a h=>m4 a (by omega) (by omega));obtain⟨o5,k5,v5,w5,m5⟩:=stack_ex (V:=fun x=>V.getD x.toNat 0) (bs:=13) (frm:=20) (word:=3) (B:=(r.length:Int)-nr) hp (.inl rfl) rd s4 ((k4 15 (by decide) (by decide)).trans bb.h.z) ((k4 13 (by decide) (by decide)).trans bb.h.br) (fun x hx=>⟨(hrd x hx).1,(hrd x hx).2,(pl4 x (hrd x hx).1 (hrd x hx).2).trans (hpl3 x (hrd x hx).1 (hrd x hx).2).1,(hpl3 x (hrd x hx).1 (hrd x hx).2).2⟩) (by omega) (by decide) (by omega) (by decide);obtain⟨s5,hs5⟩:∃t,t=exL (stackC rg sl 13 20 3 rd) s4:=⟨_,rfl⟩;rw[←hs5]at k5 v5 w5 m5;have pl5:=plc s5 (fun i h=>(k5 i (by omega) (by omega)).trans (k4 i (by omega) (by omega))) (fun a h=>(m5 a (by omega) (by omega)).trans (m4 a (by omega) (by omega)));have z5:s5.R 15=0:=(k5 15 (by decide) (by decide)).trans ((k4 15 (by decide) (by decide)).trans bb.h.z)
 -- flags
 have hfl9:fl = -1∨(0≤fl∧fl<(c.length:Int)):=hR.fl_.imp id fun h=>valB_iff2.1 h
 have htg9:tg = -1∨(0≤tg∧tg<(c.length:Int)):=hR.tg_.imp id fun h=>valB_iff2.1 h
 obtain⟨o6,k6,w6,m6⟩:=fl_ex (V:=V) (f0:=f0) s5 hp z5 hfl9 (fun h=>by
  have h1:fl<(c.length:Int):=by rcases hfl9 with q|q<;>omega
  exact⟨(pl5 fl h h1).trans (hpl3 fl h h1).1,(hpl3 fl h h1).2⟩) (by rw[m5 1 (by decide) (by omega),m4 1 (by decide) (by omega),bb.h.m 1 (by decide)];exact hl.fl)
 obtain⟨s6,hs6⟩:∃t,t=exL (flC rg sl fl) s5:=⟨_,rfl⟩;rw[←hs6]at k6 w6 m6;obtain⟨F,hFF⟩:∃F,F=leftF V fl f0:=⟨_,rfl⟩;rw[←hFF]at w6 ⊢
 have hF15:0≤F∧F≤15:=by
  rw[hFF];unfold leftF;split
  ·exact hl.f15
  ·omega
 obtain⟨s7,hs7⟩:∃t,t=ex1 (liI 9 nx) s6:=⟨_,rfl⟩;have e7:s7=⟨up s6.R 9 nx,s6.M⟩:=by rw[hs7];exact ex_li _ _ _
 have z6:s6.R 15=0:=(k6 15 (by decide) (by decide)).trans z5;have z7:s7.R 15=0:=by rw[e7];simp only;rw[up_ne _ _ (by decide)];exact z6
 have om:okL D s2:=by
  rw[hD];unfold midC;refine okL_app _ _ _ ob ?_;rw[←hs3];refine okL_app _ _ _ o4 ?_;rw[←hs4];refine okL_app _ _ _ o5 ?_;rw[←hs5];exact okL_app _ _ _ o6 ⟨ok_li _ _ _,trivial⟩
 have em:exL D s2=s7:=by
  rw[hD];unfold midC;rw[exL_app,←hs3,exL_app,←hs4,exL_app,←hs5,exL_app,←hs6,hs7];rfl
 have st3:=steps_in hc (p:=17) hHl.symm om;rw[em]at st3
 -- the place
 have c4:∀(i:Nat) (x:II),((H++D)++(B++(Z++[(19,0,0,0,1)])))[i]? = some x→code[i]? = some x:=fun i x h=>hc i x (by simpa using h)
 have hbr:br=0∨(33≤br∧br≤37):=by
  rcases hR.br_ with h|h
  ·exact .inl h
  ·exact .inr ⟨h.1,h.2.1⟩
 have cb:=in_at c4 (p:=17+D.length) (by simp[hHl]);rw[hBq]at cb;obtain⟨nb,s8,hnb,st4,v8,k8,m8⟩:=br_ex (s:=s7) (F:=F) (nx:=nx) cb z7 (by rw[e7];exact w6) hF15 hbr (by rw[e7];simp only;rw[up_at]);rw[←hBq]at st4;have z8:s8.R 15=0:=(k8 15 (by decide) (by decide) (by decide)).trans z7;have pl8:=plc s8 (fun i h=>by rw[k8 i (by omega) (by omega) (by omega),e7];simp only;rw[up_ne _ _ (by omega),k6 i (by omega) (by omega),k5 i (by omega) (by omega),k4 i (by omega) (by omega)]) (fun a h=>by rw[m8,e7];simp only;rw[m6 a (by omega),m5 a (by omega) (by omega),m4 a (by omega) (by omega)])
 obtain⟨o9,v9,k9,m9⟩:=tg_ex (V:=V) s8 hp z8 htg9 (fun h=>by
  have h1:tg<(c.length:Int):=by rcases htg9 with q|q<;>omega
  exact(pl8 tg h h1).trans (hpl3 tg h h1).1) v8
 obtain⟨s9,hs9⟩:∃t,t=exL (tgC rg sl tg) s8:=⟨_,rfl⟩;rw[←hs9]at v9 k9 m9
 have hpc:(if tg = -1 then(if hK br=true∧hB br F=true then tk else nx)else V.getD tg.toNat 0)=leftP V nx tg br tk F:=by
  unfold leftP
  by_cases q:hK br=true∧hB br F=true
  ·have:tg = -1:=by
     rcases hR.br_ with h|h
     ·rw[h]at q;exact absurd q.1 (by decide)
     ·exact h.2.2
   rw[if_pos this,if_pos q,if_pos q]
  ·rw[if_neg q,if_neg q]
 rw[hpc]at v9
 have hpc32:u32P (leftP V nx tg br tk F):=by
  unfold leftP;split
  ·exact htk
  ·split
   ·exact hnx
   ·exact hV32.getD _
 obtain⟨oa,ma⟩:=fin_ex (ct:=ct) s9 ((k9 15 (by decide) (by decide)).trans z8) v9 hpc32 hct;have oz:okL Z s8:=by rw[hZ];exact okL_app _ _ _ o9 (by rw[←hs9];exact oa)
 have c5:∀(i:Nat) (x:II),((H++(D++B))++(Z++[(19,0,0,0,1)]))[i]? = some x→code[i]? = some x:=fun i x h=>hc i x (by simpa using h)
 have st5:=steps_in c5 (p:=17+D.length+B.length) (by simp[hHl];omega) oz;have ez:(exL Z s8).M=up (up s9.M 0 (leftP V nx tg br tk F)) 36 ct:=by rw[hZ,exL_app,←hs9];exact ma
 have hlen:(H++(D++(B++(Z++[((19:Int),(0:Int),(0:Int),(0:Int),(1:Int))])))).length-1=17+D.length+B.length+Z.length:=by simp[hHl];omega
 refine⟨_,exL Z s8,?_,by rw[hlen];exact((((st0.app st1).app st2).app st3).app st4).app st5,?_,?_⟩
 ·simp[hHl];omega
 ·rw[hlen];refine hc _ _ ?_;rw[show 17+D.length+B.length+Z.length=(H++(D++(B++Z))).length by simp[hHl];omega,show H++(D++(B++(Z++[((19:Int),(0:Int),(0:Int),(0:Int),(1:Int))])))=(H++(D++(B++Z)))++[(19,0,0,0,1)] by simp];simp
 ·have eM:∀a,a≠0→a≠36→a≠1→(exL Z s8).M a=s5.M a:=fun a h0 h36 h1=>by
    rw[ez,up_ne _ _ h36,up_ne _ _ h0,m9,m8,e7];exact m6 a h1
  have hdn:nd.toNat≤d.length:=by omega
  have hrn:nr.toNat≤r.length:=by omega
  refine⟨by rw[ez,up_ne _ _ (by decide),up_at],by rw[ez,up_ne _ _ (by decide),up_ne _ _ (by decide),m9,m8,e7];exact w6,?_,?_,fun i hi=>?_,fun i hi=>?_,by rw[ez,up_at]⟩
  ·rw[eM 2 (by decide) (by decide) (by decide),m5 2 (by decide) (by omega),w4,putL_len9 _ _ _ hdn];omega
  ·rw[eM 3 (by decide) (by decide) (by decide),w5,putL_len9 _ _ _ hrn];omega
  ·rw[putL_len9 _ _ _ hdn]at hi;rw[eM _ (by omega) (by omega) (by omega),m5 _ (by omega) (by omega)]
   by_cases q:i<d.length-nd.toNat
   ·rw[m4 _ (by omega) (by omega),putL_left q,bb.h.m _ (by omega)];exact hl.lay.ld i (by omega)
   ·obtain⟨j,rfl⟩:∃j,i=d.length-nd.toNat+j:=⟨i-(d.length-nd.toNat),by omega⟩;rw[putL_right (by omega) hdn];have:=v4 j (by omega);rw[show(d.length:Int)-nd+4+(j:Int)=4+((d.length-nd.toNat+j:Nat):Int) by omega]at this;exact this
  ·rw[putL_len9 _ _ _ hrn]at hi;rw[eM _ (by omega) (by omega) (by omega)]
   by_cases q:i<r.length-nr.toNat
   ·rw[m5 _ (by omega) (by omega),m4 _ (by omega) (by omega),putL_left q,bb.h.m _ (by omega)];exact hl.lay.lr i (by omega)
   ·obtain⟨j,rfl⟩:∃j,i=r.length-nr.toNat+j:=⟨i-(r.length-nr.toNat),by omega⟩;rw[putL_right (by omega) hrn];have:=v5 j (by omega);rw[show(r.length:Int)-nr+20+(j:Int)=20+((r.length-nr.toNat+j:Nat):Int) by omega]at this;exact this
theorem head_no{code:List II}{d r:List Int}{nd nr hd hr md mr pc f0 E:Int}{s:MS}(hc:∀(i:Nat) (x:II),(headC nd nr md mr E)[i]? = some x→code[i]? = some x)(hl:Laid s.M d r pc f0)(q3:0≤nd∧nd≤16)(q4:0≤nr∧nr≤16)(hmd:0≤md∧md<100)(hmr:0≤mr∧mr<100)
    (hno:¬((nd≤(d.length:Int)∧(d.length:Int)≤md)∧(nr≤(r.length:Int)∧(r.length:Int)≤mr))):∃n t,n≤17∧Steps code n s 0 t E.toNat∧t.M=s.M:=by
 have hdl:=hl.lay.dl;have hrl:=hl.lay.rl;have c0:∀(i:Nat) (x:II),([]++([liI 15 0]++(roomC 14 2 nd md E++roomC 13 3 nr mr E)))[i]? = some x→code[i]? = some x:=hc;have st0:=steps_in c0 (p:=0) rfl (s:=s) ⟨ok_li _ _ _,trivial⟩;obtain⟨s0,hs0⟩:∃t,t=exL [liI 15 0] s:=⟨_,rfl⟩;rw[←hs0]at st0;have e0:s0=⟨up s.R 15 0,s.M⟩:=by rw[hs0];exact ex_li _ _ _
 have c1:∀(i:Nat) (x:II),([liI 15 0]++(roomC 14 2 nd md E++roomC 13 3 nr mr E))[i]? = some x→code[i]? = some x:=hc;obtain⟨r1,r2⟩:=room_ex (s:=s0) (cnt:=(d.length:Int)) (in_at c1 (p:=1) rfl) (by rw[e0];simp only;rw[up_at]) (by rw[e0];exact hl.nd) (by decide) (.inr rfl) (by omega) (by omega) hmd
 by_cases h1:nd≤(d.length:Int)∧(d.length:Int)≤md
 ·obtain⟨s1,st1,v1,k1,m1⟩:=r1 h1;have c2:∀(i:Nat) (x:II),((liI 15 0::roomC 14 2 nd md E)++(roomC 13 3 nr mr E++[]))[i]? = some x→code[i]? = some x:=fun i x h=>hc i x (by simpa[headC]using h)
  obtain⟨n,t,hn,st2,m2⟩:=(room_ex (s:=s1) (cnt:=(r.length:Int)) (in_at c2 (p:=9) rfl) (by rw[k1 15 (by decide) (by decide) (by decide),e0];simp only;rw[up_at]) (by rw[m1,e0];exact hl.nr) (by decide) (.inl rfl) (by omega) (by omega) hmr).2 (fun q=>hno ⟨h1,q⟩);exact⟨_,t,by simp;omega,(st0.app st1).app st2,by rw[m2,m1,e0]⟩
 ·obtain⟨n,t,hn,st1,m1⟩:=r2 h1;exact⟨_,t,by simp;omega,st0.app st1,by rw[m1,e0]⟩
theorem full_len(rg sl:List Int)(nd nr hd hr fl nx tg br tk ct:Int)(c:List II)(od rd:List Int)(E:Int):(fullC rg sl nd nr hd hr fl nx tg br tk ct c od rd E).length=(fullC rg sl nd nr hd hr fl nx tg br tk ct c od rd 0).length:=by
 simp[fullC,headC,roomC]
theorem gC_len(rg sl:List Int)(n into:Int):(gC rg sl n into).length≤1:=by unfold gC;split<;>simp
theorem aluC_len(op rd a b:Int):(aluC op rd a b).length≤3:=by unfold aluC;split<;>simp[lowC]
theorem flagC_len(op a b:Int):(flagC op a b).length≤30:=by
 have h:=aluC_len op 9 a b;unfold flagC;split
 ·simp[signC,bitC,ovC];omega
 ·split
  ·simp[signC,bitC,ovC];omega
  ·simp[signC,bitC];omega
theorem oneC_len(rg sl:List Int)(nd nr:Int)(n:Nat)(x:II):(oneC rg sl nd nr n x).length≤34:=by
 have h1:=gC_len rg sl x.2.2.1 7;have h2:=gC_len rg sl x.2.2.2.1 8;have h3:=aluC_len x.2.2.2.2 (gR rg n 9) (gR rg x.2.2.1 7) (gR rg x.2.2.2.1 8);have h4:=flagC_len x.2.2.2.2 (gR rg x.2.2.1 7) (gR rg x.2.2.2.1 8);have h5:(kC rg sl n (gR rg n 9)).length≤1:=by unfold kC;split<;>simp
 have h6:(valC rg sl nd nr (gR rg n 9) x).length≤33:=by
  unfold valC;split
  ·simp
  ·split
   ·simp
   ·split
    ·simp
    ·split
     ·simp;omega
     ·simp;omega
 unfold oneC;simp;omega
theorem bodyC_len(rg sl:List Int)(nd nr:Int)(c:List II):∀k,(bodyC rg sl nd nr c k).length≤34*k
 |0=>by simp[bodyC]
 |k+1=>by
  have h:=bodyC_len rg sl nd nr c k;show(match c[k]? with|some x=>_|none=>_:List II).length≤_;split
  ·rename_i x hx;have:=oneC_len rg sl nd nr k x;rw[ar];omega
  ·omega
theorem outC_len(rg sl:List Int)(bs frm:Int):∀(l:List Int) (k:Int),(outC rg sl bs frm l k).length≤2*l.length
 | [],_=>by simp[outC]
 |x::l,k=>by
  have h:=outC_len rg sl bs frm l (k+1);have h2:=gC_len rg sl x 7;unfold outC;rw[ar,ay,ay];omega
theorem full_most{rg sl:List Int}{nd nr hd hr fl nx tg br tk ct:Int}{c:List II}{od rd:List Int}(hc:c.length≤64)(hod:od.length≤40)(hrd:rd.length≤40)(E:Int):(fullC rg sl nd nr hd hr fl nx tg br tk ct c od rd E).length≤3000:=by
 have h1:=bodyC_len rg sl nd nr c c.length;have h2:=outC_len rg sl 14 4 od 0;have h3:=outC_len rg sl 13 20 rd 0;have h4:(flC rg sl fl).length≤4:=by have:=gC_len rg sl fl 7;unfold flC;split<;>simp;omega
 have h5:(brC br tk ((17+(midC rg sl nd nr fl nx c od rd).length:Nat)+3)).length≤5:=by unfold brC;split<;>simp
 have h6:(tgC rg sl tg).length≤2:=by have:=gC_len rg sl tg 7;unfold tgC;split<;>simp;omega
 have h7:(midC rg sl nd nr fl nx c od rd).length≤34*c.length+(2*od.length+3)+(2*rd.length+3)+5:=by
  unfold midC stackC;simp;omega
 unfold fullC tailC;simp[headC,roomC,finC];simp at h5;omega
structure Ends(code:List II)(s:MS)(imm:Int)(t:MS):Prop where
 ends:∃n j,n<4096∧Steps code n s 0 t j∧code[j]? = some (exitI imm)
theorem emit_ok{c:List II}{od rd rg sl d r:List Int}{nd nr hd hr fl nx tg br tk ct pc f0:Int}{s:MS}(hR:RightP c od rd nd nr hd hr fl tg br ct (c.length:Int))(hi:∀x∈c,0≤x.2.2.2.2∧x.2.2.2.2<4294967296)(hp:PlB rg sl c.length)(hlr:rg.length=c.length)(hl:Laid s.M d r pc f0)(hnx:u32P nx)(htk:u32P tk)(hct:u32P ct):
    (((nd≤(d.length:Int)∧(d.length:Int)+hd≤16)∧(nr≤(r.length:Int)∧(r.length:Int)+hr≤16)∧((d.length:Int)-nd+(od.length:Int)≤16)∧((r.length:Int)-nr+(rd.length:Int)≤16)) →
     ∃t,Ends (emitC rg sl nd nr hd hr fl nx tg br tk ct c od rd) s 1 t∧Left t.M (putL (evW c d r rg sl c.length) d nd.toNat od) (putL (evW c d r rg sl c.length) r nr.toNat rd) (leftP (evW c d r rg sl c.length) nx tg br tk (leftF (evW c d r rg sl c.length) fl f0)) (leftF (evW c d r rg sl c.length) fl f0) ct) ∧
    (¬((nd≤(d.length:Int)∧(d.length:Int)+hd≤16)∧(nr≤(r.length:Int)∧(r.length:Int)+hr≤16)∧((d.length:Int)-nd+(od.length:Int)≤16)∧((r.length:Int)-nr+(rd.length:Int)≤16)) →
     ∃t,Ends (emitC rg sl nd nr hd hr fl nx tg br tk ct c od rd) s 2 t∧t.M=s.M):=by
 have q3:=hR.nd_;have q4:=hR.nr_;have q5:=hR.hd_;have q6:=hR.hr_;have hlen:=hR.len;have hdl:=hl.lay.dl;have hrl:=hl.lay.rl;have hmd:mostO nd hd (od.length:Int)<100:=by unfold mostO;omega
 have hmr:mostO nr hr (rd.length:Int)<100:=by unfold mostO;omega
 unfold emitC
 by_cases g1:mostO nd hd (od.length:Int)<nd
 ·rw[if_pos g1];refine⟨fun h=>?_,fun _=>⟨ex1 (liI 15 0) s,⟨1,1,by omega,Steps.one (stp_line rfl (ok_li _ _ _)),rfl⟩,rfl⟩⟩;exfalso;unfold mostO at g1;omega
 ·rw[if_neg g1]
  by_cases g2:mostO nr hr (rd.length:Int)<nr
  ·rw[if_pos g2];refine⟨fun h=>?_,fun _=>?_⟩
   ·exfalso;unfold mostO at g2;omega
   ·have st0:Steps (liI 15 0::(roomC 14 2 nd (mostO nd hd (od.length:Int)) 9++[exitI 2])) 1 s 0 (ex1 (liI 15 0) s) 1:=Steps.one (stp_line rfl (ok_li _ _ _));have hin:∀(i:Nat) (x:II),(roomC 14 2 nd (mostO nd hd (od.length:Int)) 9)[i]? = some x→(liI 15 0::(roomC 14 2 nd (mostO nd hd (od.length:Int)) 9++[exitI 2]))[1+i]? = some x:=in_at (a:=[liI 15 0]) (b:=[exitI 2]) (fun i x h=>h) rfl;obtain⟨r1,r2⟩:=room_ex (s:=ex1 (liI 15 0) s) (cnt:=(d.length:Int)) hin (by rw[ex_li];simp only;rw[up_at]) (by rw[ex_li];exact hl.nd) (by decide) (.inr rfl) (by omega) (by omega) (by omega)
    by_cases h1:nd≤(d.length:Int)∧(d.length:Int)≤mostO nd hd (od.length:Int)
    ·obtain⟨t,st1,_,_,m1⟩:=r1 h1;exact⟨t,⟨_,9,by omega,st0.app st1,rfl⟩,m1⟩
    ·obtain⟨n,t,hn,st1,m1⟩:=r2 h1;exact⟨t,⟨_,9,by omega,st0.app st1,rfl⟩,m1⟩
  ·rw[if_neg g2];have hE:=full_len rg sl nd nr hd hr fl nx tg br tk ct c od rd ((fullC rg sl nd nr hd hr fl nx tg br tk ct c od rd 0).length:Int)
   have hpre:∀(i:Nat) (x:II),(fullC rg sl nd nr hd hr fl nx tg br tk ct c od rd ((fullC rg sl nd nr hd hr fl nx tg br tk ct c od rd 0).length:Int))[i]? = some x→(fullC rg sl nd nr hd hr fl nx tg br tk ct c od rd ((fullC rg sl nd nr hd hr fl nx tg br tk ct c od rd 0).length:Int)++[exitI 2])[i]? = some x:=fun i x h=>by
    rw[am (ae.1 h).1];exact h
   refine⟨fun⟨h1,h2,h3,h4⟩=>?_,fun h=>?_⟩
   ·obtain⟨n,t,hn,st,hx,hL⟩:=emit_fit hR hi hp hlr hl hpre hnx htk hct h1 h2 h3 h4;have:=full_most (rg:=rg) (sl:=sl) (nd:=nd) (nr:=nr) (hd:=hd) (hr:=hr) (fl:=fl) (nx:=nx) (tg:=tg) (br:=br) (tk:=tk) (ct:=ct) (c:=c) (od:=od) (rd:=rd) (by omega) (by omega) (by omega) ((fullC rg sl nd nr hd hr fl nx tg br tk ct c od rd 0).length:Int);exact⟨t,⟨n,_,by omega,st,hx⟩,hL⟩
   ·obtain⟨n,t,hn,st,hm⟩:=head_no (hd:=hd) (hr:=hr) (E:=((fullC rg sl nd nr hd hr fl nx tg br tk ct c od rd 0).length:Int)) (fun i x q=>hpre i x (by
      show(headC nd nr (mostO nd hd (od.length:Int)) (mostO nr hr (rd.length:Int)) ((fullC rg sl nd nr hd hr fl nx tg br tk ct c od rd 0).length:Int)++_)[i]? = some x
      rw[am (ae.1 q).1];exact q)) hl q3 q4 (md:=mostO nd hd (od.length:Int)) (mr:=mostO nr hr (rd.length:Int)) (by omega) (by omega) (fun q=>h (by unfold mostO at q;omega))
    rw[aH]at st;refine⟨t,⟨n,_,by omega,st,?_⟩,hm⟩;rw[aw (by rw[hE];exact ak _),hE,Nat.sub_self];rfl
abbrev rg16(n:Int):Prop:=0≤n∧n<16
instance (n:Int):Decidable (u32P n):=inferInstanceAs (Decidable (0≤n∧n<4294967296))
theorem u32_0:u32P 0:=by decide
theorem regB_of{n:Int}(h:rg16 n):regB n=true:=by unfold regB;rw[aQ h.1,aQ h.2];rfl
theorem AllR.nil:AllR []:=fun x h=>by cases h
theorem AllR.cons{x:II}{l:List II}(h:hrI x)(k:AllR l):AllR (x::l):=fun y hy=>by
 rcases eG.1 hy with rfl|q
 ·exact h
 ·exact k y q
theorem AllR.app{a b:List II}(h:AllR a)(k:AllR b):AllR (a++b):=fun y hy=>(eE.1 hy).elim (h y) (k y)
theorem AllR.one{x:II}(h:hrI x):AllR [x]:=AllR.cons h AllR.nil
theorem r_li{rd v:Int}(h:rg16 rd)(hv:u32P v):hrI (liI rd v):=⟨by
 show hrB 1 rd 0 0 v=true
 unfold hrB;rw[regB_of h];rfl,hv⟩
theorem r_op{op rd ra rb:Int}(ho:3≤op∧op≤13)(h1:rg16 rd)(h2:rg16 ra)(h3:rg16 rb):hrI (opI op rd ra rb):=⟨by
 show hrB op rd ra rb 0=true
 unfold hrB;rw[regB_of h1,regB_of h2,regB_of h3,if_neg (by omega),if_neg (by omega),if_neg (by omega),if_pos ho];rfl,u32_0⟩
theorem r_mov{rd ra:Int}(h1:rg16 rd)(h2:rg16 ra):hrI (2,rd,ra,0,0):=⟨by
 show hrB 2 rd ra 0 0=true
 unfold hrB;rw[regB_of h1,regB_of h2];rfl,u32_0⟩
theorem r_ld{rd ra a:Int}(h1:rg16 rd)(h2:rg16 ra)(ha:u32P a):hrI (ldI rd ra a):=⟨by
 show hrB 14 rd ra 0 a=true
 unfold hrB;rw[regB_of h1,regB_of h2];rfl,ha⟩
theorem r_st{ra a rb:Int}(h1:rg16 ra)(h2:rg16 rb)(ha:u32P a):hrI (stI ra a rb):=⟨by
 show hrB 15 0 ra rb a=true
 unfold hrB;rw[regB_of h1,regB_of h2];rfl,ha⟩
theorem r_bz{op ra a:Int}(ho:op=16∨op=17)(h1:rg16 ra)(ha:u32P a):hrI (op,0,ra,0,a):=⟨by
 show hrB op 0 ra 0 a=true
 rcases ho with rfl|rfl<;>(unfold hrB;rw[regB_of h1];rfl),ha⟩
theorem r_exit{a:Int}(ha:u32P a):hrI (exitI a):=⟨by show hrB 19 0 0 0 a=true;rfl,ha⟩
theorem r_small{a:Int}(h:0≤a∧a<4096):u32P a:=⟨h.1,by omega⟩
theorem lowC_r{r:Int}(h:rg16 r):AllR (lowC r):=.cons (r_li (by decide) ⟨by decide,by decide⟩) (.one (r_op (by decide) h h (by decide)))
theorem host3(op:Int):3≤hostO op∧hostO op≤13:=by unfold hostO;(repeat' split)<;>omega
theorem aluC_r{op rd a b:Int}(h1:rg16 rd)(h2:rg16 a)(h3:rg16 b):AllR (aluC op rd a b):=.cons (r_op (host3 op) h1 h2 h3) (by split;exact AllR.nil;exact lowC_r h1)
theorem bitC_r{r u:Int}(h:rg16 r)(hu:u32P u):AllR (bitC r u):=.cons (r_li (by decide) hu) (.cons (r_op (by decide) h h (by decide)) (.one (r_op (by decide) (by decide) (by decide) h)))
theorem signC_r{rd r:Int}(h:rg16 rd)(h2:rg16 r):AllR (signC rd r):=.cons (r_li (by decide) ⟨by decide,by decide⟩) (.one (r_op (by decide) h h2 (by decide)))
theorem ovC_r:AllR ovC:=.cons (r_op (by decide) (by decide) (by decide) (by decide)) ((signC_r (by decide) (by decide)).app (bitC_r (by decide) ⟨by decide,by decide⟩))
theorem flagC_r{op a b:Int}(h2:rg16 a)(h3:rg16 b):AllR (flagC op a b):=by
 have t (x:Int) (hx:rg16 x) (y:Int) (hy:rg16 y) (z:Int) (hz:rg16 z):AllR (opI 7 11 x y::opI 7 12 z 9::ovC):=.cons (r_op (by decide) (by decide) hx hy) (.cons (r_op (by decide) (by decide) hz (by decide)) ovC_r);unfold flagC;refine(aluC_r (by decide) h2 h3).app (.cons (r_op (by decide) (by decide) (by decide) (by decide)) ((signC_r (by decide) (by decide)).app ((bitC_r (by decide) ⟨by decide,by decide⟩).app ?_)));split
 ·exact .cons (r_op (by decide) (by decide) (by decide) h2) ((bitC_r (by decide) ⟨by decide,by decide⟩).app (t _ h2 _ (by decide) _ h3))
 ·split
  ·exact .cons (r_op (by decide) (by decide) h2 h3) ((bitC_r (by decide) ⟨by decide,by decide⟩).app (t _ h2 _ h3 _ h2))
  ·exact AllR.nil
section
variable {rg sl:List Int}{n:Nat}
theorem gR_16{x into:Int}(hp:PlB rg sl n)(h0:0≤x)(h1:x<(n:Int))(hi:rg16 into):rg16 (gR rg x into):=by
 unfold rg16;rcases gR_lt (into:=into) hp h0 h1 with⟨a,b,_⟩|⟨a,_⟩
 ·omega
 ·rw[a];exact hi
theorem gC_r{x into:Int}(hp:PlB rg sl n)(h0:0≤x)(h1:x<(n:Int))(hi:rg16 into):AllR (gC rg sl x into):=by
 unfold gC;rcases hp x.toNat (by omega)with⟨a,b⟩|⟨a,b,c⟩
 ·rw[if_pos a];exact AllR.nil
 ·rw[if_neg (by omega)];exact .one (r_ld hi (by decide) (r_small (by omega)))
theorem kC_r{k:Nat}{r:Int}(hp:PlB rg sl n)(h1:k<n)(hi:rg16 r):AllR (kC rg sl k r):=by
 unfold kC;rw[aH];rcases hp k h1 with⟨a,b⟩|⟨a,b,c⟩
 ·rw[if_neg (by omega)];exact AllR.nil
 ·rw[if_pos (by omega)];exact .one (r_st (by decide) hi (r_small (by omega)))
theorem oneC_r{nd nr:Int}{k:Nat}{x:II}(hp:PlB rg sl n)(h1:k<n)(hm:madeB nd nr x (k:Int)=true)(hi:u32P x.2.2.2.2)(hnd:0≤nd∧nd≤16)(hnr:0≤nr∧nr≤16):AllR (oneC rg sl nd nr k x):=by
 have hrd:rg16 (gR rg (k:Int) 9):=gR_16 hp (by omega) (by omega) (by decide);refine AllR.app ?_ (kC_r hp h1 hrd);obtain⟨o,dd,a,b,im⟩:=x;obtain⟨_,hc⟩:=made_cases hm;simp only at hi;unfold valC;simp only;have hi2:=hi.1;rcases hc with⟨rfl,ha,hb⟩|⟨rfl,ha,hb,hn⟩|⟨rfl,ha,hb,hn⟩|⟨rfl,ha,hb,h3,h2⟩|⟨rfl,ha,hb,h3,h2⟩|⟨rfl,ha,hb,h3⟩
 ·exact .one (r_li hrd hi)
 ·exact .one (r_ld hrd (by decide) (r_small (by omega)))
 ·exact .one (r_ld hrd (by decide) (r_small (by omega)))
 ·exact(gC_r hp ha.1 (by omega) (by decide)).app ((gC_r hp hb.1 (by omega) (by decide)).app (aluC_r hrd (gR_16 hp ha.1 (by omega) (by decide)) (gR_16 hp hb.1 (by omega) (by decide))))
 all_goals exact(gC_r hp ha.1 (by omega) (by decide)).app ((gC_r hp hb.1 (by omega) (by decide)).app ((flagC_r (gR_16 hp ha.1 (by omega) (by decide)) (gR_16 hp hb.1 (by omega) (by decide))).app (.one (r_mov hrd (by decide)))))
theorem bodyC_r{nd nr:Int}{c:List II}(hp:PlB rg sl c.length)(hm:∀(k:Nat) (x:II),c[k]? = some x→madeB nd nr x (k:Int)=true)(hi:∀x∈c,0≤x.2.2.2.2∧x.2.2.2.2<4294967296)(hnd:0≤nd∧nd≤16)(hnr:0≤nr∧nr≤16):∀k,AllR (bodyC rg sl nd nr c k)
 |0=>AllR.nil
 |k+1=>by
  have h:=bodyC_r hp hm hi hnd hnr k;show AllR (match c[k]? with|some x=>_|none=>_);split
  ·rename_i x hx;exact h.app (oneC_r hp (ae.1 hx).1 (hm k x hx) (hi x (ah hx)) hnd hnr)
  ·exact h
theorem outC_r{bs frm:Int}(hp:PlB rg sl n)(hb:rg16 bs):∀(l:List Int) (k:Int),(∀x∈l,0≤x∧x<(n:Int))→0≤frm+k→frm+k+(l.length:Int)<4096→AllR (outC rg sl bs frm l k)
 | [],_,_,_,_=>AllR.nil
 |x::l,k,h,h0,h1=>by
  obtain⟨x0,x1⟩:=h x (eI ..);simp only[ay]at h1;exact(gC_r hp x0 x1 (by decide)).app (.cons (r_st hb (gR_16 hp x0 x1 (by decide)) (r_small (by omega))) (outC_r hp hb l (k+1) (fun y hy=>h y (eu _ hy)) (by omega) (by omega)))
theorem stackC_r{bs frm word:Int}(hp:PlB rg sl n)(hb:rg16 bs)(l:List Int)(h:∀x∈l,0≤x∧x<(n:Int))(h0:0≤frm)(h1:frm+(l.length:Int)<4096)(hw:0≤word∧word<4096):AllR (stackC rg sl bs frm word l) :=
 (outC_r hp hb l 0 h (by omega) (by omega)).app (.cons (r_li (by decide) (r_small (by omega))) (.cons (r_op (by decide) (by decide) (by decide) hb) (.one (r_st (by decide) (by decide) (r_small hw)))))
end
theorem roomC_r{base word need most E:Int}(hb:rg16 base)(hw:0≤word∧word<4096)(hn:0≤need∧need<4096)(hm:0≤most∧most<4096)(hE:0≤E∧E<4096):AllR (roomC base word need most E) :=
 .cons (r_ld hb (by decide) (r_small hw)) (.cons (r_li (by decide) (r_small hn)) (.cons (r_op (by decide) (by decide) hb (by decide)) (.cons (r_bz (.inr rfl) (by decide) (r_small hE)) (.cons (r_li (by decide) (r_small hm)) (.cons (r_op (by decide) (by decide) (by decide) hb) (.cons (r_bz (.inr rfl) (by decide) (r_small hE)) (.one (r_op (by decide) hb hb (by decide)))))))))
theorem emitC_r{c:List II}{od rd rg sl:List Int}{nd nr hd hr fl nx tg br tk ct:Int}(hR:RightP c od rd nd nr hd hr fl tg br ct (c.length:Int))(hi:∀x∈c,0≤x.2.2.2.2∧x.2.2.2.2<4294967296)(hp:PlB rg sl c.length)(hnx:u32P nx)(htk:u32P tk)(hct:u32P ct):AllR (emitC rg sl nd nr hd hr fl nx tg br tk ct c od rd)∧(emitC rg sl nd nr hd hr fl nx tg br tk ct c od rd).length≤4000∧0<(emitC rg sl nd nr hd hr fl nx tg br tk ct c od rd).length:=by
 have q3:=hR.nd_;have q4:=hR.nr_;have q5:=hR.hd_;have q6:=hR.hr_;have hlen:=hR.len;have e2:hrI (exitI 2):=r_exit ⟨by decide,by decide⟩;have l15:hrI (liI 15 0):=r_li (by decide) ⟨by decide,by decide⟩;unfold emitC
 by_cases g1:mostO nd hd (od.length:Int)<nd
 ·rw[if_pos g1];exact⟨.cons l15 (.one e2),by simp,by simp⟩
 ·rw[if_neg g1];have hmd:0≤mostO nd hd (od.length:Int)∧mostO nd hd (od.length:Int)<4096:=by unfold mostO at g1 ⊢;omega
  by_cases g2:mostO nr hr (rd.length:Int)<nr
  ·rw[if_pos g2];exact⟨.cons l15 ((roomC_r (by decide) (by decide) (by omega) hmd (by decide)).app (.one e2)),by simp[roomC],by simp⟩
  ·rw[if_neg g2];have hmr:0≤mostO nr hr (rd.length:Int)∧mostO nr hr (rd.length:Int)<4096:=by unfold mostO at g2 ⊢;omega
   have hodl:od.length≤16:=by unfold mostO at g1;omega
   have hrdl:rd.length≤16:=by unfold mostO at g2;omega
   have hmost:∀E,(fullC rg sl nd nr hd hr fl nx tg br tk ct c od rd E).length≤3000:=full_most (by omega) (by omega) (by omega);have hm0:=hmost 0;have hod:∀x∈od,0≤x∧x<(c.length:Int):=fun x hx=>by obtain⟨k,hk⟩:=aJ.1 hx;exact valB_iff2.1 (hR.od_ k x hk)
   have hrd:∀x∈rd,0≤x∧x<(c.length:Int):=fun x hx=>by obtain⟨k,hk⟩:=aJ.1 hx;exact valB_iff2.1 (hR.rd_ k x hk)
   have hfl9:fl = -1∨(0≤fl∧fl<(c.length:Int)):=hR.fl_.imp id fun h=>valB_iff2.1 h
   have htg9:tg = -1∨(0≤tg∧tg<(c.length:Int)):=hR.tg_.imp id fun h=>valB_iff2.1 h
   refine⟨AllR.app ?_ (.one e2),by have:=hmost ((fullC rg sl nd nr hd hr fl nx tg br tk ct c od rd 0).length:Int);simp;omega,by simp⟩
   have hmid:(midC rg sl nd nr fl nx c od rd).length≤3000:=by
    have h:(midC rg sl nd nr fl nx c od rd).length≤(fullC rg sl nd nr hd hr fl nx tg br tk ct c od rd 0).length:=by unfold fullC;simp;omega
    omega
   unfold fullC;refine AllR.app (.cons l15 ((roomC_r (by decide) (by decide) zo hmd (by constructor<;>(first|exact Int.natCast_nonneg _|(have:=hmost 0;unfold fullC at this;omega)))).app (roomC_r (by decide) (by decide) zo hmr (by constructor<;>(first|exact Int.natCast_nonneg _|(have:=hmost 0;unfold fullC at this;omega)))))) (AllR.app ?_ (AllR.app ?_ ?_))
   ·unfold midC;refine(bodyC_r hp hR.code hi q3 q4 c.length).app ((stackC_r hp (by decide) od hod (by decide) zo (by decide)).app ((stackC_r hp (by decide) rd hrd (by decide) zo (by decide)).app (AllR.app ?_ (.one (r_li (by decide) hnx)))));unfold flC;rcases hfl9 with rfl|⟨h0,h1⟩
    ·rw[if_neg (by decide)];exact AllR.nil
    ·rw[if_pos h0];exact .cons (r_li (by decide) ⟨by decide,by decide⟩) ((gC_r hp h0 h1 (by decide)).app (.cons (r_op (by decide) (by decide) (by decide) (gR_16 hp h0 h1 (by decide))) (.one (r_st (by decide) (by decide) ⟨by decide,by decide⟩))))
   ·unfold brC;split
    ·exact AllR.nil
    ·refine .cons (r_ld (by decide) (by decide) ⟨by decide,by decide⟩) (.cons (r_li (by decide) (r_small (by unfold bitO;(repeat' split)<;>omega))) (.cons (r_op (by decide) (by decide) (by decide) (by decide)) (.cons (r_bz (by split;exact .inr rfl;exact .inl rfl) (by decide) (r_small zo)) (.one (r_li (by decide) htk)))))
   ·unfold tailC;refine AllR.app ?_ (AllR.app (.cons (r_st (by decide) (by decide) ⟨by decide,by decide⟩) (.cons (r_li (by decide) hct) (.one (r_st (by decide) (by decide) ⟨by decide,by decide⟩)))) (.one (r_exit ⟨by decide,by decide⟩)));unfold tgC;rcases htg9 with rfl|⟨h0,h1⟩
    ·rw[if_neg (by decide)];exact AllR.nil
    ·rw[if_pos h0];exact(gC_r hp h0 h1 (by decide)).app (.one (r_mov (by decide) (gR_16 hp h0 h1 (by decide))))
theorem plb_of{l:List IV}{n:Nat}{rg sl:List Int}{slots:Int}(hp:PlanN l 7 n rg sl slots)(hn:n=l.length)(h64:n≤64):PlB rg sl n:=fun N hN=>by
 have h1:N<rg.length:=by rw[hp.lr];omega
 have h2:N<sl.length:=by rw[hp.ls];omega
 have g1:rg.getD N 0=rg[N]:=by rw[aj,ac h1];rfl
 have g2:sl.getD N 0=sl[N]:=by rw[aj,ac h2];rfl
 have h0:=hp.s0;rw[g1,g2];rcases hp.place N _ _ hN (ac h1) (ac h2)with⟨a,b,_⟩|⟨a,b,c⟩
 ·exact .inl ⟨a,by omega⟩
 ·exact .inr ⟨a,b,by omega⟩
abbrev mcL(g0 g1 g2 g3 g4 g5 g6 g7 g8 g9 g10 g11 g12 g13 g14 g15:Int)(w c:Value)(at9:Int):List Value:=[.int .u64 g0,.int .u64 g1,.int .u64 g2,.int .u64 g3,.int .u64 g4,.int .u64 g5,.int .u64 g6,.int .u64 g7,.int .u64 g8,.int .u64 g9,.int .u64 g10,.int .u64 g11,.int .u64 g12,.int .u64 g13,.int .u64 g14,.int .u64 g15,w,c,.int .i64 at9]
def layL(M:List Int)(f:Nat)(l:List Int):Nat→List Int
 |0=>M
 |k+1=>(layL M f l k).set (f+k) (l.getD k 0)
@[simp] theorem layL_len(M:List Int)(f:Nat)(l:List Int):∀k,(layL M f l k).length=M.length
 |0=>rfl
 |k+1=>by unfold layL;rw[aP];exact layL_len M f l k
def putM(M d r:List Int)(pc fl:Int):List Int:=(layL (layL ((((M.set 0 pc).set 1 fl).set 2 (d.length:Int)).set 3 (r.length:Int)) 4 d 16) 20 r 16).set 36 0
def takeM(M:List Int)(f n:Nat):List Int:=(List.range n).map fun k=>M.getD (f+k) 0
theorem takeM_succ(M:List Int)(f n:Nat):takeM M f n++[M.getD (f+n) 0]=takeM M f (n+1):=by unfold takeM;rw[List.range_succ,List.map_append];rfl
@[simp] theorem takeM_len(M:List Int)(f n:Nat):(takeM M f n).length=n:=by simp[takeM]
theorem getD_row{l:List Int}{k:Nat}{x:Int}(h:l[k]? = some x):l.getD k 0=x:=by rw[aj,h];rfl
theorem getD_out{l:List Int}{k:Nat}(h:l.length≤k):l.getD k 0=0:=by rw[aj,aV h];rfl
noncomputable def f39b:Code:=Tryz.f39.body.getD .skip
theorem words_s{g0 g1 g2 g3 g4 g5 g6 g7 g8 g9 g10 g11 g12 g13 g14 g15 at9:Int}{M:List Int}{K:List II}{kw kc wn:Nat}:SCall Tryz.prog T15 39 #[pT 0 0] (hq [oB 92 (mcL g0 g1 g2 g3 g4 g5 g6 g7 g8 g9 g10 g11 g12 g13 g14 g15 (sK 1 wn kw) (sK 2 K.length kc) at9),(uF M),(hhF K)]) fun v h=>v=jI (wn:Int)∧h=hq [oB 92 (mcL g0 g1 g2 g3 g4 g5 g6 g7 g8 g9 g10 g11 g12 g13 g14 g15 (sK 1 wn kw) (sK 2 K.length kc) at9),(uF M),(hhF K)]:=by
 refine zS Tryz.f39 f39b 8 3 fun X hX=>(sd_run 16 ?_)
 refine zY (jI (wn:Int)) hX i3_ ⟨rfl,rfl⟩
noncomputable def f45b:Code:=Tryz.f45.body.getD .skip
theorem word_s{g0 g1 g2 g3 g4 g5 g6 g7 g8 g9 g10 g11 g12 g13 g14 g15 at9:Int}{M:List Int}{K:List II}{kw kc wn:Nat}{i:Nat}(hwn:M.length=wn):SCall Tryz.prog T15 45 #[pT 0 0,jI (i:Int)] (hq [oB 92 (mcL g0 g1 g2 g3 g4 g5 g6 g7 g8 g9 g10 g11 g12 g13 g14 g15 (sK 1 wn kw) (sK 2 K.length kc) at9),(uF M),(hhF K)]) fun v h=>v=jU (M.getD i 0)∧h=hq [oB 92 (mcL g0 g1 g2 g3 g4 g5 g6 g7 g8 g9 g10 g11 g12 g13 g14 g15 (sK 1 wn kw) (sK 2 K.length kc) at9),(uF M),(hhF K)]:=by
 by_cases hiM:i<wn
 ·obtain⟨x9,hx9⟩:=zR M i;refine zS Tryz.f45 f45b 23 3 fun X hX=>(zF 10 6 ((i:Int)<0) (zF 8 14 ((i:Int)≥(wn:Int)) (zX 13 21 (pT 1 (0+i*1)) i wn (zL 0 22 (jU x9) 25 1 0 25 false uC_len hx9 (sd_see 22 (jU (M.getD i 0)) (see_int (x:=x9) kr (getD_row hx9).symm) (sd_run 4 ?_))))))
  refine zY (jU (M.getD i 0)) hX i3_ ⟨rfl,rfl⟩
 ·refine zS Tryz.f45 f45b 23 3 fun X hX=>(sd_run 3 (sd_see 4 (jU (M.getD i 0)) (see_int (x:=0) kr (getD_out zo).symm) (zF 7 6 ((i:Int)<0) (zT 8 14 ((i:Int)≥(wn:Int)) (sd_run 7 (sd_see 4 (jU (M.getD i 0)) (see_int (x:=0) kr (getD_out zo).symm) (sd_run 4 ?_)))))))
  refine zY (jU (M.getD i 0)) hX i3_ ⟨rfl,rfl⟩
noncomputable def f41b:Code:=Tryz.f41.body.getD .skip
theorem setw_s{g0 g1 g2 g3 g4 g5 g6 g7 g8 g9 g10 g11 g12 g13 g14 g15 at9:Int}{M:List Int}{K:List II}{kw kc wn:Nat}{i:Nat}{vv:Int}(hwn:M.length=wn)(hi:i<wn):SCall Tryz.prog T15 41 #[pT 0 0,jI (i:Int),jU vv] (hq [oB 92 (mcL g0 g1 g2 g3 g4 g5 g6 g7 g8 g9 g10 g11 g12 g13 g14 g15 (sK 1 wn kw) (sK 2 K.length kc) at9),(uF M),(hhF K)]) fun v h=>v=.bool true∧h=hq [oB 92 (mcL g0 g1 g2 g3 g4 g5 g6 g7 g8 g9 g10 g11 g12 g13 g14 g15 (sK 1 wn kw) (sK 2 K.length kc) at9),(uF (M.set i vv)),(hhF K)]:=by
 refine zS Tryz.f41 f41b 25 3 fun X hX=>(zF 10 8 ((i:Int)<0) (zF 8 16 ((i:Int)≥(wn:Int)) (zX 14 24 (pT 1 (0+i*1)) i wn ?_)))
 obtain⟨a1,ha1⟩:=zR M i;refine sd_st 25 1 (0+i*1) (jU vv) (tab uC ((M).set i vv)) (cells:=tab uC M) (e:=25) kr kr kr kr (st_cell (k:=i) (j:=0) (a':=vv) uC_len kr kr ha1 kr rfl) (sd_run 8 ?_);refine sdY (.bool true) hX [oB 92 (mcL g0 g1 g2 g3 g4 g5 g6 g7 g8 g9 g10 g11 g12 g13 g14 g15 (sK 1 wn kw) (sK 2 K.length kc) at9),(uF (M.set i vv)),(hhF K)] i3_ ⟨brn,bk_flat (tab uC ((M).set i vv)) kr (tab_plain uC_pl _) (by rfl),hhC_b,⟨⟩⟩ ⟨rfl,rfl⟩
noncomputable def f42b:Code:=Tryz.f42.body.getD .skip
theorem lay_s{g0 g1 g2 g3 g4 g5 g6 g7 g8 g9 g10 g11 g12 g13 g14 g15 at9:Int}{M:List Int}{K:List II}{kw kc wn:Nat}{f ka:Nat}{l lj:List Int}{ro:Bool}(hwn:M.length=wn)(hf:f+16≤wn)(hml:wn<100000)(hll:l.length<4611686018427387904):SCall Tryz.prog T15 42 #[pT 0 0,jI (f:Int),sK 3 l.length ka] (hq [oB 92 (mcL g0 g1 g2 g3 g4 g5 g6 g7 g8 g9 g10 g11 g12 g13 g14 g15 (sK 1 wn kw) (sK 2 K.length kc) at9),(uF M),(hhF K),(uCo (l++lj) ro)]) fun v h=>v=.tuple #[]∧h=hq [oB 92 (mcL g0 g1 g2 g3 g4 g5 g6 g7 g8 g9 g10 g11 g12 g13 g14 g15 (sK 1 wn kw) (sK 2 K.length kc) at9),(uF (layL M f l 16)),(hhF K),(uCo (l++lj) ro)]:=by
 refine zS Tryz.f42 f42b 26 4 fun X hX=>(sd_run 6 (sd_loop 26 (cl (cl (cr f42b))) [.blk 0] kr kr kr (fun m9 s9=>∃(k:Nat),m9=16-k∧(k≤16)∧s9=⟨tmL [(0,pT 0 0),(1,jI (f:Int)),(2,sK 3 l.length ka),(8,jI (k:Int))],hq [oB 92 (mcL g0 g1 g2 g3 g4 g5 g6 g7 g8 g9 g10 g11 g12 g13 g14 g15 (sK 1 wn kw) (sK 2 K.length kc) at9),(uF (layL M f l k)),(hhF K),(uCo (l++lj) ro)]⟩) (16-0) _ e4_ hX ⟨0,rfl,zo,rfl⟩ ⟨sub_of kr kr ⟨brn,bk_flat (tab uC M) kr (tab_plain uC_pl _) (congrArg (tab uC) (by rfl)),hhC_b,uC_b,⟨⟩⟩,zt⟩ kr ?_))
 rintro m9 s9 ⟨k,rfl,i1_0,rfl⟩ R1_ hR1_
 by_cases hlt:k<16
 ·by_cases hkl:k<l.length
  ·obtain⟨a1,ha1⟩:=zR l k;refine zT 3 9 ((k:Int)<16) (zT 26 14 ((k:Int)<(l.length:Int)) (zX 6 17 (pT 3 (0+k*1)) k l.length (sd_ld 18 (jU a1) 25 (pT 3 (0+k*1)) kr kr kr (ld_cell (l:=l++lj) (e:=25) (ro:=ro) (k:=k) (j:=0) uC_len kr kr kr (app_at ha1) rfl) (sd_run 8 (zI 0 22 .i64 ((f+k:Nat):Int) (IntKind.i64.wrap ((f:Int)+(k:Int))) (sd_run 1 (sdC 24 41 #[pT 0 0,jI (((f+k):Nat):Int),jU a1] (@setw_s g0 g1 g2 g3 g4 g5 g6 g7 g8 g9 g10 g11 g12 g13 g14 g15 at9 (layL M f l k) K kw kc wn (f+k) a1 (by simp;omega) zo) i3_ ⟨brn,uC_b,hhC_b,⟨⟩⟩ ?_)))))));rintro Y v9 k9 ⟨rfl,rfl⟩;refine mkG (.bool true) [oB 92 (mcL g0 g1 g2 g3 g4 g5 g6 g7 g8 g9 g10 g11 g12 g13 g14 g15 (sK 1 wn kw) (sK 2 K.length kc) at9),(uF ((layL M f l k).set (f+k) a1)),(hhF K),(uCo (l++lj) ro)] ⟨cvs 0 Y,uC_c 1,cvs 2 Y,cvo,⟨⟩⟩ ?_;refine zI 5 25 .i64 ((k+1:Nat):Int) (IntKind.i64.wrap ((k:Int)+1)) (sd_run 2 ?_);refine sd_inv R1_ kr (hR1_ _ (16-(k+1)) _ e4_ zo ⟨k+1,rfl,zo,rfl⟩ ⟨sub_of kr kr ⟨brn,bk_flat (tab uC ((layL M f l k).set (f+k) a1)) kr (tab_plain uC_pl _) (congrArg (tab uC) (by show _=(layL M f l k).set (f+k) (l.getD k 0);rw[getD_row ha1])),hhC_b,uC_b,⟨⟩⟩,zt⟩ kr)
  ·refine zT 3 9 ((k:Int)<16) (zF 26 14 ((k:Int)<(l.length:Int)) (zI 10 22 .i64 ((f+k:Nat):Int) (IntKind.i64.wrap ((f:Int)+(k:Int))) (sd_run 1 (sdC 24 41 #[pT 0 0,jI (((f+k):Nat):Int),jU 0] (@setw_s g0 g1 g2 g3 g4 g5 g6 g7 g8 g9 g10 g11 g12 g13 g14 g15 at9 (layL M f l k) K kw kc wn (f+k) 0 (by simp;omega) zo) i3_ ⟨brn,uC_b,hhC_b,⟨⟩⟩ ?_))));rintro Y v9 k9 ⟨rfl,rfl⟩;refine mkG (.bool true) [oB 92 (mcL g0 g1 g2 g3 g4 g5 g6 g7 g8 g9 g10 g11 g12 g13 g14 g15 (sK 1 wn kw) (sK 2 K.length kc) at9),(uF ((layL M f l k).set (f+k) 0)),(hhF K),(uCo (l++lj) ro)] ⟨cvs 0 Y,uC_c 1,cvs 2 Y,cvo,⟨⟩⟩ ?_;refine zI 5 25 .i64 ((k+1:Nat):Int) (IntKind.i64.wrap ((k:Int)+1)) (sd_run 2 ?_);refine sd_inv R1_ kr (hR1_ _ (16-(k+1)) _ e4_ zo ⟨k+1,rfl,zo,rfl⟩ ⟨sub_of kr kr ⟨brn,bk_flat (tab uC ((layL M f l k).set (f+k) 0)) kr (tab_plain uC_pl _) (congrArg (tab uC) (by show _=(layL M f l k).set (f+k) (l.getD k 0);rw[getD_out zo])),hhC_b,uC_b,⟨⟩⟩,zt⟩ kr)
 ·obtain rfl:k=16:=by omega
  refine zF 3 9 (((16:Nat):Int)<16) (sd_run 8 ?_);refine sdY (.tuple #[]) hX [oB 92 (mcL g0 g1 g2 g3 g4 g5 g6 g7 g8 g9 g10 g11 g12 g13 g14 g15 (sK 1 wn kw) (sK 2 K.length kc) at9),(uF (layL M f l 16)),(hhF K),(uCo (l++lj) ro)] i4_ ⟨brn,uC_b,hhC_b,uC_b,⟨⟩⟩ ⟨rfl,rfl⟩
noncomputable def f17b:Code:=Tryz.f17.body.getD .skip
theorem eput_ok{g0 g1 g2 g3 g4 g5 g6 g7 g8 g9 g10 g11 g12 g13 g14 g15 at9:Int}{M:List Int}{K:List II}{kw kc wn:Nat}{q:Sx}{d dj r rj:List Int}{ro:Bool}{ka kb:Nat}(hwn:M.length=wn)(h256:wn=256)(hok:stOk d r q.fl=true):SCall Tryz.prog T15 17 #[pT 0 0,(stq q q.pc (sK 3 d.length ka) (sK 4 r.length kb) q.fl q.cnt)] (hq [oB 92 (mcL g0 g1 g2 g3 g4 g5 g6 g7 g8 g9 g10 g11 g12 g13 g14 g15 (sK 1 wn kw) (sK 2 K.length kc) at9),(uF M),(hhF K),(uCo (d++dj) ro),(uCo (r++rj) ro)]) fun v h=>v=.bool true∧h=hq [oB 92 (mcL g0 g1 g2 g3 g4 g5 g6 g7 g8 g9 g10 g11 g12 g13 g14 g15 (sK 1 wn kw) (sK 2 K.length kc) at9),(uF (putM M d r q.pc q.fl)),(hhF K),(uCo (d++dj) ro),(uCo (r++rj) ro)]:=by
 have hok9:=hok;simp only[stOk,ab,ap]at hok9;obtain⟨hd9,hr9,hf9⟩:=hok9;refine zS Tryz.f17 f17b 47 5 fun X hX=>(sd_run 13 (zG 9 39 #[pT 0 0] (@words_s g0 g1 g2 g3 g4 g5 g6 g7 g8 g9 g10 g11 g12 g13 g14 g15 at9 M K kw kc wn ) i3_ ?_))
 rintro v9 k9 ⟨rfl,rfl⟩;refine⟨rfl,jI (wn:Int),kr,?_⟩;refine zQ 1 10 (wn:Int) 256 (sd_run 3 (zG 14 40 #[(stq q q.pc (sK 3 d.length ka) (sK 4 r.length kb) q.fl q.cnt)] (@stright_s q d dj r rj ka kb ro ) [some 3,some 4] ?_));rintro v9 k9 ⟨rfl,rfl⟩;refine⟨rfl,.bool (stOk d r q.fl),kr,?_⟩;refine sd_see 14 (.bool true) (see_bool kr hok) (sd_run 12 (zC 20 41 #[pT 0 0,jI 0,jU q.pc] (@setw_s g0 g1 g2 g3 g4 g5 g6 g7 g8 g9 g10 g11 g12 g13 g14 g15 at9 M K kw kc wn 0 q.pc zo zo) i3_ ?_));rintro Y v9 k9 ⟨rfl,rfl⟩;refine mkG (.bool true) [oB 92 (mcL g0 g1 g2 g3 g4 g5 g6 g7 g8 g9 g10 g11 g12 g13 g14 g15 (sK 1 wn kw) (sK 2 K.length kc) at9),(uF (M.set 0 q.pc)),(hhF K),(uCo (d++dj) ro),(uCo (r++rj) ro),oB 29 (slq q q.pc (sK 3 d.length ka) (sK 4 r.length kb) q.fl q.cnt)] ⟨cvs 0 Y,uC_c 1,cvs 2 Y,cvo,cvo,cvo,⟨⟩⟩ ?_;refine sd_run 7 (zC 24 41 #[pT 0 0,jI 1,jU q.fl] (@setw_s g0 g1 g2 g3 g4 g5 g6 g7 g8 g9 g10 g11 g12 g13 g14 g15 at9 (M.set 0 q.pc) K kw kc wn 1 q.fl zo zo) i3_ ?_);rintro Y v9 k9 ⟨rfl,rfl⟩;refine mkG (.bool true) [oB 92 (mcL g0 g1 g2 g3 g4 g5 g6 g7 g8 g9 g10 g11 g12 g13 g14 g15 (sK 1 wn kw) (sK 2 K.length kc) at9),(uF ((M.set 0 q.pc).set 1 q.fl)),(hhF K),(uCo (d++dj) ro),(uCo (r++rj) ro),oB 29 (slq q q.pc (sK 3 d.length ka) (sK 4 r.length kb) q.fl q.cnt)] ⟨cvs 0 Y,uC_c 1,cvs 2 Y,cvo,cvo,cvo,⟨⟩⟩ ?_
 refine zI 9 29 .u32 (d.length:Int) (IntKind.u32.wrap (d.length:Int)) (zC 30 41 #[pT 0 0,jI 2,jU (d.length:Int)] (@setw_s g0 g1 g2 g3 g4 g5 g6 g7 g8 g9 g10 g11 g12 g13 g14 g15 at9 ((M.set 0 q.pc).set 1 q.fl) K kw kc wn 2 (d.length:Int) zo zo) i3_ ?_);rintro Y v9 k9 ⟨rfl,rfl⟩;refine mkG (.bool true) [oB 92 (mcL g0 g1 g2 g3 g4 g5 g6 g7 g8 g9 g10 g11 g12 g13 g14 g15 (sK 1 wn kw) (sK 2 K.length kc) at9),(uF (((M.set 0 q.pc).set 1 q.fl).set 2 (d.length:Int))),(hhF K),(uCo (d++dj) ro),(uCo (r++rj) ro),oB 29 (slq q q.pc (sK 3 d.length ka) (sK 4 r.length kb) q.fl q.cnt)] ⟨cvs 0 Y,uC_c 1,cvs 2 Y,cvo,cvo,cvo,⟨⟩⟩ ?_;refine zI 9 35 .u32 (r.length:Int) (IntKind.u32.wrap (r.length:Int)) (zC 36 41 #[pT 0 0,jI 3,jU (r.length:Int)] (@setw_s g0 g1 g2 g3 g4 g5 g6 g7 g8 g9 g10 g11 g12 g13 g14 g15 at9 (((M.set 0 q.pc).set 1 q.fl).set 2 (d.length:Int)) K kw kc wn 3 (r.length:Int) zo zo) i3_ ?_);rintro Y v9 k9 ⟨rfl,rfl⟩;refine mkG (.bool true) [oB 92 (mcL g0 g1 g2 g3 g4 g5 g6 g7 g8 g9 g10 g11 g12 g13 g14 g15 (sK 1 wn kw) (sK 2 K.length kc) at9),(uCo ((((M.set 0 q.pc).set 1 q.fl).set 2 (d.length:Int)).set 3 (r.length:Int)) false),(hhF K),(uCo (d++dj) ro),(uCo (r++rj) ro),oB 29 (slq q q.pc (sK 3 d.length ka) (sK 4 r.length kb) q.fl q.cnt)] ⟨cvs 0 Y,uC_c 1,cvs 2 Y,cvo,cvo,cvo,⟨⟩⟩ ?_
 refine sd_run 7 (zC 40 42 #[pT 0 0,jI 4,sK 3 d.length ka] (@lay_s g0 g1 g2 g3 g4 g5 g6 g7 g8 g9 g10 g11 g12 g13 g14 g15 at9 ((((M.set 0 q.pc).set 1 q.fl).set 2 (d.length:Int)).set 3 (r.length:Int)) K kw kc wn 4 ka d dj ro zo zo zo zo) i4_ ?_);rintro Y v9 k9 ⟨rfl,rfl⟩;refine mkG (.tuple #[]) [oB 92 (mcL g0 g1 g2 g3 g4 g5 g6 g7 g8 g9 g10 g11 g12 g13 g14 g15 (sK 1 wn kw) (sK 2 K.length kc) at9),(uCo (layL ((((M.set 0 q.pc).set 1 q.fl).set 2 (d.length:Int)).set 3 (r.length:Int)) 4 d 16) false),(hhF K),(uCo (d++dj) ro),(uCo (r++rj) ro),oB 29 (slq q q.pc (sK 3 d.length ka) (sK 4 r.length kb) q.fl q.cnt)] ⟨cvs 0 Y,uC_c 1,cvs 2 Y,cvs 3 Y,cvo,cvo,⟨⟩⟩ ?_;refine sd_run 7 (sdC 44 42 #[pT 0 0,jI 20,sK 4 r.length kb] (@lay_s g0 g1 g2 g3 g4 g5 g6 g7 g8 g9 g10 g11 g12 g13 g14 g15 at9 (layL ((((M.set 0 q.pc).set 1 q.fl).set 2 (d.length:Int)).set 3 (r.length:Int)) 4 d 16) K kw kc wn 20 kb r rj ro zo zo zo zo) (eM [1,2,3,5]) ⟨brn,uC_b,hhC_b,uC_b,⟨⟩⟩ ?_);rintro Y v9 k9 ⟨rfl,rfl⟩;refine mkG (.tuple #[]) [oB 92 (mcL g0 g1 g2 g3 g4 g5 g6 g7 g8 g9 g10 g11 g12 g13 g14 g15 (sK 1 wn kw) (sK 2 K.length kc) at9),(uCo (layL (layL ((((M.set 0 q.pc).set 1 q.fl).set 2 (d.length:Int)).set 3 (r.length:Int)) 4 d 16) 20 r 16) false),(hhF K),(uCo (d++dj) ro),(uCo (r++rj) ro),oB 29 (slq q q.pc (sK 3 d.length ka) (sK 4 r.length kb) q.fl q.cnt)] ⟨cvs 0 Y,uC_c 1,cvs 2 Y,cvo,cvs 3 Y,cvo,⟨⟩⟩ ?_
 refine sd_run 5 (sdC 46 41 #[pT 0 0,jI 36,jU 0] (@setw_s g0 g1 g2 g3 g4 g5 g6 g7 g8 g9 g10 g11 g12 g13 g14 g15 at9 (layL (layL ((((M.set 0 q.pc).set 1 q.fl).set 2 (d.length:Int)).set 3 (r.length:Int)) 4 d 16) 20 r 16) K kw kc wn 36 0 zo zo) i3_ ⟨brn,uC_b,hhC_b,⟨⟩⟩ ?_);rintro Y v9 k9 ⟨rfl,rfl⟩;refine mkG (.bool true) [oB 92 (mcL g0 g1 g2 g3 g4 g5 g6 g7 g8 g9 g10 g11 g12 g13 g14 g15 (sK 1 wn kw) (sK 2 K.length kc) at9),(uCo ((layL (layL ((((M.set 0 q.pc).set 1 q.fl).set 2 (d.length:Int)).set 3 (r.length:Int)) 4 d 16) 20 r 16).set 36 0) false),(hhF K),(uCo (d++dj) ro),(uCo (r++rj) ro),oB 29 (slq q q.pc (sK 3 d.length ka) (sK 4 r.length kb) q.fl q.cnt)] ⟨cvs 0 Y,uC_c 1,cvs 2 Y,cvo,cvo,cvo,⟨⟩⟩ ?_;refine sd_run 8 ?_;refine sdY (.bool true) hX [oB 92 (mcL g0 g1 g2 g3 g4 g5 g6 g7 g8 g9 g10 g11 g12 g13 g14 g15 (sK 1 wn kw) (sK 2 K.length kc) at9),(uF (putM M d r q.pc q.fl)),(hhF K),(uCo (d++dj) ro),(uCo (r++rj) ro)] i5_ ⟨brn,bk_flat (tab uC ((layL (layL ((((M.set 0 q.pc).set 1 q.fl).set 2 (d.length:Int)).set 3 (r.length:Int)) 4 d 16) 20 r 16).set 36 0)) kr (tab_plain uC_pl _) (congrArg (tab uC) (by rfl)),hhC_b,uC_b,uC_b,⟨⟩⟩ ⟨rfl,rfl⟩
noncomputable def f46b:Code:=Tryz.f46.body.getD .skip
theorem taken_s{g0 g1 g2 g3 g4 g5 g6 g7 g8 g9 g10 g11 g12 g13 g14 g15 at9:Int}{M:List Int}{K:List II}{kw kc wn:Nat}{f n:Nat}(hwn:M.length=wn)(hf:f<1000)(hn:n≤16):SCall Tryz.prog T15 46 #[pT 0 0,jI (f:Int),jU (n:Int)] (hq [oB 92 (mcL g0 g1 g2 g3 g4 g5 g6 g7 g8 g9 g10 g11 g12 g13 g14 g15 (sK 1 wn kw) (sK 2 K.length kc) at9),(uF M),(hhF K)]) fun v h=>v=(s1 3 ((takeM M f n).length))∧h=hq [oB 92 (mcL g0 g1 g2 g3 g4 g5 g6 g7 g8 g9 g10 g11 g12 g13 g14 g15 (sK 1 wn kw) (sK 2 K.length kc) at9),(uF M),(hhF K),(uF (takeM M f n))]:=by
 refine zS Tryz.f46 f46b 24 3 fun X hX=>(zI 15 10 .i64 (n:Int) (IntKind.i64.wrap (n:Int)) (sd_run 4 (sd_loop 24 (cl (cl (cr (cl (cr (cr f46b)))))) [.blk 0,.next (cr (cr (cr f46b)))] kr kr kr (fun m9 s9=>∃(k:Nat),m9=n-k∧(k≤n)∧s9=⟨tmL [(0,pT 0 0),(1,jI (f:Int)),(7,(s1 3 ((takeM M f k).length))),(10,jI (n:Int)),(11,jI (k:Int))],hq [oB 92 (mcL g0 g1 g2 g3 g4 g5 g6 g7 g8 g9 g10 g11 g12 g13 g14 g15 (sK 1 wn kw) (sK 2 K.length kc) at9),(uF M),(hhF K),(uF (takeM M f k))]⟩) (n-0) _ (emOf (eM [1,2,3,0])) hX ⟨0,rfl,zo,rfl⟩ ⟨zs,zt⟩ kr ?_)))
 rintro m9 s9 ⟨k,rfl,i1_0,rfl⟩ R1_ hR1_
 by_cases hlt:k<n
 ·have htl:(takeM M f k).length=k:=by simp
  refine zT 3 12 ((k:Int)<(n:Int)) (zI 20 18 .i64 ((f+k:Nat):Int) (IntKind.i64.wrap ((f:Int)+(k:Int))) (zG 19 45 #[pT 0 0,jI (((f+k):Nat):Int)] (@word_s g0 g1 g2 g3 g4 g5 g6 g7 g8 g9 g10 g11 g12 g13 g14 g15 at9 M K kw kc wn (f+k) hwn) i3_ ?_));rintro v9 k9 ⟨rfl,rfl⟩;refine⟨rfl,jU (M.getD (f+k) 0),kr,?_⟩;refine sd_run 1 (sd_grow 21 26 26 25 0 3 3 ((takeM M f k).length) 1 5 (sK 4 1 1) (tab uC (takeM M f k)) [jU (M.getD (f+k) 0)] (tab uC ((takeM M f k)++[(M.getD (f+k) 0)])) kr kr kr kr kr ((tab_len uC_len _).trans (by first|rfl|(simp only[ar,ay,aL,aP]at *;done))) kr kr (by decide) kr zo kr (tab_snoc (takeM M f k) (M.getD (f+k) 0)) (sd_see 21 (s1 5 (((takeM M f k)++[(M.getD (f+k) 0)]).length)) (see_len (n:=((takeM M f k).length+1)) kr (by simp)) (zI 6 22 .i64 ((k+1:Nat):Int) (IntKind.i64.wrap ((k:Int)+1)) (sd_run 2 (sd_see 7 (s1 5 ((takeM M f (k+1)).length)) (see_len (n:=((takeM M f k)++[(M.getD (f+k) 0)]).length) kr (by simp)) ?_)))));refine sd_inv R1_ kr (hR1_ _ (n-(k+1)) _ (emOf (eM [1,2,3,6])) zo ⟨k+1,rfl,zo,rfl⟩ ⟨sub_of kr kr ⟨brn,uC_b,hhC_b,bk_flat (tab uC ((takeM M f k)++[(M.getD (f+k) 0)])) kr (tab_plain uC_pl _) (congrArg (tab uC) (takeM_succ M f k)),⟨⟩⟩,zt⟩ kr)
 ·obtain rfl:n=k:=by omega
  refine zF 3 12 ((n:Int)<(n:Int)) (sd_run 16 ?_);refine zY (s1 3 ((takeM M f n).length)) hX i4_ ⟨rfl,rfl⟩
noncomputable def f20b:Code:=Tryz.f20.body.getD .skip
set_option maxHeartbeats 1000000 in
theorem eget_ok{g0 g1 g2 g3 g4 g5 g6 g7 g8 g9 g10 g11 g12 g13 g14 g15 at9:Int}{M:List Int}{K:List II}{kw kc wn:Nat}{q:Sx}{d dj r rj:List Int}{ro:Bool}{ka kb:Nat}{n2 n3:Nat}(hwn:M.length=wn)(hdb:d.length*4≤140737488355328)(hrb:r.length*4≤140737488355328)(hM:∀i,0≤M.getD i 0∧M.getD i 0<4294967296)(h256:wn=256)(h2:(M.getD 2 0)=(n2:Int))(h3:(M.getD 3 0)=(n3:Int))(h2b:n2≤16)(h3b:n3≤16)(h1:(M.getD 1 0)≤15):SCall Tryz.prog T15 20 #[pT 0 0,(stq q q.pc (sK 3 d.length ka) (sK 4 r.length kb) q.fl q.cnt)] (hq [oB 92 (mcL g0 g1 g2 g3 g4 g5 g6 g7 g8 g9 g10 g11 g12 g13 g14 g15 (sK 1 wn kw) (sK 2 K.length kc) at9),(uF M),(hhF K),(uCo (d++dj) ro),(uCo (r++rj) ro)]) fun v h=>v=.tuple #[(stq q (M.getD 0 0) (s1 5 ((takeM M 4 n2).length)) (s1 6 ((takeM M 20 n3).length)) (M.getD 1 0) (IntKind.u64.wrap (q.cnt+(M.getD 36 0)))),.bool true]∧h=hq [oB 92 (mcL g0 g1 g2 g3 g4 g5 g6 g7 g8 g9 g10 g11 g12 g13 g14 g15 (sK 1 wn kw) (sK 2 K.length kc) at9),(uF M),(hhF K),(uCo (d++dj) ro),(uCo (r++rj) ro),(uF (takeM M 4 n2)),(uF (takeM M 20 n3))]:=by
 have hM36:=hM 36;refine zS Tryz.f20 f20b 55 5 fun X hX=>(sd_run 10 (zC 7 37 #[(stq q q.pc (sK 3 d.length ka) (sK 4 r.length kb) q.fl q.cnt)] (@copy_s q d dj r rj ka kb ro hdb hrb) [some 3,some 4] ?_))
 rintro Y v9 k9 ⟨rfl,rfl⟩;refine mkG (stq q q.pc (s1 7 d.length) (s1 8 r.length) q.fl q.cnt) [oB 92 (mcL g0 g1 g2 g3 g4 g5 g6 g7 g8 g9 g10 g11 g12 g13 g14 g15 (sK 1 wn kw) (sK 2 K.length kc) at9),(uF M),(hhF K),(uCo (d++dj) ro),(uCo (r++rj) ro),oB 29 (slq q q.pc (sK 3 d.length ka) (sK 4 r.length kb) q.fl q.cnt),oB 29 (slw 0 nS nS 0 false false false 0 0 0 0 0 false false 0 false),(uF d),(uF r)] ⟨cvo,cvo,cvo,cvs 0 Y,cvs 1 Y,cvo,cvo,uC_c 2,uC_c 3,⟨⟩⟩ ?_;refine sd_run 10 (zG 12 39 #[pT 0 0] (@words_s g0 g1 g2 g3 g4 g5 g6 g7 g8 g9 g10 g11 g12 g13 g14 g15 at9 M K kw kc wn ) i3_ ?_);rintro v9 k9 ⟨rfl,rfl⟩;refine⟨rfl,jI (wn:Int),kr,?_⟩;refine zQ 1 13 (wn:Int) 256 (sd_run 3 (zG 17 45 #[pT 0 0,jI 2] (@word_s g0 g1 g2 g3 g4 g5 g6 g7 g8 g9 g10 g11 g12 g13 g14 g15 at9 M K kw kc wn 2 hwn) i3_ ?_));rintro v9 k9 ⟨rfl,rfl⟩;refine⟨rfl,jU (M.getD 2 0),kr,?_⟩;refine sd_run 1 (sd_see 18 (.bool false) (see_bool (x:=(decide (((M.getD 2 0):Int)>16))) kr (aD zo)) (sd_run 3 (zG 22 45 #[pT 0 0,jI 3] (@word_s g0 g1 g2 g3 g4 g5 g6 g7 g8 g9 g10 g11 g12 g13 g14 g15 at9 M K kw kc wn 3 hwn) i3_ ?_)));rintro v9 k9 ⟨rfl,rfl⟩;refine⟨rfl,jU (M.getD 3 0),kr,?_⟩;refine sd_run 1 (sd_see 23 (.bool false) (see_bool (x:=(decide (((M.getD 3 0):Int)>16))) kr (aD zo)) (sd_run 3 (zG 27 45 #[pT 0 0,jI 1] (@word_s g0 g1 g2 g3 g4 g5 g6 g7 g8 g9 g10 g11 g12 g13 g14 g15 at9 M K kw kc wn 1 hwn) i3_ ?_)));rintro v9 k9 ⟨rfl,rfl⟩;refine⟨rfl,jU (M.getD 1 0),kr,?_⟩
 refine sd_run 1 (sd_see 28 (.bool false) (see_bool (x:=(decide (((M.getD 1 0):Int)>15))) kr (aD zo)) (sd_run 9 (zG 32 45 #[pT 0 0,jI 0] (@word_s g0 g1 g2 g3 g4 g5 g6 g7 g8 g9 g10 g11 g12 g13 g14 g15 at9 M K kw kc wn 0 hwn) i3_ ?_)));rintro v9 k9 ⟨rfl,rfl⟩;refine⟨rfl,jU (M.getD 0 0),kr,?_⟩;refine sd_run 1 (zG 34 45 #[pT 0 0,jI 1] (@word_s g0 g1 g2 g3 g4 g5 g6 g7 g8 g9 g10 g11 g12 g13 g14 g15 at9 M K kw kc wn 1 hwn) i3_ ?_);rintro v9 k9 ⟨rfl,rfl⟩;refine⟨rfl,jU (M.getD 1 0),kr,?_⟩;refine sd_run 10 (zG 39 45 #[pT 0 0,jI 2] (@word_s g0 g1 g2 g3 g4 g5 g6 g7 g8 g9 g10 g11 g12 g13 g14 g15 at9 M K kw kc wn 2 hwn) i3_ ?_);rintro v9 k9 ⟨rfl,rfl⟩;refine⟨rfl,jU (M.getD 2 0),kr,?_⟩;refine sd_see 39 (jU (n2:Int)) (see_int (x:=(M.getD 2 0)) kr h2) (zC 40 46 #[pT 0 0,jI 4,jU (n2:Int)] (@taken_s g0 g1 g2 g3 g4 g5 g6 g7 g8 g9 g10 g11 g12 g13 g14 g15 at9 M K kw kc wn 4 n2 hwn (by decide) zo) i3_ ?_);rintro Y v9 k9 ⟨rfl,rfl⟩;refine mkG (s1 9 ((takeM M 4 n2).length)) [oB 92 (mcL g0 g1 g2 g3 g4 g5 g6 g7 g8 g9 g10 g11 g12 g13 g14 g15 (sK 1 wn kw) (sK 2 K.length kc) at9),(uF M),(hhF K),(uCo (d++dj) ro),(uCo (r++rj) ro),oB 29 (slq q (M.getD 0 0) (s1 7 d.length) (s1 8 r.length) (M.getD 1 0) q.cnt),oB 29 (slw 0 nS nS 0 false false false 0 0 0 0 0 false false 0 false),(uF d),(uF r),(uF (takeM M 4 n2))] ⟨cvs 0 Y,cvs 1 Y,cvs 2 Y,cvo,cvo,cvo,cvo,cvo,cvo,uC_c 3,⟨⟩⟩ ?_
 refine sd_run 2 (zG 43 45 #[pT 0 0,jI 3] (@word_s g0 g1 g2 g3 g4 g5 g6 g7 g8 g9 g10 g11 g12 g13 g14 g15 at9 M K kw kc wn 3 hwn) i3_ ?_);rintro v9 k9 ⟨rfl,rfl⟩;refine⟨rfl,jU (M.getD 3 0),kr,?_⟩;refine sd_see 43 (jU (n3:Int)) (see_int (x:=(M.getD 3 0)) kr h3) (zC 44 46 #[pT 0 0,jI 20,jU (n3:Int)] (@taken_s g0 g1 g2 g3 g4 g5 g6 g7 g8 g9 g10 g11 g12 g13 g14 g15 at9 M K kw kc wn 20 n3 hwn (by decide) zo) i3_ ?_);rintro Y v9 k9 ⟨rfl,rfl⟩;refine mkG (s1 10 ((takeM M 20 n3).length)) [oB 92 (mcL g0 g1 g2 g3 g4 g5 g6 g7 g8 g9 g10 g11 g12 g13 g14 g15 (sK 1 wn kw) (sK 2 K.length kc) at9),(uF M),(hhF K),(uCo (d++dj) ro),(uCo (r++rj) ro),oB 29 (slq q (M.getD 0 0) (s1 7 d.length) (s1 8 r.length) (M.getD 1 0) q.cnt),oB 29 (slw 0 nS nS 0 false false false 0 0 0 0 0 false false 0 false),(uF d),(uF r),(uF (takeM M 4 n2)),(uF (takeM M 20 n3))] ⟨cvs 0 Y,cvs 1 Y,cvs 2 Y,cvo,cvo,cvo,cvo,cvo,cvo,cvo,uC_c 3,⟨⟩⟩ ?_;refine sd_run 7 (sd_drawQ [(1,3)] kr kr ?_);refine sq_run 1 ?_;refine sq_rd 48 (.int .u64 q.cnt) (pT 5 14) 27 kr kr kr kr (veq_int _ _) kr ?_;refine sq_run 1 ?_;refine sq_callp 50 45 #[pT 0 0,jI 36] (@word_s g0 g1 g2 g3 g4 g5 g6 g7 g8 g9 g10 g11 g12 g13 g14 g15 at9 M K kw kc wn 36 hwn) (eM [1,2,3]) kr kr kr (hn_of 0 kr ⟨brn,uC_b,hhC_b,⟨⟩⟩) kr ⟨kr,kr,kr⟩ ?_;rintro v9 k9 ⟨rfl,rfl⟩;refine⟨rfl,jU (M.getD 36 0),kr,?_⟩;refine sq_run 1 ?_
 refine sq_see 51 (.int .u64 (M.getD 36 0)) (see_int (x:=IntKind.u64.wrap (M.getD 36 0)) kr (wu64 rfl zo zo)) ?_;refine sq_run 3 ?_;refine sq_end kr ?_;refine sd_run 9 ?_;refine zZ (.tuple #[(stq q (M.getD 0 0) (s1 9 ((takeM M 4 n2).length)) (s1 10 ((takeM M 20 n3).length)) (M.getD 1 0) (IntKind.u64.wrap (q.cnt+(M.getD 36 0)))),.bool true]) hX (.tuple #[(stq q (M.getD 0 0) (s1 5 ((takeM M 4 n2).length)) (s1 6 ((takeM M 20 n3).length)) (M.getD 1 0) (IntKind.u64.wrap (q.cnt+(M.getD 36 0)))),.bool true]) (eM [1,2,3,4,5,10,11]) ⟨rfl,rfl⟩
theorem getD_set(M:List Int)(i j:Nat)(v:Int):(M.set i v).getD j 0=if i=j∧j<M.length then v else M.getD j 0:=by
 rw[aj,eA]
 by_cases h:i=j
 ·subst h
  by_cases h2:i<M.length
  ·rw[if_pos rfl,if_pos h2,if_pos ⟨rfl,h2⟩];rfl
  ·rw[if_pos rfl,if_neg h2,if_neg (fun q=>h2 q.2),aj,aV (by omega)]
 ·rw[if_neg h,if_neg (fun q=>h q.1),aj]
theorem layL_get(M:List Int)(f:Nat)(l:List Int)(j:Nat):∀k,f+k≤M.length→(layL M f l k).getD j 0=if f≤j∧j<f+k then l.getD (j-f) 0 else M.getD j 0
 |0,_=>by rw[if_neg (by omega)];rfl
 |k+1,hk=>by
  show((layL M f l k).set (f+k) (l.getD k 0)).getD j 0=_;rw[getD_set,layL_len,layL_get M f l j k (by omega)]
  by_cases h:f+k=j
  ·rw[if_pos ⟨h,by omega⟩,if_pos (by omega),show j-f=k by omega]
  ·rw[if_neg (fun q=>h q.1)]
   by_cases h2:f≤j∧j<f+k
   ·rw[if_pos h2,if_pos (by omega)]
   ·rw[if_neg h2,if_neg (by omega)]
@[simp] theorem putM_len(M d r:List Int)(pc fl:Int):(putM M d r pc fl).length=M.length:=by simp[putM]
theorem putM_get{M:List Int}(h:M.length=256)(d r:List Int)(pc fl:Int)(j:Nat):(putM M d r pc fl).getD j 0 =
    if j=36 then 0 else if 20≤j∧j<36 then r.getD (j-20) 0 else if 4≤j∧j<20 then d.getD (j-4) 0 else if j=3 then(r.length:Int)else if j=2 then(d.length:Int)else if j=1 then fl else if j=0 then pc else M.getD j 0:=by
 unfold putM;rw[getD_set,layL_get _ _ _ _ _ (by simp[h]),layL_get _ _ _ _ _ (by simp[h]),getD_set,getD_set,getD_set,getD_set];simp only[layL_len,aP,h]
 repeat' split
 all_goals first|rfl|omega|(exfalso;omega)
def W32(M:List Int):Prop:=∀i,0≤M.getD i 0∧M.getD i 0<4294967296
theorem W32.of{l:List Int}(h:∀x∈l,0≤x∧x<4294967296):W32 l:=fun i=>by
 rw[aj];cases q:l[i]? with
 |none=>exact⟨aK _,by decide⟩
 |some x=>exact h x (ah q)
theorem W32.set{M:List Int}(h:W32 M)(i:Nat){v:Int}(hv:0≤v∧v<4294967296):W32 (M.set i v):=fun j=>by
 rw[getD_set];split
 ·exact hv
 ·exact h j
theorem W32.rep(n:Nat):W32 (List.replicate n 0):=fun i=>by
 rw[aj,List.getElem?_replicate];split<;>exact⟨aK _,by decide⟩
theorem W32.put{M:List Int}(h:W32 M)(hl:M.length=256){d r:List Int}(hd:∀x∈d,0≤x∧x<4294967296)(hr:∀x∈r,0≤x∧x<4294967296)(h1:d.length≤16)(h2:r.length≤16){pc fl:Int}(hp:0≤pc∧pc<4294967296)(hf:0≤fl∧fl<4294967296):W32 (putM M d r pc fl):=fun j=>by
 rw[putM_get hl];split
 ·exact⟨aK _,by decide⟩
 ·split
  ·exact W32.of hr _
  ·split
   ·exact W32.of hd _
   ·split
    ·omega
    ·split
     ·omega
     ·split
      ·exact hf
      ·split
       ·exact hp
       ·exact h j
theorem takeM_of{M l:List Int}{f:Nat}(h:∀i,i<l.length→M.getD (f+i) 0=l.getD i 0):takeM M f l.length=l:=by
 unfold takeM;refine List.ext_getElem? fun i=>?_
 rw[iI]
 by_cases hi:i<l.length
 ·rw[List.getElem?_range hi,ac hi];show some (M.getD (f+i) 0)=_;rw[h i hi,aj,ac hi];rfl
 ·rw[aV (by simp;omega),aV (by omega)];rfl
theorem eget_as{g0 g1 g2 g3 g4 g5 g6 g7 g8 g9 g10 g11 g12 g13 g14 g15 at9:Int}{M:List Int}{K:List II}{kw kc wn:Nat}{n2 n3:Nat}{pc1 fl1 cnt1:Int}{D1 R1:List Int}{q:Sx}{d dj r rj:List Int}{ro:Bool}{ka kb:Nat}(hwn:M.length=wn)(hdb:d.length*4≤140737488355328)(hrb:r.length*4≤140737488355328)(hM:∀i,0≤M.getD i 0∧M.getD i 0<4294967296)(h256:wn=256)(h2:(M.getD 2 0)=(n2:Int))(h3:(M.getD 3 0)=(n3:Int))(h2b:n2≤16)(h3b:n3≤16)(h1:(M.getD 1 0)≤15)(hD:takeM M 4 n2=D1)(hR:takeM M 20 n3=R1)(hpc:(M.getD 0 0)=pc1)(hfl:(M.getD 1 0)=fl1)(hct:IntKind.u64.wrap (q.cnt+(M.getD 36 0))=cnt1):SCall Tryz.prog T15 20 #[pT 0 0,(stq q q.pc (sK 3 d.length ka) (sK 4 r.length kb) q.fl q.cnt)] (hq [oB 92 (mcL g0 g1 g2 g3 g4 g5 g6 g7 g8 g9 g10 g11 g12 g13 g14 g15 (sK 1 wn kw) (sK 2 K.length kc) at9),(uF M),(hhF K),(uCo (d++dj) ro),(uCo (r++rj) ro)]) fun v h=>v=.tuple #[(stq q pc1 (s1 5 D1.length) (s1 6 R1.length) fl1 cnt1),.bool true]∧h=hq [oB 92 (mcL g0 g1 g2 g3 g4 g5 g6 g7 g8 g9 g10 g11 g12 g13 g14 g15 (sK 1 wn kw) (sK 2 K.length kc) at9),(uF M),(hhF K),(uCo (d++dj) ro),(uCo (r++rj) ro),(uF D1),(uF R1)]:=by
 have h:=eget_ok (q:=q) (d:=d) (dj:=dj) (r:=r) (rj:=rj) (ro:=ro) (ka:=ka) (kb:=kb) (K:=K) (kw:=kw) (kc:=kc) (at9:=at9) (g0:=g0) (g1:=g1) (g2:=g2) (g3:=g3) (g4:=g4) (g5:=g5) (g6:=g6) (g7:=g7) (g8:=g8) (g9:=g9) (g10:=g10) (g11:=g11) (g12:=g12) (g13:=g13) (g14:=g14) (g15:=g15) hwn hdb hrb hM h256 h2 h3 h2b h3b h1;rw[hD,hR,hpc,hfl,hct]at h;exact h
theorem u32_join(x y:Int)(i:Nat)(hi:i≤32)(h0:0≤x)(h1:x<4294967296)(hx:x % 2 ^ i=0)(h2:0≤y)(h3:y<2 ^ i)(h4:y<4294967296):bits .or .u32 x y=x+y :=
 bits_join .u32 32 (by decide) (fun n h0 h1=>by rw[IntKind.wrap_u32];omega) i x y h0 hx (by omega) h2 h3 (by omega)
theorem or_comm9(x y:Int):bits .or .u32 x y=bits .or .u32 y x:=by
 show IntKind.u32.wrap ((BitVec.ofInt 32 x ||| BitVec.ofInt 32 y).toNat:Int)=IntKind.u32.wrap ((BitVec.ofInt 32 y ||| BitVec.ofInt 32 x).toNat:Int);rw[BitVec.or_comm]
theorem im_or{x:Int}(h0:0≤x)(h1:x<4294967296):bits .or .u32 (bits .or .u32 (bits .or .u32 (x % 256) (x / 256 % 256*256)) (x / 65536 % 256*65536)) (x / 16777216 % 256*16777216)=x:=by
 rw[or_comm9 (x % 256),u32_join (x / 256 % 256*256) (x % 256) 8 (by omega) (by omega) (by omega) (by omega) (by omega) (by omega) (by omega),
  or_comm9 _ (x / 65536 % 256*65536),u32_join (x / 65536 % 256*65536) _ 16 (by omega) (by omega) (by omega) (by omega) (by omega) (by omega) (by omega),
  or_comm9 _ (x / 16777216 % 256*16777216),u32_join (x / 16777216 % 256*16777216) _ 24 (by omega) (by omega) (by omega) (by omega) (by omega) (by omega) (by omega)]
 omega
theorem aslice_lo{T:Tab}{t e:TypeId}{size b off n l:Nat}{kk:IntKind}(hT:T.under t=some (.slice e))(hz:T.size e=some size)(hh:l≤n):aslice T t (.slice (some ⟨b,off,none⟩) n (unk+size)) (some (.int kk (l:Int))) none none=some (.slice (some ⟨b,off+l*size,none⟩) (n-l) (unk+size)):=by
 unfold aslice;have e1:Nat.ble l n=true:=aF hh;have e2:Nat.ble unk (unk+size)=true:=aF (ia _ _);have e3:Nat.ble n n=true:=aF (ak _);have e4:(unk+size).beq (unk+size)=true:=aR _;simp only[hT,hz,show(l:Int)=Int.ofNat l from rfl,e1,e2,e3,e4,af,ey]
theorem sd_sll{P:Program}{T:Tab}{X:Cx}{Q:Xt→St→Prop}{c:Cf}(t:Nat)(ty e:TypeId)(size b off n l:Nat)(kk:IntKind)(ho:okOp c t=true)(hs:strictC c=true)(hA:slOf c.s.tm (opC c).op=some (ty,.slice (some ⟨b,off,none⟩) n (unk+size),some (.int kk (l:Int)),none))(hT:T.under ty=some (.slice e))(hz:T.size e=some size)(hh:l≤n)
    (hk:SD P T X Q (c.put t (.slice (some ⟨b,off+l*size,none⟩) (n-l) (unk+size)) c.s.H)):SD P T X Q c :=
 sd_val t _ c.s.H ho hs (aop_slice hA (aslice_lo hT hz hh)) hk
theorem see_sl{b o o' n n' c:Nat}{x:Option Value}(h:x=some (.slice (some ⟨b,o,none⟩) n c))(h1:o=o')(h2:n=n'):x=some (.slice (some ⟨b,o',none⟩) n' c):=by rw[h,h1,h2]
noncomputable def f81b:Code:=Tryz.f81.body.getD .skip
theorem hdec_s{K:List II}{x:II}{k:Nat}(hx:K[k]? = some x)(hr:hrI x):SC 81 #[.slice (some ⟨0,0+k*8,none⟩) 8 (unk+1)] (hq [(ebCo K false)]) fun v h=>v=.tuple #[(c5A x.1 x.2.1 x.2.2.1 x.2.2.2.1 x.2.2.2.2),jI 0]∧h=hq [(ebCo K false)]:=by
 obtain⟨h91,h92,h93,h94⟩:=hr_reg hr.1;have h95:=hr.2.1;have h96:=hr.2.2;refine zS Tryz.f81 f81b 53 1 fun X hX=>(zX 20 10 (pT 0 (0+k*8+0)) 0 8 (zL 0 11 (.int .u8 x.1) 5 0 0 5 false ebC_len hx (zI 1 12 .i64 x.1 (IntKind.i64.wrap x.1) (zX 1 14 (pT 0 (0+k*8+1)) 1 8 (zL 0 15 (.int .u8 x.2.1) 5 0 1 5 false ebC_len hx (zI 1 16 .i64 x.2.1 (IntKind.i64.wrap x.2.1) (zX 1 18 (pT 0 (0+k*8+2)) 2 8 (zL 0 19 (.int .u8 x.2.2.1) 5 0 2 5 false ebC_len hx (zI 1 20 .i64 x.2.2.1 (IntKind.i64.wrap x.2.2.1) (sd_run 1 (zX 0 22 (pT 0 (0+k*8+3)) 3 8 (zL 0 23 (.int .u8 x.2.2.2.1) 5 0 3 5 false ebC_len hx (zI 1 24 .i64 x.2.2.2.1 (IntKind.i64.wrap x.2.2.2.1) (zX 1 26 (pT 0 (0+k*8+4)) 4 8 (zL 0 27 (.int .u8 (x.2.2.2.2 % 256)) 5 0 4 5 false ebC_len hx (sd_run 1 (zI 0 28 .u32 (x.2.2.2.2 % 256) (IntKind.u32.wrap (x.2.2.2.2 % 256)) (zX 1 30 (pT 0 (0+k*8+5)) 5 8 (zL 0 31 (.int .u8 (x.2.2.2.2 / 256 % 256)) 5 0 5 5 false ebC_len hx (zI 1 32 .u32 (x.2.2.2.2 / 256 % 256) (IntKind.u32.wrap (x.2.2.2.2 / 256 % 256)) (sd_run 1 (sd_see 33 (jU (x.2.2.2.2 / 256 % 256*256)) (see_int (x:=(IntKind.u32.wrap ((x.2.2.2.2 / 256 % 256)*256))) kr (by rw[IntKind.wrap_u32];omega)) ?_))))))))))))))))))))))
 refine zX 2 36 (pT 0 (0+k*8+6)) 6 8 (zL 0 37 (.int .u8 (x.2.2.2.2 / 65536 % 256)) 5 0 6 5 false ebC_len hx (zI 1 38 .u32 (x.2.2.2.2 / 65536 % 256) (IntKind.u32.wrap (x.2.2.2.2 / 65536 % 256)) (sd_run 1 (sd_see 39 (jU (x.2.2.2.2 / 65536 % 256*65536)) (see_int (x:=(IntKind.u32.wrap ((x.2.2.2.2 / 65536 % 256)*65536))) kr (by rw[IntKind.wrap_u32];omega)) (sd_run 2 ?_)))));refine zX 0 42 (pT 0 (0+k*8+7)) 7 8 (zL 0 43 (.int .u8 (x.2.2.2.2 / 16777216 % 256)) 5 0 7 5 false ebC_len hx (zI 1 44 .u32 (x.2.2.2.2 / 16777216 % 256) (IntKind.u32.wrap (x.2.2.2.2 / 16777216 % 256)) (sd_run 1 (sd_see 45 (jU (x.2.2.2.2 / 16777216 % 256*16777216)) (see_int (x:=(IntKind.u32.wrap ((x.2.2.2.2 / 16777216 % 256)*16777216))) kr (by rw[IntKind.wrap_u32];omega)) (sd_run 1 (sd_see 46 (jU x.2.2.2.2) (see_int (x:=(IntKind.u32.wrap (((BitVec.ofInt 32 (IntKind.u32.wrap (((BitVec.ofInt 32 (IntKind.u32.wrap (((BitVec.ofInt 32 (x.2.2.2.2 % 256) ||| BitVec.ofInt 32 (x.2.2.2.2 / 256 % 256*256)).toNat:Nat):Int)) ||| BitVec.ofInt 32 (x.2.2.2.2 / 65536 % 256*65536)).toNat:Nat):Int)) ||| BitVec.ofInt 32 (x.2.2.2.2 / 16777216 % 256*16777216)).toNat:Nat):Int))) kr (im_or h95 h96)) (sd_run 9 (sd_ask 49 (.bool true) 74 #[(c5A x.1 x.2.1 x.2.2.1 x.2.2.2.1 x.2.2.2.2)] kr kr kr (orc74 hr.1) (sd_run 14 ?_)))))))));refine sdY (.tuple #[(c5A x.1 x.2.1 x.2.2.1 x.2.2.2.1 x.2.2.2.2),jI 0]) hX [(ebCo K false)] i1_ ⟨ebC_b,⟨⟩⟩ ⟨rfl,rfl⟩
noncomputable def f43b:Code:=Tryz.f43.body.getD .skip
theorem hall_s{K:List II}(hlk:K.length<100000)(hr:AllR K):SC 43 #[(s1 0 (8*K.length))] (hq [(ebCo K false)]) fun v h=>v=.tuple #[(s5 1 K.length),jI 0]∧h=hq [(ebCo K false),(hhF K)]:=by
 refine zS Tryz.f43 f43b 29 1 fun X hX=>(sd_run 13 (sd_see 0 (.slice (some ⟨0,0+0*8,none⟩) (8*(K.length-0)) (unk+1)) (see_sl (o:=0) (n:=(8*K.length)) kr zo zo) (sd_loop 29 (cl (cl (cl (cr (cr f43b))))) [.blk 0,.next (cr (cr (cr f43b)))] kr kr kr (fun m9 s9=>∃(k:Nat),m9=K.length-k∧(k≤K.length)∧s9=⟨tmL [(0,.slice (some ⟨0,0+k*8,none⟩) (8*(K.length-k)) (unk+1)),(4,(s5 1 k))],hq [(ebCo K false),(hhF (K.take k))]⟩) (K.length-0) _ (emOf [some 0,none]) hX ⟨0,rfl,zo,rfl⟩ ⟨sub_of kr kr ⟨ebC_b,rfl,⟨⟩⟩,zt⟩ kr ?_)))
 rintro m9 s9 ⟨k,rfl,i1_0,rfl⟩ R1_ hR1_
 by_cases hlt:k<K.length
 ·obtain⟨a1,ha1⟩:=zR K k;have hx9:=hr _ (ah ha1);refine zT 6 9 ((((8*(K.length-k)):Nat):Int)>0) (sd_run 12 (sd_see 14 (jI 8) (see_int (x:=(if(((8*(K.length-k)):Nat):Int)<8 then(((8*(K.length-k)):Nat):Int)else 8)) kr (by split<;>omega)) (sd_slh 15 39 5 1 0 (0+k*8) (8*(K.length-k)) 8 .i64 kr kr kr kr kr zo (sdCp 16 81 #[.slice (some ⟨0,0+k*8,none⟩) 8 (unk+1)] (@hdec_s K a1 k ha1 hx9) i1_ ⟨ebC_b,⟨⟩⟩ ?_))));rintro v9 k9 ⟨rfl,rfl⟩;refine⟨rfl,.tuple #[(c5A a1.1 a1.2.1 a1.2.2.1 a1.2.2.2.1 a1.2.2.2.2),jI 0],kr,?_⟩;refine sd_run 23 (sd_grow 25 44 44 81 4 39 1 k 1 4 (sK 3 1 1) (tab hhC (K.take k)) [jI a1.1,jI a1.2.1,jI a1.2.2.1,jI a1.2.2.2.1,jU a1.2.2.2.2] (tab hhC ((K.take k)++[a1])) kr kr kr kr kr ((tab_len hhC_len _).trans (by rw[aO,eD zo])) kr kr (by decide) kr zo kr (tab_snoc (K.take k) a1) (sd_run 5 (sd_sll 27 39 5 1 0 (0+k*8) (8*(K.length-k)) 8 .i64 kr kr kr kr kr zo (sd_run 3 (sd_see 0 (.slice (some ⟨0,0+(k+1)*8,none⟩) (8*(K.length-(k+1))) (unk+1)) (see_sl (o:=0+k*8+8*1) (n:=((8*(K.length-k))-8)) kr zo zo) ?_)))));refine sd_inv R1_ kr (hR1_ _ (K.length-(k+1)) _ (emOf [some 0,some 4]) zo ⟨k+1,rfl,zo,rfl⟩ ⟨sub_of kr kr ⟨ebC_b,bk_flat (tab hhC ((K.take k)++[a1])) kr (tab_plain hhC_pl _) (congrArg (tab hhC) (take_one ha1).symm),⟨⟩⟩,zt⟩ kr)
 ·obtain rfl:k=K.length:=by omega
  refine zF 6 9 ((((8*(K.length-K.length)):Nat):Int)>0) (sd_run 16 ?_);refine sdY (.tuple #[(s5 1 K.length),jI 0]) hX [(ebCo K false),(hhF K)] i2_ ⟨ebC_b,bk_flat (tab hhC (K.take K.length)) kr (tab_plain hhC_pl _) (congrArg (tab hhC) ep),⟨⟩⟩ ⟨rfl,rfl⟩
noncomputable def f18b:Code:=Tryz.f18.body.getD .skip
theorem hload_s{g0 g1 g2 g3 g4 g5 g6 g7 g8 g9 g10 g11 g12 g13 g14 g15 at9:Int}{M:List Int}{K:List II}{kw kc wn:Nat}{N:List II}(hlk:N.length<100000)(hr:AllR N):SC 18 #[pT 0 0,(s1 3 (8*N.length))] (hq [oB 92 (mcL g0 g1 g2 g3 g4 g5 g6 g7 g8 g9 g10 g11 g12 g13 g14 g15 (sK 1 wn kw) (sK 2 K.length kc) at9),(uF M),(hhF K),(ebCo N false)]) fun v h=>v=jI 0∧h=hq [oB 92 (mcL g0 g1 g2 g3 g4 g5 g6 g7 g8 g9 g10 g11 g12 g13 g14 g15 (sK 1 wn kw) (s5 4 N.length) 0),(uF M),(hhF K),(ebCo N false),(hhF N)]:=by
 refine zS Tryz.f18 f18b 22 4 fun X hX=>(sd_run 8 (sdC 9 43 #[(s1 3 (8*N.length))] (@hall_s N hlk hr) [some 3] ⟨ebC_b,⟨⟩⟩ ?_))
 rintro Y v9 k9 ⟨rfl,rfl⟩;refine mkG (.tuple #[(s5 4 N.length),jI 0]) [oB 92 (mcL g0 g1 g2 g3 g4 g5 g6 g7 g8 g9 g10 g11 g12 g13 g14 g15 (sK 1 wn kw) (sK 2 K.length kc) at9),(uF M),(hhF K),(ebCo N false),(hhF N)] ⟨cvo,cvo,cvo,cvs 0 Y,hhC_c 1,⟨⟩⟩ ?_;refine sd_run 36 ?_;refine sdY (jI 0) hX [oB 92 (mcL g0 g1 g2 g3 g4 g5 g6 g7 g8 g9 g10 g11 g12 g13 g14 g15 (sK 1 wn kw) (s5 4 N.length) 0),(uF M),(hhF K),(ebCo N false),(hhF N)] i5_ ⟨brn,uC_b,hhC_b,ebC_b,hhC_b,⟨⟩⟩ ⟨rfl,rfl⟩
theorem ld_reg{T:Tab}{ty:TypeId}{H:Heap}{b:Nat}{e:TypeId}{ro:Bool}{g0 g1 g2 g3 g4 g5 g6 g7 g8 g9 g10 g11 g12 g13 g14 g15 at9:Int}{w c:Value}{i:Nat}(g:H.get b=some ⟨mcL g0 g1 g2 g3 g4 g5 g6 g7 g8 g9 g10 g11 g12 g13 g14 g15 w c at9,e,ro⟩)(hr:cellB T ty=true)(hz:T.size ty=some 1)(hi:i<16):aload T ty (.pointer (some ⟨b,0+i*1,none⟩)) H=some (.int .u64 ([g0,g1,g2,g3,g4,g5,g6,g7,g8,g9,g10,g11,g12,g13,g14,g15].getD i 0)) :=
 (aload_at g).trans (aloadC_cellB hr hz (match i,hi with|0,_=>rfl|1,_=>rfl|2,_=>rfl|3,_=>rfl|4,_=>rfl|5,_=>rfl|6,_=>rfl|7,_=>rfl|8,_=>rfl|9,_=>rfl|10,_=>rfl|11,_=>rfl|12,_=>rfl|13,_=>rfl|14,_=>rfl|15,_=>rfl|n+16,h=>absurd h (by omega)))
theorem st_reg{T:Tab}{ty:TypeId}{g0 g1 g2 g3 g4 g5 g6 g7 g8 g9 g10 g11 g12 g13 g14 g15 at9 v:Int}{w c:Value}{i:Nat}(hz:T.size ty=some 1)(hi:i<16):∃h0 h1 h2 h3 h4 h5 h6 h7 h8 h9 h10 h11 h12 h13 h14 h15:Int,[h0,h1,h2,h3,h4,h5,h6,h7,h8,h9,h10,h11,h12,h13,h14,h15]=[g0,g1,g2,g3,g4,g5,g6,g7,g8,g9,g10,g11,g12,g13,g14,g15].set i v∧astoreC T ty (mcL g0 g1 g2 g3 g4 g5 g6 g7 g8 g9 g10 g11 g12 g13 g14 g15 w c at9) (0+i*1) (.int .u64 v)=some (mcL h0 h1 h2 h3 h4 h5 h6 h7 h8 h9 h10 h11 h12 h13 h14 h15 w c at9) :=
 match i,hi with
 |0,_=>⟨v,g1,g2,g3,g4,g5,g6,g7,g8,g9,g10,g11,g12,g13,g14,g15,rfl,by rw[astoreC_one hz (one_cells rfl) rfl (show 0+0*1<19 by decide)];first|done|rfl⟩
 |1,_=>⟨g0,v,g2,g3,g4,g5,g6,g7,g8,g9,g10,g11,g12,g13,g14,g15,rfl,by rw[astoreC_one hz (one_cells rfl) rfl (show 0+1*1<19 by decide)];first|done|rfl⟩
 |2,_=>⟨g0,g1,v,g3,g4,g5,g6,g7,g8,g9,g10,g11,g12,g13,g14,g15,rfl,by rw[astoreC_one hz (one_cells rfl) rfl (show 0+2*1<19 by decide)];first|done|rfl⟩
 |3,_=>⟨g0,g1,g2,v,g4,g5,g6,g7,g8,g9,g10,g11,g12,g13,g14,g15,rfl,by rw[astoreC_one hz (one_cells rfl) rfl (show 0+3*1<19 by decide)];first|done|rfl⟩
 |4,_=>⟨g0,g1,g2,g3,v,g5,g6,g7,g8,g9,g10,g11,g12,g13,g14,g15,rfl,by rw[astoreC_one hz (one_cells rfl) rfl (show 0+4*1<19 by decide)];first|done|rfl⟩
 |5,_=>⟨g0,g1,g2,g3,g4,v,g6,g7,g8,g9,g10,g11,g12,g13,g14,g15,rfl,by rw[astoreC_one hz (one_cells rfl) rfl (show 0+5*1<19 by decide)];first|done|rfl⟩
 |6,_=>⟨g0,g1,g2,g3,g4,g5,v,g7,g8,g9,g10,g11,g12,g13,g14,g15,rfl,by rw[astoreC_one hz (one_cells rfl) rfl (show 0+6*1<19 by decide)];first|done|rfl⟩
 |7,_=>⟨g0,g1,g2,g3,g4,g5,g6,v,g8,g9,g10,g11,g12,g13,g14,g15,rfl,by rw[astoreC_one hz (one_cells rfl) rfl (show 0+7*1<19 by decide)];first|done|rfl⟩
 |8,_=>⟨g0,g1,g2,g3,g4,g5,g6,g7,v,g9,g10,g11,g12,g13,g14,g15,rfl,by rw[astoreC_one hz (one_cells rfl) rfl (show 0+8*1<19 by decide)];first|done|rfl⟩
 |9,_=>⟨g0,g1,g2,g3,g4,g5,g6,g7,g8,v,g10,g11,g12,g13,g14,g15,rfl,by rw[astoreC_one hz (one_cells rfl) rfl (show 0+9*1<19 by decide)];first|done|rfl⟩
 |10,_=>⟨g0,g1,g2,g3,g4,g5,g6,g7,g8,g9,v,g11,g12,g13,g14,g15,rfl,by rw[astoreC_one hz (one_cells rfl) rfl (show 0+10*1<19 by decide)];first|done|rfl⟩
 |11,_=>⟨g0,g1,g2,g3,g4,g5,g6,g7,g8,g9,g10,v,g12,g13,g14,g15,rfl,by rw[astoreC_one hz (one_cells rfl) rfl (show 0+11*1<19 by decide)];first|done|rfl⟩
 |12,_=>⟨g0,g1,g2,g3,g4,g5,g6,g7,g8,g9,g10,g11,v,g13,g14,g15,rfl,by rw[astoreC_one hz (one_cells rfl) rfl (show 0+12*1<19 by decide)];first|done|rfl⟩
 |13,_=>⟨g0,g1,g2,g3,g4,g5,g6,g7,g8,g9,g10,g11,g12,v,g14,g15,rfl,by rw[astoreC_one hz (one_cells rfl) rfl (show 0+13*1<19 by decide)];first|done|rfl⟩
 |14,_=>⟨g0,g1,g2,g3,g4,g5,g6,g7,g8,g9,g10,g11,g12,g13,v,g15,rfl,by rw[astoreC_one hz (one_cells rfl) rfl (show 0+14*1<19 by decide)];first|done|rfl⟩
 |15,_=>⟨g0,g1,g2,g3,g4,g5,g6,g7,g8,g9,g10,g11,g12,g13,g14,v,rfl,by rw[astoreC_one hz (one_cells rfl) rfl (show 0+15*1<19 by decide)];first|done|rfl⟩
 |n+16,h=>absurd h (by omega)
theorem ab_shl{T:Tab}{t:TypeId}{k k':IntKind}{a b:Int}(hb:decide (b<0)=false):abin T .shl t (.int k a) (.int k' b)=some (.int k (k.wrap (a*2 ^ min b.toNat k.bits))):=by
 simp only[abin,isShift,af,ishift,hb,ai]
theorem ab_shr{T:Tab}{t:TypeId}{k k':IntKind}{a b:Int}(hb:decide (b<0)=false):abin T .shr t (.int k a) (.int k' b)=some (.int k (a.fdiv (2 ^ min b.toNat k.bits))):=by
 simp only[abin,isShift,af,ishift,hb,ai]
theorem ab_quo{T:Tab}{t:TypeId}{k:IntKind}{a b:Int}(hb:(b == 0)=false):abin T .quo t (.int k a) (.int k b)=some (.int k (k.wrap (a.tdiv b))):=by
 simp only[abin,isShift,ai,BEq.rfl,af,ibin,hb]
def U64(G:List Int):Prop:=∀i,0≤G.getD i 0∧G.getD i 0<18446744073709551616
theorem U64.set{G:List Int}(h:U64 G)(i:Nat){v:Int}(hv:0≤v∧v<18446744073709551616):U64 (G.set i v):=fun j=>by
 rw[getD_set];split
 ·exact hv
 ·exact h j
theorem w64m(x:Int):IntKind.u64.wrap x=x % 18446744073709551616:=by
 simp only[IntKind.wrap];simp[IntKind.bits,IntKind.signed]
theorem w64_u{x:Int}(h:0≤x∧x<18446744073709551616):IntKind.u64.wrap x=x:=by rw[w64m];omega
theorem xor_u64(a b:Nat)(ha:a<18446744073709551616)(hb:b<18446744073709551616):bits .xor .u64 a b=((a ^^^ b:Nat):Int):=by
 have hx:a ^^^ b<2 ^ 64:=ii (by omega) (by omega)
 have h1:(BitVec.ofInt 64 (a:Int)).toNat=a:=by
  rw[io];omega
 have h2:(BitVec.ofInt 64 (b:Int)).toNat=b:=by
  rw[io];omega
 show IntKind.u64.wrap (((BitVec.ofInt 64 (a:Int)) ^^^ (BitVec.ofInt 64 (b:Int))).toNat:Int)=_;rw[BitVec.toNat_xor,h1,h2,w64m];omega
theorem h_and{a b:Int}(ha:0≤a∧a<18446744073709551616)(hb:0≤b∧b<18446744073709551616):IntKind.u64.wrap (((BitVec.ofInt 64 a &&& BitVec.ofInt 64 b).toNat:Nat):Int)=hI 5 a b∧IntKind.u64.wrap (((BitVec.ofInt 64 a ||| BitVec.ofInt 64 b).toNat:Nat):Int)=hI 6 a b∧IntKind.u64.wrap (((BitVec.ofInt 64 a ^^^ BitVec.ofInt 64 b).toNat:Nat):Int)=hI 7 a b:=by
 obtain⟨n,rfl⟩:=aa ha.1;obtain⟨m,rfl⟩:=aa hb.1;have h1:=ha.2;have h2:=hb.2;have hk:∀n:Int,0≤n→n<2 ^ 64→IntKind.u64.wrap n=n:=fun n h0 h1=>w64_u ⟨h0,by omega⟩
 exact⟨(bits_nat .u64 64 (by decide) hk n m (by omega) (by omega)).1,(bits_nat .u64 64 (by decide) hk n m (by omega) (by omega)).2,xor_u64 n m (by omega) (by omega)⟩
theorem h_shl(a b:Int):IntKind.u64.wrap (a*2 ^ min (b:Int).toNat IntKind.u64.bits)=hI 8 a b:=by rw[w64m];rfl
theorem h_shr(a b:Int):Int.fdiv a (2 ^ min (b:Int).toNat IntKind.u64.bits)=hI 9 a b:=by
 rw[iV _ (by exact Int.le_of_lt (Int.pow_pos (by decide)))];rfl
theorem h_quo{a b:Int}(ha:0≤a∧a<18446744073709551616)(hb:0≤b∧b<18446744073709551616)(h:¬b=0):IntKind.u64.wrap (Int.tdiv a b)=hI 11 a b:=by
 rw[Int.tdiv_eq_ediv_of_nonneg ha.1,w64_u ⟨Int.ediv_nonneg ha.1 hb.1,Int.lt_of_le_of_lt (Int.ediv_le_self _ ha.1) ha.2⟩];show a / b=if b=0 then 0 else a / b
 rw[if_neg h]
theorem hI_in{op a b:Int}(ha:0≤a∧a<18446744073709551616)(hb:0≤b∧b<18446744073709551616):0≤hI op a b∧hI op a b<18446744073709551616:=by
 obtain⟨e1,e2,e3⟩:=h_and ha hb;have wi:∀x,0≤IntKind.u64.wrap x∧IntKind.u64.wrap x<18446744073709551616:=fun x=>by rw[w64m];omega
 have g5:0≤hI 5 a b∧hI 5 a b<18446744073709551616:=by rw[←e1];exact wi _
 have g6:0≤hI 6 a b∧hI 6 a b<18446744073709551616:=by rw[←e2];exact wi _
 have g7:0≤hI 7 a b∧hI 7 a b<18446744073709551616:=by rw[←e3];exact wi _
 have g9:0≤hI 9 a b∧hI 9 a b<18446744073709551616:=⟨Int.ediv_nonneg ha.1 (Int.le_of_lt (Int.pow_pos (by decide))),Int.lt_of_le_of_lt (Int.ediv_le_self _ ha.1) ha.2⟩;have g11:0≤a / b∧a / b<18446744073709551616:=⟨Int.ediv_nonneg ha.1 hb.1,Int.lt_of_le_of_lt (Int.ediv_le_self _ ha.1) ha.2⟩
 by_cases h:op=5
 ·rw[h];exact g5
 by_cases h':op=6
 ·rw[h'];exact g6
 by_cases h'':op=7
 ·rw[h''];exact g7
 by_cases h3:op=9
 ·rw[h3];exact g9
 unfold hI;rw[if_neg h,if_neg h',if_neg h'',if_neg h3]
 repeat' split
 all_goals first|omega|exact⟨eQ _ (by decide),il _ (by decide)⟩
structure Sim(s:MS)(G M:List Int):Prop where
 r:∀i:Nat,i<16→s.R (i:Int)=G.getD i 0
 m:∀i:Nat,i<256→s.M (i:Int)=M.getD i 0
theorem Sim.setR{s:MS}{G M:List Int}(h:Sim s G M)(hG:G.length=16){rd:Nat}(hrd:rd<16)(v:Int):Sim ⟨up s.R (rd:Int) v,s.M⟩ (G.set rd v) M where
 r:=fun i hi=>by
  show(if(i:Int)=(rd:Int)then v else s.R (i:Int))=_;rw[getD_set]
  by_cases q:rd=i
  ·rw[if_pos (by omega),if_pos ⟨q,by omega⟩]
  ·rw[if_neg (by omega),if_neg (fun h=>q h.1),h.r i hi]
 m:=h.m
theorem Sim.setM{s:MS}{G M:List Int}(h:Sim s G M)(hM:M.length=256){p:Nat}(hp:p<256)(v:Int):Sim ⟨s.R,up s.M (p:Int) v⟩ G (M.set p v) where
 r:=h.r
 m:=fun i hi=>by
  show(if(i:Int)=(p:Int)then v else s.M (i:Int))=_;rw[getD_set]
  by_cases q:p=i
  ·rw[if_pos (by omega),if_pos ⟨q,by omega⟩]
  ·rw[if_neg (by omega),if_neg (fun h=>q h.1),h.m i hi]
def simOf(G M:List Int):MS:=⟨fun i=>G.getD i.toNat 0,fun i=>M.getD i.toNat 0⟩
theorem sim_of(G M:List Int):Sim (simOf G M) G M:=⟨fun i _=>by show G.getD (i:Int).toNat 0=_;rw[aH],fun i _=>by show M.getD (i:Int).toNat 0=_;rw[aH]⟩
noncomputable def f82b:Code:=Tryz.f82.body.getD .skip
theorem hreckon_s{op a b:Int}(ho:2≤op∧op≤13)(ha:0≤a∧a<18446744073709551616)(hb:0≤b∧b<18446744073709551616):SC 82 #[jI op,.int .u64 a,.int .u64 b] (hq []) fun v h=>v=.int .u64 (hI op a b)∧h=hq []:=by
 rcases(by omega:op=2∨op=3∨op=4∨op=5∨op=6∨op=7∨op=8∨op=9∨op=10∨op=11∨op=12∨op=13)with rfl|rfl|rfl|rfl|rfl|rfl|rfl|rfl|rfl|rfl|rfl|rfl
 ·refine zS Tryz.f82 f82b 68 0 fun X hX=>(sd_run 28 ?_)
  refine zY (.int .u64 a) hX [] ⟨(by first|(congr 1;done)|(congr 1;exact rfl)),rfl⟩
 ·refine zS Tryz.f82 f82b 68 0 fun X hX=>(sd_run 37 ?_)
  refine zY (.int .u64 (IntKind.u64.wrap (a+b))) hX [] ⟨(by first|(congr 1;done)|(congr 1;exact w64m _)),rfl⟩
 ·refine zS Tryz.f82 f82b 68 0 fun X hX=>(sd_run 44 ?_)
  refine zY (.int .u64 (IntKind.u64.wrap (a-b))) hX [] ⟨(by first|(congr 1;done)|(congr 1;exact w64m _)),rfl⟩
 ·refine zS Tryz.f82 f82b 68 0 fun X hX=>(sd_run 51 ?_)
  refine zY (.int .u64 (IntKind.u64.wrap (((BitVec.ofInt 64 a &&& BitVec.ofInt 64 b).toNat:Nat):Int))) hX [] ⟨(by first|(congr 1;done)|(congr 1;exact(h_and ha hb).1)),rfl⟩
 ·refine zS Tryz.f82 f82b 68 0 fun X hX=>(sd_run 58 ?_)
  refine zY (.int .u64 (IntKind.u64.wrap (((BitVec.ofInt 64 a ||| BitVec.ofInt 64 b).toNat:Nat):Int))) hX [] ⟨(by first|(congr 1;done)|(congr 1;exact(h_and ha hb).2.1)),rfl⟩
 ·refine zS Tryz.f82 f82b 68 0 fun X hX=>(sd_run 65 ?_)
  refine zY (.int .u64 (IntKind.u64.wrap (((BitVec.ofInt 64 a ^^^ BitVec.ofInt 64 b).toNat:Nat):Int))) hX [] ⟨(by first|(congr 1;done)|(congr 1;exact(h_and ha hb).2.2)),rfl⟩
 ·refine zS Tryz.f82 f82b 68 0 fun X hX=>(sd_run 65 (sd_bin 40 (.int .u64 (IntKind.u64.wrap (a*2 ^ min (b:Int).toNat IntKind.u64.bits))) .shl 27 (.int .u64 a) (.int .u64 b) kr kr kr (ab_shl (aD zo)) (sd_run 6 ?_)))
  refine zY (.int .u64 (IntKind.u64.wrap (a*2 ^ min (b:Int).toNat IntKind.u64.bits))) hX [] ⟨(by first|(congr 1;done)|(congr 1;exact h_shl _ _)),rfl⟩
 ·refine zS Tryz.f82 f82b 68 0 fun X hX=>(sd_run 72 (sd_bin 45 (.int .u64 (Int.fdiv a (2 ^ min (b:Int).toNat IntKind.u64.bits))) .shr 27 (.int .u64 a) (.int .u64 b) kr kr kr (ab_shr (aD zo)) (sd_run 6 ?_)))
  refine zY (.int .u64 (Int.fdiv a (2 ^ min (b:Int).toNat IntKind.u64.bits))) hX [] ⟨(by first|(congr 1;done)|(congr 1;exact h_shr _ _)),rfl⟩
 ·refine zS Tryz.f82 f82b 68 0 fun X hX=>(sd_run 86 ?_)
  refine zY (.int .u64 (IntKind.u64.wrap (a*b))) hX [] ⟨(by first|(congr 1;done)|(congr 1;exact w64m _)),rfl⟩
 ·by_cases hb0:b=0
  ·refine zS Tryz.f82 f82b 68 0 fun X hX=>(sd_run 87 (sd_see 54 (.bool true) (see_bool (x:=((b:Int) == 0)) kr (by rw[hb0];rfl)) (sd_run 12 ?_)))
   refine zY (.int .u64 0) hX [] ⟨(by first|(congr 1;done)|(congr 1;exact(by rw[hb0];rfl))),rfl⟩
  ·refine zS Tryz.f82 f82b 68 0 fun X hX=>(sd_run 87 (sd_see 54 (.bool false) (see_bool (x:=((b:Int) == 0)) kr (aB.2 hb0)) (sd_run 9 (sd_bin 57 (.int .u64 (IntKind.u64.wrap (Int.tdiv a b))) .quo 27 (.int .u64 a) (.int .u64 b) kr kr kr (ab_quo (aB.2 hb0)) (sd_run 6 ?_)))))
   refine zY (.int .u64 (IntKind.u64.wrap (Int.tdiv a b))) hX [] ⟨(by first|(congr 1;done)|(congr 1;exact h_quo ha hb hb0)),rfl⟩
 ·by_cases hcmp:a<b
  ·refine zS Tryz.f82 f82b 68 0 fun X hX=>(sd_run 94 (sd_see 62 (.bool true) (see_bool (x:=(decide ((a:Int)<b))) kr (aQ hcmp)) (sd_run 27 ?_)))
   refine zY (.int .u64 1) hX [] ⟨(by first|(congr 1;done)|(congr 1;exact(if_pos hcmp).symm)),rfl⟩
  ·refine zS Tryz.f82 f82b 68 0 fun X hX=>(sd_run 94 (sd_see 62 (.bool false) (see_bool (x:=(decide ((a:Int)<b))) kr (aD hcmp)) (sd_run 28 ?_)))
   refine zY (.int .u64 0) hX [] ⟨(by first|(congr 1;done)|(congr 1;exact(if_neg hcmp).symm)),rfl⟩
 ·by_cases hcmp:a=b
  ·refine zS Tryz.f82 f82b 68 0 fun X hX=>(sd_run 97 (sd_see 66 (.bool true) (see_bool (x:=((a:Int) == b)) kr (ir.2 hcmp)) (sd_run 25 ?_)))
   refine zY (.int .u64 1) hX [] ⟨(by first|(congr 1;done)|(congr 1;exact(if_pos hcmp).symm)),rfl⟩
  ·refine zS Tryz.f82 f82b 68 0 fun X hX=>(sd_run 97 (sd_see 66 (.bool false) (see_bool (x:=((a:Int) == b)) kr (aB.2 hcmp)) (sd_run 26 ?_)))
   refine zY (.int .u64 0) hX [] ⟨(by first|(congr 1;done)|(congr 1;exact(if_neg hcmp).symm)),rfl⟩
noncomputable def f44b:Code:=Tryz.f44.body.getD .skip
theorem step_nop{g0 g1 g2 g3 g4 g5 g6 g7 g8 g9 g10 g11 g12 g13 g14 g15:Int}{M:List Int}{K:List II}{kw kc wn k:Nat}{rd ra rb:Nat}{im:Int}(hwn:M.length=wn)(hlk:K.length<100000)(hrd:rd<16)(hra:ra<16)(hrb:rb<16)(him:0≤im∧im<4294967296)(hx:K[k]? = some (0,(rd:Int),(ra:Int),(rb:Int),im)):SC 44 #[pT 0 0] (hq [oB 92 (mcL g0 g1 g2 g3 g4 g5 g6 g7 g8 g9 g10 g11 g12 g13 g14 g15 (sK 1 wn kw) (sK 2 K.length kc) (k:Int)),(uF M),(hhF K)]) fun v h=>v=jI 0∧h=hq [oB 92 (mcL g0 g1 g2 g3 g4 g5 g6 g7 g8 g9 g10 g11 g12 g13 g14 g15 (sK 1 wn kw) (sK 2 K.length kc) (((k+1):Nat):Int)),(uF M),(hhF K)]:=by
 have hk9:=(ae.1 hx).1;refine zS Tryz.f44 f44b 144 3 fun X hX=>(zF 13 12 ((k:Int)<0) (zF 11 23 ((k:Int)≥(K.length:Int)) (zX 16 33 (pT 2 (0+k*5)) k K.length (zM 0 34 81 2 81 false hhC_len hx (sd_run 11 (zX 0 40 (pT 0 (0+ra*1)) ra 16 (sd_ld 41 (.int .u64 ([g0,g1,g2,g3,g4,g5,g6,g7,g8,g9,g10,g11,g12,g13,g14,g15].getD ra 0)) 27 (pT 0 (0+ra*1)) kr kr kr (@ld_reg _ _ _ _ 92 false g0 g1 g2 g3 g4 g5 g6 g7 g8 g9 g10 g11 g12 g13 g14 g15 (k:Int) (sK 1 wn kw) (sK 2 K.length kc) ra kr kr kr zo) (zX 5 47 (pT 0 (0+rb*1)) rb 16 (sd_ld 48 (.int .u64 ([g0,g1,g2,g3,g4,g5,g6,g7,g8,g9,g10,g11,g12,g13,g14,g15].getD rb 0)) 27 (pT 0 (0+rb*1)) kr kr kr (@ld_reg _ _ _ _ 92 false g0 g1 g2 g3 g4 g5 g6 g7 g8 g9 g10 g11 g12 g13 g14 g15 (k:Int) (sK 1 wn kw) (sK 2 K.length kc) rb kr kr kr zo) (zI 10 52 .u64 im (IntKind.u64.wrap im) (sd_run 11 (zI 0 58 .i64 (((k+1):Nat):Int) (IntKind.i64.wrap ((k:Int)+1)) (sd_run 36 ?_)))))))))))))
 refine zY (jI 0) hX i3_ ⟨rfl,rfl⟩
theorem step_li{g0 g1 g2 g3 g4 g5 g6 g7 g8 g9 g10 g11 g12 g13 g14 g15:Int}{M:List Int}{K:List II}{kw kc wn k:Nat}{rd ra rb:Nat}{im:Int}(hwn:M.length=wn)(hlk:K.length<100000)(hrd:rd<16)(hra:ra<16)(hrb:rb<16)(him:0≤im∧im<4294967296)(hx:K[k]? = some (1,(rd:Int),(ra:Int),(rb:Int),im)):SC 44 #[pT 0 0] (hq [oB 92 (mcL g0 g1 g2 g3 g4 g5 g6 g7 g8 g9 g10 g11 g12 g13 g14 g15 (sK 1 wn kw) (sK 2 K.length kc) (k:Int)),(uF M),(hhF K)]) fun v h=>∃(h0 h1 h2 h3 h4 h5 h6 h7 h8 h9 h10 h11 h12 h13 h14 h15:Int),[h0,h1,h2,h3,h4,h5,h6,h7,h8,h9,h10,h11,h12,h13,h14,h15]=[g0,g1,g2,g3,g4,g5,g6,g7,g8,g9,g10,g11,g12,g13,g14,g15].set rd im∧v=jI 0∧h=hq [oB 92 (mcL h0 h1 h2 h3 h4 h5 h6 h7 h8 h9 h10 h11 h12 h13 h14 h15 (sK 1 wn kw) (sK 2 K.length kc) (((k+1):Nat):Int)),(uF M),(hhF K)]:=by
 have hk9:=(ae.1 hx).1;refine zS Tryz.f44 f44b 144 3 fun X hX=>(zF 13 12 ((k:Int)<0) (zF 11 23 ((k:Int)≥(K.length:Int)) (zX 16 33 (pT 2 (0+k*5)) k K.length (zM 0 34 81 2 81 false hhC_len hx (sd_run 11 (zX 0 40 (pT 0 (0+ra*1)) ra 16 (sd_ld 41 (.int .u64 ([g0,g1,g2,g3,g4,g5,g6,g7,g8,g9,g10,g11,g12,g13,g14,g15].getD ra 0)) 27 (pT 0 (0+ra*1)) kr kr kr (@ld_reg _ _ _ _ 92 false g0 g1 g2 g3 g4 g5 g6 g7 g8 g9 g10 g11 g12 g13 g14 g15 (k:Int) (sK 1 wn kw) (sK 2 K.length kc) ra kr kr kr zo) (zX 5 47 (pT 0 (0+rb*1)) rb 16 (sd_ld 48 (.int .u64 ([g0,g1,g2,g3,g4,g5,g6,g7,g8,g9,g10,g11,g12,g13,g14,g15].getD rb 0)) 27 (pT 0 (0+rb*1)) kr kr kr (@ld_reg _ _ _ _ 92 false g0 g1 g2 g3 g4 g5 g6 g7 g8 g9 g10 g11 g12 g13 g14 g15 (k:Int) (sK 1 wn kw) (sK 2 K.length kc) rb kr kr kr zo) (zI 10 52 .u64 im (IntKind.u64.wrap im) (sd_run 11 (zI 0 58 .i64 (((k+1):Nat):Int) (IntKind.i64.wrap ((k:Int)+1)) (zI 32 81 .u64 im (IntKind.u64.wrap im) (zX 2 84 (pT 0 (0+rd*1)) rd 16 ?_))))))))))))))
 obtain⟨h0,h1,h2,h3,h4,h5,h6,h7,h8,h9,h10,h11,h12,h13,h14,h15,hset,hst⟩:=st_reg (T:=T15) (ty:=27) (g0:=g0) (g1:=g1) (g2:=g2) (g3:=g3) (g4:=g4) (g5:=g5) (g6:=g6) (g7:=g7) (g8:=g8) (g9:=g9) (g10:=g10) (g11:=g11) (g12:=g12) (g13:=g13) (g14:=g14) (g15:=g15) (at9:=(k:Int)) (w:=.slice (some ⟨1,0,none⟩) wn kw) (c:=.slice (some ⟨2,0,none⟩) K.length kc) (v:=im) (i:=rd) kr (by omega);refine sd_st 27 0 (0+rd*1) (.int .u64 im) ([Value.int .u64 h0,.int .u64 h1,.int .u64 h2,.int .u64 h3,.int .u64 h4,.int .u64 h5,.int .u64 h6,.int .u64 h7,.int .u64 h8,.int .u64 h9,.int .u64 h10,.int .u64 h11,.int .u64 h12,.int .u64 h13,.int .u64 h14,.int .u64 h15,sK 1 wn kw,sK 2 K.length kc,jI (k:Int)]) (cells:=[Value.int .u64 g0,.int .u64 g1,.int .u64 g2,.int .u64 g3,.int .u64 g4,.int .u64 g5,.int .u64 g6,.int .u64 g7,.int .u64 g8,.int .u64 g9,.int .u64 g10,.int .u64 g11,.int .u64 g12,.int .u64 g13,.int .u64 g14,.int .u64 g15,sK 1 wn kw,sK 2 K.length kc,jI (k:Int)]) (e:=92) kr kr kr kr hst (sd_run 18 ?_);refine zY (jI 0) hX i3_ ⟨h0,h1,h2,h3,h4,h5,h6,h7,h8,h9,h10,h11,h12,h13,h14,h15,hset,rfl,rfl⟩
theorem step_op{g0 g1 g2 g3 g4 g5 g6 g7 g8 g9 g10 g11 g12 g13 g14 g15:Int}{M:List Int}{K:List II}{kw kc wn k:Nat}{rd ra rb:Nat}{im:Int}{op:Int}(hwn:M.length=wn)(hlk:K.length<100000)(hrd:rd<16)(hra:ra<16)(hrb:rb<16)(him:0≤im∧im<4294967296)(hx:K[k]? = some (op,(rd:Int),(ra:Int),(rb:Int),im))(ho:2≤op∧op≤13)(hA:0≤([g0,g1,g2,g3,g4,g5,g6,g7,g8,g9,g10,g11,g12,g13,g14,g15].getD ra 0)∧([g0,g1,g2,g3,g4,g5,g6,g7,g8,g9,g10,g11,g12,g13,g14,g15].getD ra 0)<18446744073709551616)(hB:0≤([g0,g1,g2,g3,g4,g5,g6,g7,g8,g9,g10,g11,g12,g13,g14,g15].getD rb 0)∧([g0,g1,g2,g3,g4,g5,g6,g7,g8,g9,g10,g11,g12,g13,g14,g15].getD rb 0)<18446744073709551616):SC 44 #[pT 0 0] (hq [oB 92 (mcL g0 g1 g2 g3 g4 g5 g6 g7 g8 g9 g10 g11 g12 g13 g14 g15 (sK 1 wn kw) (sK 2 K.length kc) (k:Int)),(uF M),(hhF K)]) fun v h=>∃(h0 h1 h2 h3 h4 h5 h6 h7 h8 h9 h10 h11 h12 h13 h14 h15:Int),[h0,h1,h2,h3,h4,h5,h6,h7,h8,h9,h10,h11,h12,h13,h14,h15]=[g0,g1,g2,g3,g4,g5,g6,g7,g8,g9,g10,g11,g12,g13,g14,g15].set rd (hI op ([g0,g1,g2,g3,g4,g5,g6,g7,g8,g9,g10,g11,g12,g13,g14,g15].getD ra 0) ([g0,g1,g2,g3,g4,g5,g6,g7,g8,g9,g10,g11,g12,g13,g14,g15].getD rb 0))∧v=jI 0∧h=hq [oB 92 (mcL h0 h1 h2 h3 h4 h5 h6 h7 h8 h9 h10 h11 h12 h13 h14 h15 (sK 1 wn kw) (sK 2 K.length kc) (((k+1):Nat):Int)),(uF M),(hhF K)]:=by
 have hk9:=(ae.1 hx).1;refine zS Tryz.f44 f44b 144 3 fun X hX=>(zF 13 12 ((k:Int)<0) (zF 11 23 ((k:Int)≥(K.length:Int)) (zX 16 33 (pT 2 (0+k*5)) k K.length (zM 0 34 81 2 81 false hhC_len hx (sd_run 11 (zX 0 40 (pT 0 (0+ra*1)) ra 16 (sd_ld 41 (.int .u64 ([g0,g1,g2,g3,g4,g5,g6,g7,g8,g9,g10,g11,g12,g13,g14,g15].getD ra 0)) 27 (pT 0 (0+ra*1)) kr kr kr (@ld_reg _ _ _ _ 92 false g0 g1 g2 g3 g4 g5 g6 g7 g8 g9 g10 g11 g12 g13 g14 g15 (k:Int) (sK 1 wn kw) (sK 2 K.length kc) ra kr kr kr zo) (zX 5 47 (pT 0 (0+rb*1)) rb 16 (sd_ld 48 (.int .u64 ([g0,g1,g2,g3,g4,g5,g6,g7,g8,g9,g10,g11,g12,g13,g14,g15].getD rb 0)) 27 (pT 0 (0+rb*1)) kr kr kr (@ld_reg _ _ _ _ 92 false g0 g1 g2 g3 g4 g5 g6 g7 g8 g9 g10 g11 g12 g13 g14 g15 (k:Int) (sK 1 wn kw) (sK 2 K.length kc) rb kr kr kr zo) (zI 10 52 .u64 im (IntKind.u64.wrap im) (sd_run 11 (zI 0 58 .i64 (((k+1):Nat):Int) (IntKind.i64.wrap ((k:Int)+1)) (zN 14 73 (op:Int) 0 (zN 7 75 (op:Int) 1 (zN 8 86 (op:Int) 14 (sd_run 6 (zN 0 87 (op:Int) 15 (zN 8 122 (op:Int) 16 (zN 6 123 (op:Int) 17 (zN 7 134 (op:Int) 18 (sd_run 7 ?_)))))))))))))))))))))
 refine zN 0 139 (op:Int) 19 (sd_run 4 (sd_drawQ [(2,7)] kr kr ?_));refine sq_run 2 ?_;refine sq_rd 63 (jI (rd:Int)) (pT 3 1) 3 kr kr kr kr (veq_int _ _) kr ?_;refine sq_run 4 ?_;refine sq_callp 68 82 #[jI op,.int .u64 ([g0,g1,g2,g3,g4,g5,g6,g7,g8,g9,g10,g11,g12,g13,g14,g15].getD ra 0),.int .u64 ([g0,g1,g2,g3,g4,g5,g6,g7,g8,g9,g10,g11,g12,g13,g14,g15].getD rb 0)] (@hreckon_s op ([g0,g1,g2,g3,g4,g5,g6,g7,g8,g9,g10,g11,g12,g13,g14,g15].getD ra 0) ([g0,g1,g2,g3,g4,g5,g6,g7,g8,g9,g10,g11,g12,g13,g14,g15].getD rb 0) ho hA hB) [] kr kr kr (hn_of 0 kr True.intro) kr ⟨kr,kr,kr⟩ ?_;rintro v9 k9 ⟨rfl,rfl⟩;refine⟨rfl,.int .u64 (hI op ([g0,g1,g2,g3,g4,g5,g6,g7,g8,g9,g10,g11,g12,g13,g14,g15].getD ra 0) ([g0,g1,g2,g3,g4,g5,g6,g7,g8,g9,g10,g11,g12,g13,g14,g15].getD rb 0)),kr,?_⟩;refine sq_run 2 ?_;refine sq_ix 71 (pT 0 (0+rd*1)) rd 16 kr kr kr zo kr ?_
 obtain⟨h0,h1,h2,h3,h4,h5,h6,h7,h8,h9,h10,h11,h12,h13,h14,h15,hset,hst⟩:=st_reg (T:=T15) (ty:=27) (g0:=g0) (g1:=g1) (g2:=g2) (g3:=g3) (g4:=g4) (g5:=g5) (g6:=g6) (g7:=g7) (g8:=g8) (g9:=g9) (g10:=g10) (g11:=g11) (g12:=g12) (g13:=g13) (g14:=g14) (g15:=g15) (at9:=(k:Int)) (w:=.slice (some ⟨1,0,none⟩) wn kw) (c:=.slice (some ⟨2,0,none⟩) K.length kc) (v:=(hI op ([g0,g1,g2,g3,g4,g5,g6,g7,g8,g9,g10,g11,g12,g13,g14,g15].getD ra 0) ([g0,g1,g2,g3,g4,g5,g6,g7,g8,g9,g10,g11,g12,g13,g14,g15].getD rb 0))) (i:=rd) kr (by omega);refine sq_st 27 0 (0+rd*1) (.int .u64 (hI op ([g0,g1,g2,g3,g4,g5,g6,g7,g8,g9,g10,g11,g12,g13,g14,g15].getD ra 0) ([g0,g1,g2,g3,g4,g5,g6,g7,g8,g9,g10,g11,g12,g13,g14,g15].getD rb 0))) ([Value.int .u64 h0,.int .u64 h1,.int .u64 h2,.int .u64 h3,.int .u64 h4,.int .u64 h5,.int .u64 h6,.int .u64 h7,.int .u64 h8,.int .u64 h9,.int .u64 h10,.int .u64 h11,.int .u64 h12,.int .u64 h13,.int .u64 h14,.int .u64 h15,sK 1 wn kw,sK 2 K.length kc,jI (k:Int)]) (cells:=[Value.int .u64 g0,.int .u64 g1,.int .u64 g2,.int .u64 g3,.int .u64 g4,.int .u64 g5,.int .u64 g6,.int .u64 g7,.int .u64 g8,.int .u64 g9,.int .u64 g10,.int .u64 g11,.int .u64 g12,.int .u64 g13,.int .u64 g14,.int .u64 g15,sK 1 wn kw,sK 2 K.length kc,jI (k:Int)]) (e:=92) kr kr kr kr kr kr hst ⟨kr,kr,kr⟩ ?_;refine sq_end kr ?_;refine sd_run 17 ?_
 refine zY (jI 0) hX i3_ ⟨h0,h1,h2,h3,h4,h5,h6,h7,h8,h9,h10,h11,h12,h13,h14,h15,hset,rfl,rfl⟩
theorem step_ld{g0 g1 g2 g3 g4 g5 g6 g7 g8 g9 g10 g11 g12 g13 g14 g15:Int}{M:List Int}{K:List II}{kw kc wn k:Nat}{rd ra rb:Nat}{im:Int}{p:Nat}(hwn:M.length=wn)(hlk:K.length<100000)(hrd:rd<16)(hra:ra<16)(hrb:rb<16)(him:0≤im∧im<4294967296)(hx:K[k]? = some (14,(rd:Int),(ra:Int),(rb:Int),im))(hp:([g0,g1,g2,g3,g4,g5,g6,g7,g8,g9,g10,g11,g12,g13,g14,g15].getD ra 0)+im=(p:Int))(hpw:p<wn)(hwb:wn<100000)(hMp:0≤M.getD p 0∧M.getD p 0<4294967296):SC 44 #[pT 0 0] (hq [oB 92 (mcL g0 g1 g2 g3 g4 g5 g6 g7 g8 g9 g10 g11 g12 g13 g14 g15 (sK 1 wn kw) (sK 2 K.length kc) (k:Int)),(uF M),(hhF K)]) fun v h=>∃(h0 h1 h2 h3 h4 h5 h6 h7 h8 h9 h10 h11 h12 h13 h14 h15:Int),[h0,h1,h2,h3,h4,h5,h6,h7,h8,h9,h10,h11,h12,h13,h14,h15]=[g0,g1,g2,g3,g4,g5,g6,g7,g8,g9,g10,g11,g12,g13,g14,g15].set rd (M.getD p 0)∧v=jI 0∧h=hq [oB 92 (mcL h0 h1 h2 h3 h4 h5 h6 h7 h8 h9 h10 h11 h12 h13 h14 h15 (sK 1 wn kw) (sK 2 K.length kc) (((k+1):Nat):Int)),(uF M),(hhF K)]:=by
 have hk9:=(ae.1 hx).1;refine zS Tryz.f44 f44b 144 3 fun X hX=>(zF 13 12 ((k:Int)<0) (zF 11 23 ((k:Int)≥(K.length:Int)) (zX 16 33 (pT 2 (0+k*5)) k K.length (zM 0 34 81 2 81 false hhC_len hx (sd_run 11 (zX 0 40 (pT 0 (0+ra*1)) ra 16 (sd_ld 41 (.int .u64 ([g0,g1,g2,g3,g4,g5,g6,g7,g8,g9,g10,g11,g12,g13,g14,g15].getD ra 0)) 27 (pT 0 (0+ra*1)) kr kr kr (@ld_reg _ _ _ _ 92 false g0 g1 g2 g3 g4 g5 g6 g7 g8 g9 g10 g11 g12 g13 g14 g15 (k:Int) (sK 1 wn kw) (sK 2 K.length kc) ra kr kr kr zo) (zX 5 47 (pT 0 (0+rb*1)) rb 16 (sd_ld 48 (.int .u64 ([g0,g1,g2,g3,g4,g5,g6,g7,g8,g9,g10,g11,g12,g13,g14,g15].getD rb 0)) 27 (pT 0 (0+rb*1)) kr kr kr (@ld_reg _ _ _ _ 92 false g0 g1 g2 g3 g4 g5 g6 g7 g8 g9 g10 g11 g12 g13 g14 g15 (k:Int) (sK 1 wn kw) (sK 2 K.length kc) rb kr kr kr zo) (zI 10 52 .u64 im (IntKind.u64.wrap im) (sd_run 1 ?_)))))))))))
 refine sd_see 53 (.int .u64 (p:Int)) (see_int (x:=(IntKind.u64.wrap (([g0,g1,g2,g3,g4,g5,g6,g7,g8,g9,g10,g11,g12,g13,g14,g15].getD ra 0)+im))) kr (wu64 hp zo zo)) (zI 10 58 .i64 (((k+1):Nat):Int) (IntKind.i64.wrap ((k:Int)+1)) (zI 46 94 .u64 (wn:Int) (IntKind.u64.wrap (wn:Int)) (zF 1 95 ((p:Int)≥(wn:Int)) (sd_run 22 (zX 0 107 (pT 1 (0+p*1)) p wn ?_)))));obtain⟨a1,ha1⟩:=zR M p;refine zL 0 108 (jU a1) 25 1 0 25 false uC_len ha1 (sd_see 108 (jU (M.getD p 0)) (see_int (x:=a1) kr (getD_row ha1).symm) (zI 1 109 .u64 (M.getD p 0) (IntKind.u64.wrap (M.getD p 0)) (zX 2 112 (pT 0 (0+rd*1)) rd 16 ?_)));obtain⟨h0,h1,h2,h3,h4,h5,h6,h7,h8,h9,h10,h11,h12,h13,h14,h15,hset,hst⟩:=st_reg (T:=T15) (ty:=27) (g0:=g0) (g1:=g1) (g2:=g2) (g3:=g3) (g4:=g4) (g5:=g5) (g6:=g6) (g7:=g7) (g8:=g8) (g9:=g9) (g10:=g10) (g11:=g11) (g12:=g12) (g13:=g13) (g14:=g14) (g15:=g15) (at9:=(k:Int)) (w:=.slice (some ⟨1,0,none⟩) wn kw) (c:=.slice (some ⟨2,0,none⟩) K.length kc) (v:=(M.getD p 0)) (i:=rd) kr (by omega)
 refine sd_st 27 0 (0+rd*1) (.int .u64 (M.getD p 0)) ([Value.int .u64 h0,.int .u64 h1,.int .u64 h2,.int .u64 h3,.int .u64 h4,.int .u64 h5,.int .u64 h6,.int .u64 h7,.int .u64 h8,.int .u64 h9,.int .u64 h10,.int .u64 h11,.int .u64 h12,.int .u64 h13,.int .u64 h14,.int .u64 h15,sK 1 wn kw,sK 2 K.length kc,jI (k:Int)]) (cells:=[Value.int .u64 g0,.int .u64 g1,.int .u64 g2,.int .u64 g3,.int .u64 g4,.int .u64 g5,.int .u64 g6,.int .u64 g7,.int .u64 g8,.int .u64 g9,.int .u64 g10,.int .u64 g11,.int .u64 g12,.int .u64 g13,.int .u64 g14,.int .u64 g15,sK 1 wn kw,sK 2 K.length kc,jI (k:Int)]) (e:=92) kr kr kr kr hst (sd_run 18 ?_);refine zY (jI 0) hX i3_ ⟨h0,h1,h2,h3,h4,h5,h6,h7,h8,h9,h10,h11,h12,h13,h14,h15,hset,rfl,rfl⟩
theorem step_st{g0 g1 g2 g3 g4 g5 g6 g7 g8 g9 g10 g11 g12 g13 g14 g15:Int}{M:List Int}{K:List II}{kw kc wn k:Nat}{rd ra rb:Nat}{im:Int}{p:Nat}(hwn:M.length=wn)(hlk:K.length<100000)(hrd:rd<16)(hra:ra<16)(hrb:rb<16)(him:0≤im∧im<4294967296)(hx:K[k]? = some (15,(rd:Int),(ra:Int),(rb:Int),im))(hp:([g0,g1,g2,g3,g4,g5,g6,g7,g8,g9,g10,g11,g12,g13,g14,g15].getD ra 0)+im=(p:Int))(hpw:p<wn)(hwb:wn<100000):SC 44 #[pT 0 0] (hq [oB 92 (mcL g0 g1 g2 g3 g4 g5 g6 g7 g8 g9 g10 g11 g12 g13 g14 g15 (sK 1 wn kw) (sK 2 K.length kc) (k:Int)),(uF M),(hhF K)]) fun v h=>v=jI 0∧h=hq [oB 92 (mcL g0 g1 g2 g3 g4 g5 g6 g7 g8 g9 g10 g11 g12 g13 g14 g15 (sK 1 wn kw) (sK 2 K.length kc) (((k+1):Nat):Int)),(uF (M.set p (([g0,g1,g2,g3,g4,g5,g6,g7,g8,g9,g10,g11,g12,g13,g14,g15].getD rb 0) % 4294967296))),(hhF K)]:=by
 have hk9:=(ae.1 hx).1;refine zS Tryz.f44 f44b 144 3 fun X hX=>(zF 13 12 ((k:Int)<0) (zF 11 23 ((k:Int)≥(K.length:Int)) (zX 16 33 (pT 2 (0+k*5)) k K.length (zM 0 34 81 2 81 false hhC_len hx (sd_run 11 (zX 0 40 (pT 0 (0+ra*1)) ra 16 (sd_ld 41 (.int .u64 ([g0,g1,g2,g3,g4,g5,g6,g7,g8,g9,g10,g11,g12,g13,g14,g15].getD ra 0)) 27 (pT 0 (0+ra*1)) kr kr kr (@ld_reg _ _ _ _ 92 false g0 g1 g2 g3 g4 g5 g6 g7 g8 g9 g10 g11 g12 g13 g14 g15 (k:Int) (sK 1 wn kw) (sK 2 K.length kc) ra kr kr kr zo) (zX 5 47 (pT 0 (0+rb*1)) rb 16 (sd_ld 48 (.int .u64 ([g0,g1,g2,g3,g4,g5,g6,g7,g8,g9,g10,g11,g12,g13,g14,g15].getD rb 0)) 27 (pT 0 (0+rb*1)) kr kr kr (@ld_reg _ _ _ _ 92 false g0 g1 g2 g3 g4 g5 g6 g7 g8 g9 g10 g11 g12 g13 g14 g15 (k:Int) (sK 1 wn kw) (sK 2 K.length kc) rb kr kr kr zo) (zI 10 52 .u64 im (IntKind.u64.wrap im) (sd_run 1 ?_)))))))))))
 refine sd_see 53 (.int .u64 (p:Int)) (see_int (x:=(IntKind.u64.wrap (([g0,g1,g2,g3,g4,g5,g6,g7,g8,g9,g10,g11,g12,g13,g14,g15].getD ra 0)+im))) kr (wu64 hp zo zo)) (zI 10 58 .i64 (((k+1):Nat):Int) (IntKind.i64.wrap ((k:Int)+1)) (zI 49 94 .u64 (wn:Int) (IntKind.u64.wrap (wn:Int)) (zF 1 95 ((p:Int)≥(wn:Int)) (sd_run 21 (sd_see 119 (jU (([g0,g1,g2,g3,g4,g5,g6,g7,g8,g9,g10,g11,g12,g13,g14,g15].getD rb 0) % 4294967296)) (see_int (x:=(IntKind.u32.wrap ([g0,g1,g2,g3,g4,g5,g6,g7,g8,g9,g10,g11,g12,g13,g14,g15].getD rb 0))) kr (IntKind.wrap_u32 _)) (zX 0 120 (pT 1 (0+p*1)) p wn ?_))))));obtain⟨a1,ha1⟩:=zR M p;refine sd_st 25 1 (0+p*1) (jU (([g0,g1,g2,g3,g4,g5,g6,g7,g8,g9,g10,g11,g12,g13,g14,g15].getD rb 0) % 4294967296)) (tab uC ((M).set p (([g0,g1,g2,g3,g4,g5,g6,g7,g8,g9,g10,g11,g12,g13,g14,g15].getD rb 0) % 4294967296))) (cells:=tab uC M) (e:=25) kr kr kr kr (st_cell (k:=p) (j:=0) (a':=(([g0,g1,g2,g3,g4,g5,g6,g7,g8,g9,g10,g11,g12,g13,g14,g15].getD rb 0) % 4294967296)) uC_len kr kr ha1 kr rfl) (sd_run 18 ?_)
 refine sdY (jI 0) hX [oB 92 (mcL g0 g1 g2 g3 g4 g5 g6 g7 g8 g9 g10 g11 g12 g13 g14 g15 (sK 1 wn kw) (sK 2 K.length kc) (((k+1):Nat):Int)),(uF (M.set p (([g0,g1,g2,g3,g4,g5,g6,g7,g8,g9,g10,g11,g12,g13,g14,g15].getD rb 0) % 4294967296))),(hhF K)] i3_ ⟨brn,bk_flat (tab uC ((M).set p (([g0,g1,g2,g3,g4,g5,g6,g7,g8,g9,g10,g11,g12,g13,g14,g15].getD rb 0) % 4294967296))) kr (tab_plain uC_pl _) (by rfl),hhC_b,⟨⟩⟩ ⟨rfl,rfl⟩
theorem step_b16t{g0 g1 g2 g3 g4 g5 g6 g7 g8 g9 g10 g11 g12 g13 g14 g15:Int}{M:List Int}{K:List II}{kw kc wn k:Nat}{rd ra rb:Nat}{n:Nat}(hwn:M.length=wn)(hlk:K.length<100000)(hrd:rd<16)(hra:ra<16)(hrb:rb<16)(hx:K[k]? = some (16,(rd:Int),(ra:Int),(rb:Int),(n:Int)))(hA:([g0,g1,g2,g3,g4,g5,g6,g7,g8,g9,g10,g11,g12,g13,g14,g15].getD ra 0)=0)(hn:n<4294967296):SC 44 #[pT 0 0] (hq [oB 92 (mcL g0 g1 g2 g3 g4 g5 g6 g7 g8 g9 g10 g11 g12 g13 g14 g15 (sK 1 wn kw) (sK 2 K.length kc) (k:Int)),(uF M),(hhF K)]) fun v h=>v=jI 0∧h=hq [oB 92 (mcL g0 g1 g2 g3 g4 g5 g6 g7 g8 g9 g10 g11 g12 g13 g14 g15 (sK 1 wn kw) (sK 2 K.length kc) (n:Int)),(uF M),(hhF K)]:=by
 have hk9:=(ae.1 hx).1;refine zS Tryz.f44 f44b 144 3 fun X hX=>(zF 13 12 ((k:Int)<0) (zF 11 23 ((k:Int)≥(K.length:Int)) (zX 16 33 (pT 2 (0+k*5)) k K.length (zM 0 34 81 2 81 false hhC_len hx (sd_run 11 (zX 0 40 (pT 0 (0+ra*1)) ra 16 (sd_ld 41 (.int .u64 ([g0,g1,g2,g3,g4,g5,g6,g7,g8,g9,g10,g11,g12,g13,g14,g15].getD ra 0)) 27 (pT 0 (0+ra*1)) kr kr kr (@ld_reg _ _ _ _ 92 false g0 g1 g2 g3 g4 g5 g6 g7 g8 g9 g10 g11 g12 g13 g14 g15 (k:Int) (sK 1 wn kw) (sK 2 K.length kc) ra kr kr kr zo) (zX 5 47 (pT 0 (0+rb*1)) rb 16 (sd_ld 48 (.int .u64 ([g0,g1,g2,g3,g4,g5,g6,g7,g8,g9,g10,g11,g12,g13,g14,g15].getD rb 0)) 27 (pT 0 (0+rb*1)) kr kr kr (@ld_reg _ _ _ _ 92 false g0 g1 g2 g3 g4 g5 g6 g7 g8 g9 g10 g11 g12 g13 g14 g15 (k:Int) (sK 1 wn kw) (sK 2 K.length kc) rb kr kr kr zo) (zI 10 52 .u64 (n:Int) (IntKind.u64.wrap (n:Int)) (sd_run 11 ?_)))))))))))
 refine zI 0 58 .i64 (((k+1):Nat):Int) (IntKind.i64.wrap ((k:Int)+1)) (sd_run 54 (sd_see 125 (.bool true) (see_bool (x:=((([g0,g1,g2,g3,g4,g5,g6,g7,g8,g9,g10,g11,g12,g13,g14,g15].getD ra 0):Int) == 0)) kr (ir.2 hA)) (zI 11 132 .i64 (n:Int) (IntKind.i64.wrap (n:Int)) (sd_run 19 ?_))));refine zY (jI 0) hX i3_ ⟨rfl,rfl⟩
theorem step_b16n{g0 g1 g2 g3 g4 g5 g6 g7 g8 g9 g10 g11 g12 g13 g14 g15:Int}{M:List Int}{K:List II}{kw kc wn k:Nat}{rd ra rb:Nat}{n:Nat}(hwn:M.length=wn)(hlk:K.length<100000)(hrd:rd<16)(hra:ra<16)(hrb:rb<16)(hx:K[k]? = some (16,(rd:Int),(ra:Int),(rb:Int),(n:Int)))(hA:¬([g0,g1,g2,g3,g4,g5,g6,g7,g8,g9,g10,g11,g12,g13,g14,g15].getD ra 0)=0)(hn:n<4294967296):SC 44 #[pT 0 0] (hq [oB 92 (mcL g0 g1 g2 g3 g4 g5 g6 g7 g8 g9 g10 g11 g12 g13 g14 g15 (sK 1 wn kw) (sK 2 K.length kc) (k:Int)),(uF M),(hhF K)]) fun v h=>v=jI 0∧h=hq [oB 92 (mcL g0 g1 g2 g3 g4 g5 g6 g7 g8 g9 g10 g11 g12 g13 g14 g15 (sK 1 wn kw) (sK 2 K.length kc) (((k+1):Nat):Int)),(uF M),(hhF K)]:=by
 have hk9:=(ae.1 hx).1;refine zS Tryz.f44 f44b 144 3 fun X hX=>(zF 13 12 ((k:Int)<0) (zF 11 23 ((k:Int)≥(K.length:Int)) (zX 16 33 (pT 2 (0+k*5)) k K.length (zM 0 34 81 2 81 false hhC_len hx (sd_run 11 (zX 0 40 (pT 0 (0+ra*1)) ra 16 (sd_ld 41 (.int .u64 ([g0,g1,g2,g3,g4,g5,g6,g7,g8,g9,g10,g11,g12,g13,g14,g15].getD ra 0)) 27 (pT 0 (0+ra*1)) kr kr kr (@ld_reg _ _ _ _ 92 false g0 g1 g2 g3 g4 g5 g6 g7 g8 g9 g10 g11 g12 g13 g14 g15 (k:Int) (sK 1 wn kw) (sK 2 K.length kc) ra kr kr kr zo) (zX 5 47 (pT 0 (0+rb*1)) rb 16 (sd_ld 48 (.int .u64 ([g0,g1,g2,g3,g4,g5,g6,g7,g8,g9,g10,g11,g12,g13,g14,g15].getD rb 0)) 27 (pT 0 (0+rb*1)) kr kr kr (@ld_reg _ _ _ _ 92 false g0 g1 g2 g3 g4 g5 g6 g7 g8 g9 g10 g11 g12 g13 g14 g15 (k:Int) (sK 1 wn kw) (sK 2 K.length kc) rb kr kr kr zo) (zI 10 52 .u64 (n:Int) (IntKind.u64.wrap (n:Int)) (sd_run 11 (zI 0 58 .i64 (((k+1):Nat):Int) (IntKind.i64.wrap ((k:Int)+1)) (sd_run 54 (sd_see 125 (.bool false) (see_bool (x:=((([g0,g1,g2,g3,g4,g5,g6,g7,g8,g9,g10,g11,g12,g13,g14,g15].getD ra 0):Int) == 0)) kr (aB.2 hA)) (sd_run 25 ?_)))))))))))))))
 refine zY (jI 0) hX i3_ ⟨rfl,rfl⟩
theorem step_b17t{g0 g1 g2 g3 g4 g5 g6 g7 g8 g9 g10 g11 g12 g13 g14 g15:Int}{M:List Int}{K:List II}{kw kc wn k:Nat}{rd ra rb:Nat}{n:Nat}(hwn:M.length=wn)(hlk:K.length<100000)(hrd:rd<16)(hra:ra<16)(hrb:rb<16)(hx:K[k]? = some (17,(rd:Int),(ra:Int),(rb:Int),(n:Int)))(hA:¬([g0,g1,g2,g3,g4,g5,g6,g7,g8,g9,g10,g11,g12,g13,g14,g15].getD ra 0)=0)(hn:n<4294967296):SC 44 #[pT 0 0] (hq [oB 92 (mcL g0 g1 g2 g3 g4 g5 g6 g7 g8 g9 g10 g11 g12 g13 g14 g15 (sK 1 wn kw) (sK 2 K.length kc) (k:Int)),(uF M),(hhF K)]) fun v h=>v=jI 0∧h=hq [oB 92 (mcL g0 g1 g2 g3 g4 g5 g6 g7 g8 g9 g10 g11 g12 g13 g14 g15 (sK 1 wn kw) (sK 2 K.length kc) (n:Int)),(uF M),(hhF K)]:=by
 have hk9:=(ae.1 hx).1;refine zS Tryz.f44 f44b 144 3 fun X hX=>(zF 13 12 ((k:Int)<0) (zF 11 23 ((k:Int)≥(K.length:Int)) (zX 16 33 (pT 2 (0+k*5)) k K.length (zM 0 34 81 2 81 false hhC_len hx (sd_run 11 (zX 0 40 (pT 0 (0+ra*1)) ra 16 (sd_ld 41 (.int .u64 ([g0,g1,g2,g3,g4,g5,g6,g7,g8,g9,g10,g11,g12,g13,g14,g15].getD ra 0)) 27 (pT 0 (0+ra*1)) kr kr kr (@ld_reg _ _ _ _ 92 false g0 g1 g2 g3 g4 g5 g6 g7 g8 g9 g10 g11 g12 g13 g14 g15 (k:Int) (sK 1 wn kw) (sK 2 K.length kc) ra kr kr kr zo) (zX 5 47 (pT 0 (0+rb*1)) rb 16 (sd_ld 48 (.int .u64 ([g0,g1,g2,g3,g4,g5,g6,g7,g8,g9,g10,g11,g12,g13,g14,g15].getD rb 0)) 27 (pT 0 (0+rb*1)) kr kr kr (@ld_reg _ _ _ _ 92 false g0 g1 g2 g3 g4 g5 g6 g7 g8 g9 g10 g11 g12 g13 g14 g15 (k:Int) (sK 1 wn kw) (sK 2 K.length kc) rb kr kr kr zo) (zI 10 52 .u64 (n:Int) (IntKind.u64.wrap (n:Int)) (sd_run 11 ?_)))))))))))
 refine zI 0 58 .i64 (((k+1):Nat):Int) (IntKind.i64.wrap ((k:Int)+1)) (sd_run 57 (sd_see 125 (.bool false) (see_bool (x:=((([g0,g1,g2,g3,g4,g5,g6,g7,g8,g9,g10,g11,g12,g13,g14,g15].getD ra 0):Int) == 0)) kr (aB.2 hA)) (zI 11 132 .i64 (n:Int) (IntKind.i64.wrap (n:Int)) (sd_run 19 ?_))));refine zY (jI 0) hX i3_ ⟨rfl,rfl⟩
theorem step_b17n{g0 g1 g2 g3 g4 g5 g6 g7 g8 g9 g10 g11 g12 g13 g14 g15:Int}{M:List Int}{K:List II}{kw kc wn k:Nat}{rd ra rb:Nat}{n:Nat}(hwn:M.length=wn)(hlk:K.length<100000)(hrd:rd<16)(hra:ra<16)(hrb:rb<16)(hx:K[k]? = some (17,(rd:Int),(ra:Int),(rb:Int),(n:Int)))(hA:([g0,g1,g2,g3,g4,g5,g6,g7,g8,g9,g10,g11,g12,g13,g14,g15].getD ra 0)=0)(hn:n<4294967296):SC 44 #[pT 0 0] (hq [oB 92 (mcL g0 g1 g2 g3 g4 g5 g6 g7 g8 g9 g10 g11 g12 g13 g14 g15 (sK 1 wn kw) (sK 2 K.length kc) (k:Int)),(uF M),(hhF K)]) fun v h=>v=jI 0∧h=hq [oB 92 (mcL g0 g1 g2 g3 g4 g5 g6 g7 g8 g9 g10 g11 g12 g13 g14 g15 (sK 1 wn kw) (sK 2 K.length kc) (((k+1):Nat):Int)),(uF M),(hhF K)]:=by
 have hk9:=(ae.1 hx).1;refine zS Tryz.f44 f44b 144 3 fun X hX=>(zF 13 12 ((k:Int)<0) (zF 11 23 ((k:Int)≥(K.length:Int)) (zX 16 33 (pT 2 (0+k*5)) k K.length (zM 0 34 81 2 81 false hhC_len hx (sd_run 11 (zX 0 40 (pT 0 (0+ra*1)) ra 16 (sd_ld 41 (.int .u64 ([g0,g1,g2,g3,g4,g5,g6,g7,g8,g9,g10,g11,g12,g13,g14,g15].getD ra 0)) 27 (pT 0 (0+ra*1)) kr kr kr (@ld_reg _ _ _ _ 92 false g0 g1 g2 g3 g4 g5 g6 g7 g8 g9 g10 g11 g12 g13 g14 g15 (k:Int) (sK 1 wn kw) (sK 2 K.length kc) ra kr kr kr zo) (zX 5 47 (pT 0 (0+rb*1)) rb 16 (sd_ld 48 (.int .u64 ([g0,g1,g2,g3,g4,g5,g6,g7,g8,g9,g10,g11,g12,g13,g14,g15].getD rb 0)) 27 (pT 0 (0+rb*1)) kr kr kr (@ld_reg _ _ _ _ 92 false g0 g1 g2 g3 g4 g5 g6 g7 g8 g9 g10 g11 g12 g13 g14 g15 (k:Int) (sK 1 wn kw) (sK 2 K.length kc) rb kr kr kr zo) (zI 10 52 .u64 (n:Int) (IntKind.u64.wrap (n:Int)) (sd_run 11 (zI 0 58 .i64 (((k+1):Nat):Int) (IntKind.i64.wrap ((k:Int)+1)) (sd_run 57 (sd_see 125 (.bool true) (see_bool (x:=((([g0,g1,g2,g3,g4,g5,g6,g7,g8,g9,g10,g11,g12,g13,g14,g15].getD ra 0):Int) == 0)) kr (ir.2 hA)) (sd_run 25 ?_)))))))))))))))
 refine zY (jI 0) hX i3_ ⟨rfl,rfl⟩
theorem step_jmp{g0 g1 g2 g3 g4 g5 g6 g7 g8 g9 g10 g11 g12 g13 g14 g15:Int}{M:List Int}{K:List II}{kw kc wn k:Nat}{rd ra rb:Nat}{n:Nat}(hwn:M.length=wn)(hlk:K.length<100000)(hrd:rd<16)(hra:ra<16)(hrb:rb<16)(hx:K[k]? = some (18,(rd:Int),(ra:Int),(rb:Int),(n:Int)))(hn:n<4294967296):SC 44 #[pT 0 0] (hq [oB 92 (mcL g0 g1 g2 g3 g4 g5 g6 g7 g8 g9 g10 g11 g12 g13 g14 g15 (sK 1 wn kw) (sK 2 K.length kc) (k:Int)),(uF M),(hhF K)]) fun v h=>v=jI 0∧h=hq [oB 92 (mcL g0 g1 g2 g3 g4 g5 g6 g7 g8 g9 g10 g11 g12 g13 g14 g15 (sK 1 wn kw) (sK 2 K.length kc) (n:Int)),(uF M),(hhF K)]:=by
 have hk9:=(ae.1 hx).1;refine zS Tryz.f44 f44b 144 3 fun X hX=>(zF 13 12 ((k:Int)<0) (zF 11 23 ((k:Int)≥(K.length:Int)) (zX 16 33 (pT 2 (0+k*5)) k K.length (zM 0 34 81 2 81 false hhC_len hx (sd_run 11 (zX 0 40 (pT 0 (0+ra*1)) ra 16 (sd_ld 41 (.int .u64 ([g0,g1,g2,g3,g4,g5,g6,g7,g8,g9,g10,g11,g12,g13,g14,g15].getD ra 0)) 27 (pT 0 (0+ra*1)) kr kr kr (@ld_reg _ _ _ _ 92 false g0 g1 g2 g3 g4 g5 g6 g7 g8 g9 g10 g11 g12 g13 g14 g15 (k:Int) (sK 1 wn kw) (sK 2 K.length kc) ra kr kr kr zo) (zX 5 47 (pT 0 (0+rb*1)) rb 16 (sd_ld 48 (.int .u64 ([g0,g1,g2,g3,g4,g5,g6,g7,g8,g9,g10,g11,g12,g13,g14,g15].getD rb 0)) 27 (pT 0 (0+rb*1)) kr kr kr (@ld_reg _ _ _ _ 92 false g0 g1 g2 g3 g4 g5 g6 g7 g8 g9 g10 g11 g12 g13 g14 g15 (k:Int) (sK 1 wn kw) (sK 2 K.length kc) rb kr kr kr zo) (zI 10 52 .u64 (n:Int) (IntKind.u64.wrap (n:Int)) (sd_run 11 (zI 0 58 .i64 (((k+1):Nat):Int) (IntKind.i64.wrap ((k:Int)+1)) (zI 64 137 .i64 (n:Int) (IntKind.i64.wrap (n:Int)) (sd_run 19 ?_))))))))))))))
 refine zY (jI 0) hX i3_ ⟨rfl,rfl⟩
theorem step_exit{g0 g1 g2 g3 g4 g5 g6 g7 g8 g9 g10 g11 g12 g13 g14 g15:Int}{M:List Int}{K:List II}{kw kc wn k:Nat}{rd ra rb:Nat}{im:Int}(hwn:M.length=wn)(hlk:K.length<100000)(hrd:rd<16)(hra:ra<16)(hrb:rb<16)(him:0≤im∧im<4294967296)(hx:K[k]? = some (19,(rd:Int),(ra:Int),(rb:Int),im)):SC 44 #[pT 0 0] (hq [oB 92 (mcL g0 g1 g2 g3 g4 g5 g6 g7 g8 g9 g10 g11 g12 g13 g14 g15 (sK 1 wn kw) (sK 2 K.length kc) (k:Int)),(uF M),(hhF K)]) fun v h=>v=jI 1∧h=hq [oB 92 (mcL g0 g1 g2 g3 g4 g5 g6 g7 g8 g9 g10 g11 g12 g13 g14 g15 (sK 1 wn kw) (sK 2 K.length kc) (k:Int)),(uF M),(hhF K)]:=by
 have hk9:=(ae.1 hx).1;refine zS Tryz.f44 f44b 144 3 fun X hX=>(zF 13 12 ((k:Int)<0) (zF 11 23 ((k:Int)≥(K.length:Int)) (zX 16 33 (pT 2 (0+k*5)) k K.length (zM 0 34 81 2 81 false hhC_len hx (sd_run 11 (zX 0 40 (pT 0 (0+ra*1)) ra 16 (sd_ld 41 (.int .u64 ([g0,g1,g2,g3,g4,g5,g6,g7,g8,g9,g10,g11,g12,g13,g14,g15].getD ra 0)) 27 (pT 0 (0+ra*1)) kr kr kr (@ld_reg _ _ _ _ 92 false g0 g1 g2 g3 g4 g5 g6 g7 g8 g9 g10 g11 g12 g13 g14 g15 (k:Int) (sK 1 wn kw) (sK 2 K.length kc) ra kr kr kr zo) (zX 5 47 (pT 0 (0+rb*1)) rb 16 (sd_ld 48 (.int .u64 ([g0,g1,g2,g3,g4,g5,g6,g7,g8,g9,g10,g11,g12,g13,g14,g15].getD rb 0)) 27 (pT 0 (0+rb*1)) kr kr kr (@ld_reg _ _ _ _ 92 false g0 g1 g2 g3 g4 g5 g6 g7 g8 g9 g10 g11 g12 g13 g14 g15 (k:Int) (sK 1 wn kw) (sK 2 K.length kc) rb kr kr kr zo) (zI 10 52 .u64 im (IntKind.u64.wrap im) (sd_run 11 (zI 0 58 .i64 (((k+1):Nat):Int) (IntKind.i64.wrap ((k:Int)+1)) (sd_run 75 ?_)))))))))))))
 refine zY (jI 1) hX i3_ ⟨rfl,rfl⟩
theorem step_all{g0 g1 g2 g3 g4 g5 g6 g7 g8 g9 g10 g11 g12 g13 g14 g15:Int}{M:List Int}{K:List II}{kw kc wn k:Nat}{s s1:MS}{k1:Nat}(hwn:M.length=wn)(hw:wn=256)(hK:AllR K)(hlk:K.length<100000)(hM:W32 M)(hG:U64 [g0,g1,g2,g3,g4,g5,g6,g7,g8,g9,g10,g11,g12,g13,g14,g15])(hS:Sim s [g0,g1,g2,g3,g4,g5,g6,g7,g8,g9,g10,g11,g12,g13,g14,g15] M)(hst:stp K s k=some (s1,k1)):SC 44 #[pT 0 0] (hq [oB 92 (mcL g0 g1 g2 g3 g4 g5 g6 g7 g8 g9 g10 g11 g12 g13 g14 g15 (sK 1 wn kw) (sK 2 K.length kc) (k:Int)),(uF M),(hhF K)]) fun v h=>∃(h0 h1 h2 h3 h4 h5 h6 h7 h8 h9 h10 h11 h12 h13 h14 h15:Int) (M1:List Int),Sim s1 [h0,h1,h2,h3,h4,h5,h6,h7,h8,h9,h10,h11,h12,h13,h14,h15] M1∧M1.length=wn∧W32 M1∧U64 [h0,h1,h2,h3,h4,h5,h6,h7,h8,h9,h10,h11,h12,h13,h14,h15]∧v=jI 0∧h=hq [oB 92 (mcL h0 h1 h2 h3 h4 h5 h6 h7 h8 h9 h10 h11 h12 h13 h14 h15 (sK 1 wn kw) (sK 2 K.length kc) (k1:Int)),(uF M1),(hhF K)]:=by
 obtain⟨x,hx⟩:∃x,K[k]? = some x:=by
  unfold stp at hst;cases h:K[k]? with
  |none=>rw[h]at hst;cases hst
  |some x=>exact⟨x,rfl⟩
 have hr:=hK _ (ah hx);unfold stp at hst;rw[hx]at hst;obtain⟨op,rd,ra,rb,im⟩:=x;obtain⟨h91,h92,h93,h94⟩:=hr_reg hr.1;have him:0≤im∧im<4294967296:=hr.2;simp only at hst h91 h92 h93 h94;obtain⟨rd,rfl⟩:=aa h92.1;obtain⟨ra,rfl⟩:=aa h93.1;obtain⟨rb,rfl⟩:=aa h94.1;have era:s.R (ra:Int)=([g0,g1,g2,g3,g4,g5,g6,g7,g8,g9,g10,g11,g12,g13,g14,g15].getD ra 0):=hS.r ra (by omega);have erb:s.R (rb:Int)=([g0,g1,g2,g3,g4,g5,g6,g7,g8,g9,g10,g11,g12,g13,g14,g15].getD rb 0):=hS.r rb (by omega);rcases(by omega:op=0∨op=1∨(2≤op∧op≤13)∨op=14∨op=15∨op=16∨op=17∨op=18∨op=19)with rfl|rfl|ho|rfl|rfl|rfl|rfl|rfl|rfl
 ·obtain⟨rfl,rfl⟩:s=s1∧k+1=k1:=by simpa using hst
  exact(step_nop hwn hlk (by omega) (by omega) (by omega) him hx).mono fun v h q=>⟨g0,g1,g2,g3,g4,g5,g6,g7,g8,g9,g10,g11,g12,g13,g14,g15,M,hS,hwn,hM,hG,q.1,q.2⟩
 ·obtain⟨rfl,rfl⟩:ex1 (1,(rd:Int),(ra:Int),(rb:Int),im) s=s1∧k+1=k1:=by simpa using hst
  refine(step_li hwn hlk zo zo zo him hx).mono ?_;rintro v h ⟨h0,h1,h2,h3,h4,h5,h6,h7,h8,h9,h10,h11,h12,h13,h14,h15,hset,hv,hh⟩;refine⟨h0,h1,h2,h3,h4,h5,h6,h7,h8,h9,h10,h11,h12,h13,h14,h15,M,?_,hwn,hM,?_,hv,hh⟩
  ·show Sim ⟨up s.R (rd:Int) im,s.M⟩ _ _;rw[hset];exact hS.setR rfl (by omega) im
  ·rw[hset];exact hG.set _ ⟨him.1,by omega⟩
 ·rw[if_pos (by omega),if_neg (by omega)]at hst
  have e:ex1 (op,(rd:Int),(ra:Int),(rb:Int),im) s=⟨up s.R (rd:Int) (hI op ([g0,g1,g2,g3,g4,g5,g6,g7,g8,g9,g10,g11,g12,g13,g14,g15].getD ra 0) ([g0,g1,g2,g3,g4,g5,g6,g7,g8,g9,g10,g11,g12,g13,g14,g15].getD rb 0)),s.M⟩:=by
   unfold ex1;rw[if_neg (by simp only;omega),if_neg (by simp only;omega),if_neg (by simp only;omega)];simp only;rw[era,erb]
  obtain⟨rfl,rfl⟩:ex1 (op,(rd:Int),(ra:Int),(rb:Int),im) s=s1∧k+1=k1:=by simpa using hst
  have hA:=hG ra;have hB:=hG rb;refine(step_op hwn hlk zo zo zo him hx ho hA hB).mono ?_;rintro v h ⟨h0,h1,h2,h3,h4,h5,h6,h7,h8,h9,h10,h11,h12,h13,h14,h15,hset,hv,hh⟩;refine⟨h0,h1,h2,h3,h4,h5,h6,h7,h8,h9,h10,h11,h12,h13,h14,h15,M,?_,hwn,hM,?_,hv,hh⟩
  ·rw[e,hset];exact hS.setR rfl (by omega) _
  ·rw[hset];exact hG.set _ (hI_in hA hB)
 ·rw[if_pos (by omega),if_pos (by omega)]at hst;have ea:atI ((14:Int),(rd:Int),(ra:Int),(rb:Int),im) s=([g0,g1,g2,g3,g4,g5,g6,g7,g8,g9,g10,g11,g12,g13,g14,g15].getD ra 0)+im:=by show s.R (ra:Int)+im=_;rw[era]
  rw[ea]at hst;split at hst
  ·rename_i hp;obtain⟨p,hp9⟩:=aa hp.1
   have e:ex1 ((14:Int),(rd:Int),(ra:Int),(rb:Int),im) s=⟨up s.R (rd:Int) (M.getD p 0),s.M⟩:=by
    show(⟨up s.R (rd:Int) (s.M (atI _ s)),s.M⟩:MS)=_;rw[ea,hp9,hS.m p (by omega)]
   obtain⟨rfl,rfl⟩:ex1 ((14:Int),(rd:Int),(ra:Int),(rb:Int),im) s=s1∧k+1=k1:=by simpa using hst
   refine(step_ld hwn hlk zo zo zo him hx hp9 zo zo (hM p)).mono ?_;rintro v h ⟨h0,h1,h2,h3,h4,h5,h6,h7,h8,h9,h10,h11,h12,h13,h14,h15,hset,hv,hh⟩;refine⟨h0,h1,h2,h3,h4,h5,h6,h7,h8,h9,h10,h11,h12,h13,h14,h15,M,?_,hwn,hM,?_,hv,hh⟩
   ·rw[e,hset];exact hS.setR rfl (by omega) _
   ·rw[hset];exact hG.set _ (by have:=hM p;omega)
  ·cases hst
 ·rw[if_pos (by omega),if_pos (by omega)]at hst;have ea:atI ((15:Int),(rd:Int),(ra:Int),(rb:Int),im) s=([g0,g1,g2,g3,g4,g5,g6,g7,g8,g9,g10,g11,g12,g13,g14,g15].getD ra 0)+im:=by show s.R (ra:Int)+im=_;rw[era]
  rw[ea]at hst;split at hst
  ·rename_i hp;obtain⟨p,hp9⟩:=aa hp.1
   have e:ex1 ((15:Int),(rd:Int),(ra:Int),(rb:Int),im) s=⟨s.R,up s.M (p:Int) (([g0,g1,g2,g3,g4,g5,g6,g7,g8,g9,g10,g11,g12,g13,g14,g15].getD rb 0) % 4294967296)⟩:=by
    show(⟨s.R,up s.M (atI _ s) (s.R (rb:Int) % 4294967296)⟩:MS)=_;rw[ea,hp9,erb]
   obtain⟨rfl,rfl⟩:ex1 ((15:Int),(rd:Int),(ra:Int),(rb:Int),im) s=s1∧k+1=k1:=by simpa using hst
   refine(step_st hwn hlk zo zo zo him hx hp9 zo zo).mono ?_;rintro v h ⟨hv,hh⟩;refine⟨g0,g1,g2,g3,g4,g5,g6,g7,g8,g9,g10,g11,g12,g13,g14,g15,_,?_,by rw[aP];exact hwn,hM.set p zo,hG,hv,hh⟩;rw[e];exact hS.setM (by omega) (by omega) _
  ·cases hst
 ·rw[if_neg (by omega),if_pos (by omega)]at hst;obtain⟨n,rfl⟩:=aa him.1
  by_cases hA:([g0,g1,g2,g3,g4,g5,g6,g7,g8,g9,g10,g11,g12,g13,g14,g15].getD ra 0)=0
  ·have hz:s.R (ra:Int)=0:=by rw[era];exact hA
   obtain⟨rfl,rfl⟩:s=s1∧n=k1:=by simpa[hz]using hst
   exact(step_b16t hwn hlk (by omega) (by omega) (by omega) hx hA (by omega)).mono fun v h q=>⟨g0,g1,g2,g3,g4,g5,g6,g7,g8,g9,g10,g11,g12,g13,g14,g15,M,hS,hwn,hM,hG,q.1,q.2⟩
  ·have hz:¬s.R (ra:Int)=0:=by rw[era];exact hA
   obtain⟨rfl,rfl⟩:s=s1∧k+1=k1:=by simpa[hz]using hst
   exact(step_b16n hwn hlk (by omega) (by omega) (by omega) hx hA (by omega)).mono fun v h q=>⟨g0,g1,g2,g3,g4,g5,g6,g7,g8,g9,g10,g11,g12,g13,g14,g15,M,hS,hwn,hM,hG,q.1,q.2⟩
 ·rw[if_neg (by omega),if_pos (by omega)]at hst;obtain⟨n,rfl⟩:=aa him.1
  by_cases hA:([g0,g1,g2,g3,g4,g5,g6,g7,g8,g9,g10,g11,g12,g13,g14,g15].getD ra 0)=0
  ·have hz:s.R (ra:Int)=0:=by rw[era];exact hA
   obtain⟨rfl,rfl⟩:s=s1∧k+1=k1:=by simpa[hz]using hst
   exact(step_b17n hwn hlk (by omega) (by omega) (by omega) hx hA (by omega)).mono fun v h q=>⟨g0,g1,g2,g3,g4,g5,g6,g7,g8,g9,g10,g11,g12,g13,g14,g15,M,hS,hwn,hM,hG,q.1,q.2⟩
  ·have hz:¬s.R (ra:Int)=0:=by rw[era];exact hA
   obtain⟨rfl,rfl⟩:s=s1∧n=k1:=by simpa[hz]using hst
   exact(step_b17t hwn hlk (by omega) (by omega) (by omega) hx hA (by omega)).mono fun v h q=>⟨g0,g1,g2,g3,g4,g5,g6,g7,g8,g9,g10,g11,g12,g13,g14,g15,M,hS,hwn,hM,hG,q.1,q.2⟩
 ·obtain⟨n,rfl⟩:=aa him.1;obtain⟨rfl,rfl⟩:s=s1∧n=k1:=by simpa using hst
  exact(step_jmp hwn hlk (by omega) (by omega) (by omega) hx (by omega)).mono fun v h q=>⟨g0,g1,g2,g3,g4,g5,g6,g7,g8,g9,g10,g11,g12,g13,g14,g15,M,hS,hwn,hM,hG,q.1,q.2⟩
 ·simp at hst
theorem Steps.last{K:List II}{s t:MS}{k j:Nat}(h:Steps K 0 s k t j):s=t∧k=j:=h
theorem Steps.next{K:List II}{s t:MS}{k j n m:Nat}(h:Steps K (n-m) s k t j)(hm:m<n):∃s1 k1,stp K s k=some (s1,k1)∧Steps K (n-(m+1)) s1 k1 t j:=by
 rw[show n-m=(n-(m+1))+1 by omega]at h;exact h
noncomputable def f19b:Code:=Tryz.f19.body.getD .skip
theorem hrun_s{g0 g1 g2 g3 g4 g5 g6 g7 g8 g9 g10 g11 g12 g13 g14 g15:Int}{M:List Int}{K:List II}{kw kc wn k:Nat}{s t:MS}{n j N:Nat}{im:Int}(hwn:M.length=wn)(hw:wn=256)(hK:AllR K)(hlk:K.length<100000)(hM:W32 M)(hG:U64 [g0,g1,g2,g3,g4,g5,g6,g7,g8,g9,g10,g11,g12,g13,g14,g15])(hS:Sim s [g0,g1,g2,g3,g4,g5,g6,g7,g8,g9,g10,g11,g12,g13,g14,g15] M)(hR:Steps K n s k t j)(hj:K[j]? = some (19,0,0,0,im))(hn:n<N)(hN:N<100000):SC 19 #[pT 0 0,jI (N:Int)] (hq [oB 92 (mcL g0 g1 g2 g3 g4 g5 g6 g7 g8 g9 g10 g11 g12 g13 g14 g15 (sK 1 wn kw) (sK 2 K.length kc) (k:Int)),(uF M),(hhF K)]) fun v h=>∃(h0 h1 h2 h3 h4 h5 h6 h7 h8 h9 h10 h11 h12 h13 h14 h15:Int) (M1:List Int),Sim t [h0,h1,h2,h3,h4,h5,h6,h7,h8,h9,h10,h11,h12,h13,h14,h15] M1∧M1.length=wn∧W32 M1∧U64 [h0,h1,h2,h3,h4,h5,h6,h7,h8,h9,h10,h11,h12,h13,h14,h15]∧v=.tuple #[jI 1,jU im,jI (n:Int)]∧h=hq [oB 92 (mcL h0 h1 h2 h3 h4 h5 h6 h7 h8 h9 h10 h11 h12 h13 h14 h15 (sK 1 wn kw) (sK 2 K.length kc) (j:Int)),(uF M1),(hhF K)]:=by
 refine zS Tryz.f19 f19b 38 3 fun X hX=>(sd_run 14 (sd_loop 38 (cl (cl (cr (cl (cr f19b))))) [.blk 0,.next (cr (cr f19b))] kr kr kr (fun m9 s9=>∃(m:Nat) (s2:MS) (k2:Nat) (a0:Int) (a1:Int) (a2:Int) (a3:Int) (a4:Int) (a5:Int) (a6:Int) (a7:Int) (a8:Int) (a9:Int) (a10:Int) (a11:Int) (a12:Int) (a13:Int) (a14:Int) (a15:Int) (M2:List Int),m9=n-m∧(m≤n)∧(M2.length=wn)∧(W32 M2)∧(U64 [a0,a1,a2,a3,a4,a5,a6,a7,a8,a9,a10,a11,a12,a13,a14,a15])∧(Sim s2 [a0,a1,a2,a3,a4,a5,a6,a7,a8,a9,a10,a11,a12,a13,a14,a15] M2)∧(Steps K (n-m) s2 k2 t j)∧s9=⟨tmL [(0,pT 0 0),(1,jI (N:Int)),(7,jI (m:Int))],hq [oB 92 (mcL a0 a1 a2 a3 a4 a5 a6 a7 a8 a9 a10 a11 a12 a13 a14 a15 (sK 1 wn kw) (sK 2 K.length kc) (k2:Int)),(uF M2),(hhF K)]⟩) (n-0) _ e3_ hX ⟨0,s,k,g0,g1,g2,g3,g4,g5,g6,g7,g8,g9,g10,g11,g12,g13,g14,g15,M,rfl,zo,hwn,hM,hG,hS,hR,rfl⟩ ⟨zs,zt⟩ kr ?_))
 rintro m9 s9 ⟨m,s2,k2,a0,a1,a2,a3,a4,a5,a6,a7,a8,a9,a10,a11,a12,a13,a14,a15,M2,rfl,i1_0,i1_1,i1_2,i1_3,i1_4,i1_5,rfl⟩ R1_ hR1_
 by_cases hlt:m<n
 ·obtain⟨s3,k3,hst9,hrest⟩:=i1_5.next hlt;refine zT 6 11 ((m:Int)<(N:Int)) (sd_run 10 (zC 15 44 #[pT 0 0] (@step_all a0 a1 a2 a3 a4 a5 a6 a7 a8 a9 a10 a11 a12 a13 a14 a15 M2 K kw kc wn k2 s2 s3 k3 i1_1 hw hK hlk i1_2 i1_3 i1_4 hst9) i3_ ?_));rintro Y v9 k9 ⟨h00_,h10_,h20_,h30_,h40_,h50_,h60_,h70_,h80_,h90_,h100_,h110_,h120_,h130_,h140_,h150_,M10_,q1_0,q1_1,q1_2,q1_3,rfl,rfl⟩;refine mkG (jI 0) [oB 92 (mcL h00_ h10_ h20_ h30_ h40_ h50_ h60_ h70_ h80_ h90_ h100_ h110_ h120_ h130_ h140_ h150_ (sK 1 wn kw) (sK 2 K.length kc) (k3:Int)),(uF M10_),(hhF K)] ⟨cvr 0,uC_c 1,cvs 2 Y,⟨⟩⟩ ?_;refine zI 23 13 .i64 ((m+1:Nat):Int) (IntKind.i64.wrap ((m:Int)+1)) (sd_run 2 ?_);refine sd_inv R1_ kr (hR1_ _ (n-(m+1)) _ e3_ zo ⟨m+1,s3,k3,h00_,h10_,h20_,h30_,h40_,h50_,h60_,h70_,h80_,h90_,h100_,h110_,h120_,h130_,h140_,h150_,M10_,rfl,zo,q1_1,q1_2,q1_3,q1_0,hrest,rfl⟩ ⟨zs,zt⟩ kr)
 ·obtain rfl:n=m:=by omega
  rw[Nat.sub_self]at i1_5;obtain⟨hst9,hkj9⟩:=i1_5.last;subst hkj9;have hj9:K[k2]? = some (19,((0:Nat):Int),((0:Nat):Int),((0:Nat):Int),im):=hj;have him9:0≤im∧im<4294967296:=(hK _ (ah hj)).2;have hjl:=(ae.1 hj9).1;refine zT 6 11 ((n:Int)<(N:Int)) (sd_run 10 (zG 15 44 #[pT 0 0] (@step_exit a0 a1 a2 a3 a4 a5 a6 a7 a8 a9 a10 a11 a12 a13 a14 a15 M2 K kw kc wn k2 0 0 0 im i1_1 hlk (by decide) (by decide) (by decide) him9 hj9) i3_ ?_));rintro v9 k9 ⟨rfl,rfl⟩;refine⟨rfl,jI 1,kr,?_⟩;refine zX 34 32 (pT 2 (0+k2*5)) k2 K.length (zL 1 34 (jU im) 25 2 4 81 false hhC_len hj9 (sd_run 13 ?_));refine zY (.tuple #[jI 1,jU im,jI (n:Int)]) hX i3_ ⟨a0,a1,a2,a3,a4,a5,a6,a7,a8,a9,a10,a11,a12,a13,a14,a15,M2,(hst9▸i1_4),i1_1,i1_2,i1_3,rfl,rfl⟩
noncomputable def f97b:Code:=Tryz.f97.body.getD .skip
theorem e_host_s{op:Int}:SC 97 #[jU op] (hq []) fun v h=>∃(v1:Int),v1=hostO op∧v=jI v1∧h=hq []:=by
 refine zS Tryz.f97 f97b 18 0 fun X hX=>?_
 refine zB 18 4 ((op:Int) == 16) (fun hc1=>?_) fun hc1=>?_
 ·refine sd_run 9 ?_;simp only[bd]at hc1;refine zY (jI 3) hX [] ⟨3,(by unfold hostO;(repeat' split)<;>omega),rfl,rfl⟩
 ·refine zB 7 6 ((op:Int) == 18) (fun hc2=>?_) fun hc2=>?_
  ·refine sd_run 9 ?_;simp only[bd]at hc1 hc2;refine zY (jI 5) hX [] ⟨5,(by unfold hostO;(repeat' split)<;>omega),rfl,rfl⟩
  ·refine zB 7 8 ((op:Int) == 19) (fun hc3=>?_) fun hc3=>?_
   ·refine sd_run 9 ?_;simp only[bd]at hc1 hc2 hc3;refine zY (jI 6) hX [] ⟨6,(by unfold hostO;(repeat' split)<;>omega),rfl,rfl⟩
   ·refine zB 7 10 ((op:Int) == 20) (fun hc4=>?_) fun hc4=>?_
    ·refine sd_run 9 ?_;simp only[bd]at hc1 hc2 hc3 hc4;refine zY (jI 7) hX [] ⟨7,(by unfold hostO;(repeat' split)<;>omega),rfl,rfl⟩
    ·refine zB 7 12 ((op:Int) == 21) (fun hc5=>?_) fun hc5=>?_
     ·refine sd_run 9 ?_;simp only[bd]at hc1 hc2 hc3 hc4 hc5;refine zY (jI 8) hX [] ⟨8,(by unfold hostO;(repeat' split)<;>omega),rfl,rfl⟩
     ·refine zB 7 14 ((op:Int) == 22) (fun hc6=>?_) fun hc6=>?_
      ·refine sd_run 9 ?_;simp only[bd]at hc1 hc2 hc3 hc4 hc5 hc6;refine zY (jI 9) hX [] ⟨9,(by unfold hostO;(repeat' split)<;>omega),rfl,rfl⟩
      ·refine zB 7 16 ((op:Int) == 23) (fun hc7=>?_) fun hc7=>?_
       ·refine sd_run 9 ?_;simp only[bd]at hc1 hc2 hc3 hc4 hc5 hc6 hc7;refine zY (jI 10) hX [] ⟨10,(by unfold hostO;(repeat' split)<;>omega),rfl,rfl⟩
       ·refine sd_run 10 ?_;simp only[bd]at hc1 hc2 hc3 hc4 hc5 hc6 hc7;refine zY (jI 4) hX [] ⟨4,(by unfold hostO;(repeat' split)<;>omega),rfl,rfl⟩
noncomputable def f69b:Code:=Tryz.f69.body.getD .skip
theorem e_alu_s{c:List II}{od rd rg sl:List Int}{l:List II}{fix:List Int}{nd nr hd hr fl nx tg br tk ct slots:Int}{op r1 r2 r3:Int}(hll:l.length<80000):SC 69 #[pT 0 0,jU op,jI r1,jI r2,jI r3] (hq (eH c od rd rg sl l fix nd nr hd hr fl nx tg br tk ct slots)) fun v h=>∃(l1:List II),l1=l++aluC op r1 r2 r3∧l1.length≤l.length+3∧v=.tuple #[]∧h=hq (eP c od rd rg sl l1 fix nd nr hd hr fl nx tg br tk ct slots):=by
 refine zS Tryz.f69 f69b 26 8 fun X hX=>(sd_run 4 (zG 12 97 #[jU op] (@e_host_s op ) [] ?_))
 rintro v9 k9 ⟨v10_,q1_0,rfl,rfl⟩;refine⟨rfl,jI v10_,kr,?_⟩;refine sd_run 3 (zC 16 65 #[pT 0 0,jI v10_,jI r1,jI r2,jI r3] (@e_op_s c od rd rg sl l fix nd nr hd hr fl nx tg br tk ct slots v10_ r1 r2 r3 zo) i8_ ?_);rintro Y v9 k9 ⟨l11_,q2_0,q2_1,rfl,rfl⟩;refine mkG (.tuple #[]) [oB 75 (eK c od rd nd nr hd hr fl nx tg br tk ct slots (s5 8 l11_.length) (s1 7 fix.length)),(iiF c),(inF od),(inF rd),(inF rg),(inF sl),none,(inF fix),(hhF l11_)] ⟨cvr 0,cvs 1 Y,cvs 2 Y,cvs 3 Y,cvs 4 Y,cvs 5 Y,cvs 7 Y,hhC_c 8,⟨⟩⟩ ?_;refine zB 15 21 ((op:Int) == 18) (fun hc3=>?_) fun hc3=>?_
 ·refine sd_run 6 ?_;simp only[bd]at hc3;refine zY (.tuple #[]) hX i9_ ⟨l11_,(by rw[q2_0];rw[q1_0];unfold aluC lowO;rw[if_pos (by simp;omega)];simp[mkI,opI,lowC,liI]),zo,rfl,rfl⟩
 ·refine zB 7 21 ((op:Int) == 19) (fun hc4=>?_) fun hc4=>?_
  ·refine sd_run 6 ?_;simp only[bd]at hc3 hc4;refine zY (.tuple #[]) hX i9_ ⟨l11_,(by rw[q2_0];rw[q1_0];unfold aluC lowO;rw[if_pos (by simp;omega)];simp[mkI,opI,lowC,liI]),zo,rfl,rfl⟩
  ·refine zB 7 21 ((op:Int) == 20) (fun hc5=>?_) fun hc5=>?_
   ·refine sd_run 6 ?_;simp only[bd]at hc3 hc4 hc5;refine zY (.tuple #[]) hX i9_ ⟨l11_,(by rw[q2_0];rw[q1_0];unfold aluC lowO;rw[if_pos (by simp;omega)];simp[mkI,opI,lowC,liI]),zo,rfl,rfl⟩
   ·refine zB 6 21 ((op:Int) == 22) (fun hc6=>?_) fun hc6=>?_
    ·refine sd_run 3 ?_;simp only[bd]at hc3 hc4 hc5 hc6;refine zY (.tuple #[]) hX i9_ ⟨l11_,(by rw[q2_0];rw[q1_0];unfold aluC lowO;rw[if_pos (by simp;omega)];simp[mkI,opI,lowC,liI]),zo,rfl,rfl⟩
    ·refine sd_run 4 (zC 20 98 #[pT 0 0,jI r1] (@e_low_s c od rd rg sl l11_ fix nd nr hd hr fl nx tg br tk ct slots r1 zo) (eM [1,2,3,4,5,6,9,8]) ?_);rintro Y v9 k9 ⟨l16_,q7_0,q7_1,rfl,rfl⟩;refine mkG (.tuple #[]) [oB 75 (eK c od rd nd nr hd hr fl nx tg br tk ct slots (s5 9 l16_.length) (s1 7 fix.length)),(iiF c),(inF od),(inF rd),(inF rg),(inF sl),none,(inF fix),none,(hhF l16_)] ⟨cvr 0,cvs 1 Y,cvs 2 Y,cvs 3 Y,cvs 4 Y,cvs 5 Y,cvs 7 Y,hhC_c 8,⟨⟩⟩ ?_;refine sd_run 2 ?_;simp only[bd]at hc3 hc4 hc5 hc6;refine zY (.tuple #[]) hX (eM [1,2,3,4,5,6,7,8,10]) ⟨l16_,(by rw[q7_0,q2_0];rw[q1_0];unfold aluC lowO;rw[if_neg (by simp;omega)];simp[mkI,opI,lowC,liI]),zo,rfl,rfl⟩
noncomputable def f70b:Code:=Tryz.f70.body.getD .skip
theorem e_flag_s{c:List II}{od rd rg sl:List Int}{l:List II}{fix:List Int}{nd nr hd hr fl nx tg br tk ct slots:Int}{op r1 r2:Int}(hll:l.length<70000):SC 70 #[pT 0 0,jU op,jI r1,jI r2] (hq (eH c od rd rg sl l fix nd nr hd hr fl nx tg br tk ct slots)) fun v h=>∃(l1:List II),l1=l++flagC op r1 r2∧l1.length≤l.length+30∧v=.tuple #[]∧h=hq (eP c od rd rg sl l1 fix nd nr hd hr fl nx tg br tk ct slots):=by
 refine zS Tryz.f70 f70b 55 8 fun X hX=>(sd_run 6 (zC 12 69 #[pT 0 0,jU op,jI 9,jI r1,jI r2] (@e_alu_s c od rd rg sl l fix nd nr hd hr fl nx tg br tk ct slots op 9 r1 r2 zo) i8_ ?_))
 rintro Y v9 k9 ⟨l10_,q1_0,q1_1,rfl,rfl⟩;refine mkG (.tuple #[]) [oB 75 (eK c od rd nd nr hd hr fl nx tg br tk ct slots (s5 8 l10_.length) (s1 7 fix.length)),(iiF c),(inF od),(inF rd),(inF rg),(inF sl),none,(inF fix),(hhF l10_)] ⟨cvr 0,cvs 1 Y,cvs 2 Y,cvs 3 Y,cvs 4 Y,cvs 5 Y,cvs 7 Y,hhC_c 8,⟨⟩⟩ ?_;refine sd_run 5 (zC 14 65 #[pT 0 0,jI 13,jI 10,jI 9,jI 15] (@e_op_s c od rd rg sl l10_ fix nd nr hd hr fl nx tg br tk ct slots 13 10 9 15 zo) (eM [1,2,3,4,5,6,9,8]) ?_);rintro Y v9 k9 ⟨l11_,q2_0,q2_1,rfl,rfl⟩;refine mkG (.tuple #[]) [oB 75 (eK c od rd nd nr hd hr fl nx tg br tk ct slots (s5 9 l11_.length) (s1 7 fix.length)),(iiF c),(inF od),(inF rd),(inF rg),(inF sl),none,(inF fix),none,(hhF l11_)] ⟨cvr 0,cvs 1 Y,cvs 2 Y,cvs 3 Y,cvs 4 Y,cvs 5 Y,cvs 7 Y,hhC_c 8,⟨⟩⟩ ?_;refine sd_run 5 (zC 16 99 #[pT 0 0,jI 11,jI 9] (@e_signed_s c od rd rg sl l11_ fix nd nr hd hr fl nx tg br tk ct slots 11 9 zo) (eM [1,2,3,4,5,6,10,8]) ?_);rintro Y v9 k9 ⟨l12_,q3_0,q3_1,rfl,rfl⟩;refine mkG (.tuple #[]) [oB 75 (eK c od rd nd nr hd hr fl nx tg br tk ct slots (s5 10 l12_.length) (s1 7 fix.length)),(iiF c),(inF od),(inF rd),(inF rg),(inF sl),none,(inF fix),none,none,(hhF l12_)] ⟨cvr 0,cvs 1 Y,cvs 2 Y,cvs 3 Y,cvs 4 Y,cvs 5 Y,cvs 7 Y,hhC_c 8,⟨⟩⟩ ?_;refine sd_run 5 (zC 18 100 #[pT 0 0,jI 11,jU 1] (@e_bit_s c od rd rg sl l12_ fix nd nr hd hr fl nx tg br tk ct slots 11 1 zo) (eM [1,2,3,4,5,6,11,8]) ?_)
 rintro Y v9 k9 ⟨l13_,q4_0,q4_1,rfl,rfl⟩;refine mkG (.tuple #[]) [oB 75 (eK c od rd nd nr hd hr fl nx tg br tk ct slots (s5 11 l13_.length) (s1 7 fix.length)),(iiF c),(inF od),(inF rd),(inF rg),(inF sl),none,(inF fix),none,none,none,(hhF l13_)] ⟨cvr 0,cvs 1 Y,cvs 2 Y,cvs 3 Y,cvs 4 Y,cvs 5 Y,cvs 7 Y,hhC_c 8,⟨⟩⟩ ?_;refine zB 15 20 ((op:Int) == 16) (fun hc5=>?_) fun hc5=>?_
 ·refine sd_run 5 (zC 24 65 #[pT 0 0,jI 12,jI 11,jI 9,jI r1] (@e_op_s c od rd rg sl l13_ fix nd nr hd hr fl nx tg br tk ct slots 12 11 9 r1 zo) (eM [1,2,3,4,5,6,12,8]) ?_);rintro Y v9 k9 ⟨l15_,q6_0,q6_1,rfl,rfl⟩;refine mkG (.tuple #[]) [oB 75 (eK c od rd nd nr hd hr fl nx tg br tk ct slots (s5 12 l15_.length) (s1 7 fix.length)),(iiF c),(inF od),(inF rd),(inF rg),(inF sl),none,(inF fix),none,none,none,none,(hhF l15_)] ⟨cvr 0,cvs 1 Y,cvs 2 Y,cvs 3 Y,cvs 4 Y,cvs 5 Y,cvs 7 Y,hhC_c 8,⟨⟩⟩ ?_;refine sd_run 5 (zC 26 100 #[pT 0 0,jI 11,jU 2] (@e_bit_s c od rd rg sl l15_ fix nd nr hd hr fl nx tg br tk ct slots 11 2 zo) (eM [1,2,3,4,5,6,13,8]) ?_);rintro Y v9 k9 ⟨l16_,q7_0,q7_1,rfl,rfl⟩;refine mkG (.tuple #[]) [oB 75 (eK c od rd nd nr hd hr fl nx tg br tk ct slots (s5 13 l16_.length) (s1 7 fix.length)),(iiF c),(inF od),(inF rd),(inF rg),(inF sl),none,(inF fix),none,none,none,none,none,(hhF l16_)] ⟨cvr 0,cvs 1 Y,cvs 2 Y,cvs 3 Y,cvs 4 Y,cvs 5 Y,cvs 7 Y,hhC_c 8,⟨⟩⟩ ?_;refine sd_run 6 (zC 29 65 #[pT 0 0,jI 7,jI 11,jI r1,jI 9] (@e_op_s c od rd rg sl l16_ fix nd nr hd hr fl nx tg br tk ct slots 7 11 r1 9 zo) (eM [1,2,3,4,5,6,14,8]) ?_);rintro Y v9 k9 ⟨l17_,q8_0,q8_1,rfl,rfl⟩
  refine mkG (.tuple #[]) [oB 75 (eK c od rd nd nr hd hr fl nx tg br tk ct slots (s5 14 l17_.length) (s1 7 fix.length)),(iiF c),(inF od),(inF rd),(inF rg),(inF sl),none,(inF fix),none,none,none,none,none,none,(hhF l17_)] ⟨cvr 0,cvs 1 Y,cvs 2 Y,cvs 3 Y,cvs 4 Y,cvs 5 Y,cvs 7 Y,hhC_c 8,⟨⟩⟩ ?_;refine sd_run 5 (zC 32 65 #[pT 0 0,jI 7,jI 12,jI r2,jI 9] (@e_op_s c od rd rg sl l17_ fix nd nr hd hr fl nx tg br tk ct slots 7 12 r2 9 zo) (eM [1,2,3,4,5,6,15,8]) ?_);rintro Y v9 k9 ⟨l18_,q9_0,q9_1,rfl,rfl⟩;refine mkG (.tuple #[]) [oB 75 (eK c od rd nd nr hd hr fl nx tg br tk ct slots (s5 15 l18_.length) (s1 7 fix.length)),(iiF c),(inF od),(inF rd),(inF rg),(inF sl),none,(inF fix),none,none,none,none,none,none,none,(hhF l18_)] ⟨cvr 0,cvs 1 Y,cvs 2 Y,cvs 3 Y,cvs 4 Y,cvs 5 Y,cvs 7 Y,hhC_c 8,⟨⟩⟩ ?_;refine sd_run 6 (zC 50 65 #[pT 0 0,jI 5,jI 11,jI 11,jI 12] (@e_op_s c od rd rg sl l18_ fix nd nr hd hr fl nx tg br tk ct slots 5 11 11 12 zo) (eM [1,2,3,4,5,6,16,8]) ?_);rintro Y v9 k9 ⟨l19_,q10_0,q10_1,rfl,rfl⟩;refine mkG (.tuple #[]) [oB 75 (eK c od rd nd nr hd hr fl nx tg br tk ct slots (s5 16 l19_.length) (s1 7 fix.length)),(iiF c),(inF od),(inF rd),(inF rg),(inF sl),none,(inF fix),none,none,none,none,none,none,none,none,(hhF l19_)] ⟨cvr 0,cvs 1 Y,cvs 2 Y,cvs 3 Y,cvs 4 Y,cvs 5 Y,cvs 7 Y,hhC_c 8,⟨⟩⟩ ?_
  refine sd_run 5 (zC 52 99 #[pT 0 0,jI 11,jI 11] (@e_signed_s c od rd rg sl l19_ fix nd nr hd hr fl nx tg br tk ct slots 11 11 zo) (eM [1,2,3,4,5,6,17,8]) ?_);rintro Y v9 k9 ⟨l110_,q11_0,q11_1,rfl,rfl⟩;refine mkG (.tuple #[]) [oB 75 (eK c od rd nd nr hd hr fl nx tg br tk ct slots (s5 17 l110_.length) (s1 7 fix.length)),(iiF c),(inF od),(inF rd),(inF rg),(inF sl),none,(inF fix),none,none,none,none,none,none,none,none,none,(hhF l110_)] ⟨cvr 0,cvs 1 Y,cvs 2 Y,cvs 3 Y,cvs 4 Y,cvs 5 Y,cvs 7 Y,hhC_c 8,⟨⟩⟩ ?_;refine sd_run 4 (zC 54 100 #[pT 0 0,jI 11,jU 3] (@e_bit_s c od rd rg sl l110_ fix nd nr hd hr fl nx tg br tk ct slots 11 3 zo) (eM [1,2,3,4,5,6,18,8]) ?_);rintro Y v9 k9 ⟨l111_,q12_0,q12_1,rfl,rfl⟩;refine mkG (.tuple #[]) [oB 75 (eK c od rd nd nr hd hr fl nx tg br tk ct slots (s5 18 l111_.length) (s1 7 fix.length)),(iiF c),(inF od),(inF rd),(inF rg),(inF sl),none,(inF fix),none,none,none,none,none,none,none,none,none,none,(hhF l111_)] ⟨cvr 0,cvs 1 Y,cvs 2 Y,cvs 3 Y,cvs 4 Y,cvs 5 Y,cvs 7 Y,hhC_c 8,⟨⟩⟩ ?_;refine sd_run 1 ?_;simp only[bd]at hc5;refine zY (.tuple #[]) hX (eM [1,2,3,4,5,6,7,8,19]) ⟨l111_,(by rw[q12_0,q11_0,q10_0,q9_0,q8_0,q7_0,q6_0,q4_0,q3_0,q2_0,q1_0];unfold flagC;(first|rw[if_pos zo]|rw[if_neg zo,if_pos zo]|rw[if_neg zo,if_neg zo]);all_goals simp[mkI,opI,liI,signC,bitC,ovC]),zo,rfl,rfl⟩
 ·refine zB 8 33 ((op:Int) == 17) (fun hc13=>?_) fun hc13=>?_
  ·refine sd_run 9 (zC 39 65 #[pT 0 0,jI 12,jI 11,jI r1,jI r2] (@e_op_s c od rd rg sl l13_ fix nd nr hd hr fl nx tg br tk ct slots 12 11 r1 r2 zo) (eM [1,2,3,4,5,6,12,8]) ?_);rintro Y v9 k9 ⟨l113_,q14_0,q14_1,rfl,rfl⟩;refine mkG (.tuple #[]) [oB 75 (eK c od rd nd nr hd hr fl nx tg br tk ct slots (s5 12 l113_.length) (s1 7 fix.length)),(iiF c),(inF od),(inF rd),(inF rg),(inF sl),none,(inF fix),none,none,none,none,(hhF l113_)] ⟨cvr 0,cvs 1 Y,cvs 2 Y,cvs 3 Y,cvs 4 Y,cvs 5 Y,cvs 7 Y,hhC_c 8,⟨⟩⟩ ?_;refine sd_run 5 (zC 41 100 #[pT 0 0,jI 11,jU 2] (@e_bit_s c od rd rg sl l113_ fix nd nr hd hr fl nx tg br tk ct slots 11 2 zo) (eM [1,2,3,4,5,6,13,8]) ?_);rintro Y v9 k9 ⟨l114_,q15_0,q15_1,rfl,rfl⟩;refine mkG (.tuple #[]) [oB 75 (eK c od rd nd nr hd hr fl nx tg br tk ct slots (s5 13 l114_.length) (s1 7 fix.length)),(iiF c),(inF od),(inF rd),(inF rg),(inF sl),none,(inF fix),none,none,none,none,none,(hhF l114_)] ⟨cvr 0,cvs 1 Y,cvs 2 Y,cvs 3 Y,cvs 4 Y,cvs 5 Y,cvs 7 Y,hhC_c 8,⟨⟩⟩ ?_;refine sd_run 7 (zC 45 65 #[pT 0 0,jI 7,jI 11,jI r1,jI r2] (@e_op_s c od rd rg sl l114_ fix nd nr hd hr fl nx tg br tk ct slots 7 11 r1 r2 zo) (eM [1,2,3,4,5,6,14,8]) ?_);rintro Y v9 k9 ⟨l115_,q16_0,q16_1,rfl,rfl⟩
   refine mkG (.tuple #[]) [oB 75 (eK c od rd nd nr hd hr fl nx tg br tk ct slots (s5 14 l115_.length) (s1 7 fix.length)),(iiF c),(inF od),(inF rd),(inF rg),(inF sl),none,(inF fix),none,none,none,none,none,none,(hhF l115_)] ⟨cvr 0,cvs 1 Y,cvs 2 Y,cvs 3 Y,cvs 4 Y,cvs 5 Y,cvs 7 Y,hhC_c 8,⟨⟩⟩ ?_;refine sd_run 5 (zC 48 65 #[pT 0 0,jI 7,jI 12,jI r1,jI 9] (@e_op_s c od rd rg sl l115_ fix nd nr hd hr fl nx tg br tk ct slots 7 12 r1 9 zo) (eM [1,2,3,4,5,6,15,8]) ?_);rintro Y v9 k9 ⟨l116_,q17_0,q17_1,rfl,rfl⟩;refine mkG (.tuple #[]) [oB 75 (eK c od rd nd nr hd hr fl nx tg br tk ct slots (s5 15 l116_.length) (s1 7 fix.length)),(iiF c),(inF od),(inF rd),(inF rg),(inF sl),none,(inF fix),none,none,none,none,none,none,none,(hhF l116_)] ⟨cvr 0,cvs 1 Y,cvs 2 Y,cvs 3 Y,cvs 4 Y,cvs 5 Y,cvs 7 Y,hhC_c 8,⟨⟩⟩ ?_;refine sd_run 6 (zC 50 65 #[pT 0 0,jI 5,jI 11,jI 11,jI 12] (@e_op_s c od rd rg sl l116_ fix nd nr hd hr fl nx tg br tk ct slots 5 11 11 12 zo) (eM [1,2,3,4,5,6,16,8]) ?_);rintro Y v9 k9 ⟨l117_,q18_0,q18_1,rfl,rfl⟩;refine mkG (.tuple #[]) [oB 75 (eK c od rd nd nr hd hr fl nx tg br tk ct slots (s5 16 l117_.length) (s1 7 fix.length)),(iiF c),(inF od),(inF rd),(inF rg),(inF sl),none,(inF fix),none,none,none,none,none,none,none,none,(hhF l117_)] ⟨cvr 0,cvs 1 Y,cvs 2 Y,cvs 3 Y,cvs 4 Y,cvs 5 Y,cvs 7 Y,hhC_c 8,⟨⟩⟩ ?_
   refine sd_run 5 (zC 52 99 #[pT 0 0,jI 11,jI 11] (@e_signed_s c od rd rg sl l117_ fix nd nr hd hr fl nx tg br tk ct slots 11 11 zo) (eM [1,2,3,4,5,6,17,8]) ?_);rintro Y v9 k9 ⟨l118_,q19_0,q19_1,rfl,rfl⟩;refine mkG (.tuple #[]) [oB 75 (eK c od rd nd nr hd hr fl nx tg br tk ct slots (s5 17 l118_.length) (s1 7 fix.length)),(iiF c),(inF od),(inF rd),(inF rg),(inF sl),none,(inF fix),none,none,none,none,none,none,none,none,none,(hhF l118_)] ⟨cvr 0,cvs 1 Y,cvs 2 Y,cvs 3 Y,cvs 4 Y,cvs 5 Y,cvs 7 Y,hhC_c 8,⟨⟩⟩ ?_;refine sd_run 4 (zC 54 100 #[pT 0 0,jI 11,jU 3] (@e_bit_s c od rd rg sl l118_ fix nd nr hd hr fl nx tg br tk ct slots 11 3 zo) (eM [1,2,3,4,5,6,18,8]) ?_);rintro Y v9 k9 ⟨l119_,q20_0,q20_1,rfl,rfl⟩;refine mkG (.tuple #[]) [oB 75 (eK c od rd nd nr hd hr fl nx tg br tk ct slots (s5 18 l119_.length) (s1 7 fix.length)),(iiF c),(inF od),(inF rd),(inF rg),(inF sl),none,(inF fix),none,none,none,none,none,none,none,none,none,none,(hhF l119_)] ⟨cvr 0,cvs 1 Y,cvs 2 Y,cvs 3 Y,cvs 4 Y,cvs 5 Y,cvs 7 Y,hhC_c 8,⟨⟩⟩ ?_;refine sd_run 1 ?_;simp only[bd]at hc5 hc13;refine zY (.tuple #[]) hX (eM [1,2,3,4,5,6,7,8,19]) ⟨l119_,(by rw[q20_0,q19_0,q18_0,q17_0,q16_0,q15_0,q14_0,q4_0,q3_0,q2_0,q1_0];unfold flagC;(first|rw[if_pos zo]|rw[if_neg zo,if_pos zo]|rw[if_neg zo,if_neg zo]);all_goals simp[mkI,opI,liI,signC,bitC,ovC]),zo,rfl,rfl⟩
  ·refine zB 6 33 ((op:Int) == 25) (fun hc21=>?_) fun hc21=>?_
   ·refine sd_run 6 (zC 39 65 #[pT 0 0,jI 12,jI 11,jI r1,jI r2] (@e_op_s c od rd rg sl l13_ fix nd nr hd hr fl nx tg br tk ct slots 12 11 r1 r2 zo) (eM [1,2,3,4,5,6,12,8]) ?_);rintro Y v9 k9 ⟨l121_,q22_0,q22_1,rfl,rfl⟩;refine mkG (.tuple #[]) [oB 75 (eK c od rd nd nr hd hr fl nx tg br tk ct slots (s5 12 l121_.length) (s1 7 fix.length)),(iiF c),(inF od),(inF rd),(inF rg),(inF sl),none,(inF fix),none,none,none,none,(hhF l121_)] ⟨cvr 0,cvs 1 Y,cvs 2 Y,cvs 3 Y,cvs 4 Y,cvs 5 Y,cvs 7 Y,hhC_c 8,⟨⟩⟩ ?_;refine sd_run 5 (zC 41 100 #[pT 0 0,jI 11,jU 2] (@e_bit_s c od rd rg sl l121_ fix nd nr hd hr fl nx tg br tk ct slots 11 2 zo) (eM [1,2,3,4,5,6,13,8]) ?_);rintro Y v9 k9 ⟨l122_,q23_0,q23_1,rfl,rfl⟩;refine mkG (.tuple #[]) [oB 75 (eK c od rd nd nr hd hr fl nx tg br tk ct slots (s5 13 l122_.length) (s1 7 fix.length)),(iiF c),(inF od),(inF rd),(inF rg),(inF sl),none,(inF fix),none,none,none,none,none,(hhF l122_)] ⟨cvr 0,cvs 1 Y,cvs 2 Y,cvs 3 Y,cvs 4 Y,cvs 5 Y,cvs 7 Y,hhC_c 8,⟨⟩⟩ ?_;refine sd_run 7 (zC 45 65 #[pT 0 0,jI 7,jI 11,jI r1,jI r2] (@e_op_s c od rd rg sl l122_ fix nd nr hd hr fl nx tg br tk ct slots 7 11 r1 r2 zo) (eM [1,2,3,4,5,6,14,8]) ?_);rintro Y v9 k9 ⟨l123_,q24_0,q24_1,rfl,rfl⟩
    refine mkG (.tuple #[]) [oB 75 (eK c od rd nd nr hd hr fl nx tg br tk ct slots (s5 14 l123_.length) (s1 7 fix.length)),(iiF c),(inF od),(inF rd),(inF rg),(inF sl),none,(inF fix),none,none,none,none,none,none,(hhF l123_)] ⟨cvr 0,cvs 1 Y,cvs 2 Y,cvs 3 Y,cvs 4 Y,cvs 5 Y,cvs 7 Y,hhC_c 8,⟨⟩⟩ ?_;refine sd_run 5 (zC 48 65 #[pT 0 0,jI 7,jI 12,jI r1,jI 9] (@e_op_s c od rd rg sl l123_ fix nd nr hd hr fl nx tg br tk ct slots 7 12 r1 9 zo) (eM [1,2,3,4,5,6,15,8]) ?_);rintro Y v9 k9 ⟨l124_,q25_0,q25_1,rfl,rfl⟩;refine mkG (.tuple #[]) [oB 75 (eK c od rd nd nr hd hr fl nx tg br tk ct slots (s5 15 l124_.length) (s1 7 fix.length)),(iiF c),(inF od),(inF rd),(inF rg),(inF sl),none,(inF fix),none,none,none,none,none,none,none,(hhF l124_)] ⟨cvr 0,cvs 1 Y,cvs 2 Y,cvs 3 Y,cvs 4 Y,cvs 5 Y,cvs 7 Y,hhC_c 8,⟨⟩⟩ ?_;refine sd_run 6 (zC 50 65 #[pT 0 0,jI 5,jI 11,jI 11,jI 12] (@e_op_s c od rd rg sl l124_ fix nd nr hd hr fl nx tg br tk ct slots 5 11 11 12 zo) (eM [1,2,3,4,5,6,16,8]) ?_);rintro Y v9 k9 ⟨l125_,q26_0,q26_1,rfl,rfl⟩;refine mkG (.tuple #[]) [oB 75 (eK c od rd nd nr hd hr fl nx tg br tk ct slots (s5 16 l125_.length) (s1 7 fix.length)),(iiF c),(inF od),(inF rd),(inF rg),(inF sl),none,(inF fix),none,none,none,none,none,none,none,none,(hhF l125_)] ⟨cvr 0,cvs 1 Y,cvs 2 Y,cvs 3 Y,cvs 4 Y,cvs 5 Y,cvs 7 Y,hhC_c 8,⟨⟩⟩ ?_
    refine sd_run 5 (zC 52 99 #[pT 0 0,jI 11,jI 11] (@e_signed_s c od rd rg sl l125_ fix nd nr hd hr fl nx tg br tk ct slots 11 11 zo) (eM [1,2,3,4,5,6,17,8]) ?_);rintro Y v9 k9 ⟨l126_,q27_0,q27_1,rfl,rfl⟩;refine mkG (.tuple #[]) [oB 75 (eK c od rd nd nr hd hr fl nx tg br tk ct slots (s5 17 l126_.length) (s1 7 fix.length)),(iiF c),(inF od),(inF rd),(inF rg),(inF sl),none,(inF fix),none,none,none,none,none,none,none,none,none,(hhF l126_)] ⟨cvr 0,cvs 1 Y,cvs 2 Y,cvs 3 Y,cvs 4 Y,cvs 5 Y,cvs 7 Y,hhC_c 8,⟨⟩⟩ ?_;refine sd_run 4 (zC 54 100 #[pT 0 0,jI 11,jU 3] (@e_bit_s c od rd rg sl l126_ fix nd nr hd hr fl nx tg br tk ct slots 11 3 zo) (eM [1,2,3,4,5,6,18,8]) ?_);rintro Y v9 k9 ⟨l127_,q28_0,q28_1,rfl,rfl⟩;refine mkG (.tuple #[]) [oB 75 (eK c od rd nd nr hd hr fl nx tg br tk ct slots (s5 18 l127_.length) (s1 7 fix.length)),(iiF c),(inF od),(inF rd),(inF rg),(inF sl),none,(inF fix),none,none,none,none,none,none,none,none,none,none,(hhF l127_)] ⟨cvr 0,cvs 1 Y,cvs 2 Y,cvs 3 Y,cvs 4 Y,cvs 5 Y,cvs 7 Y,hhC_c 8,⟨⟩⟩ ?_;refine sd_run 1 ?_;simp only[bd]at hc5 hc13 hc21;refine zY (.tuple #[]) hX (eM [1,2,3,4,5,6,7,8,19]) ⟨l127_,(by rw[q28_0,q27_0,q26_0,q25_0,q24_0,q23_0,q22_0,q4_0,q3_0,q2_0,q1_0];unfold flagC;(first|rw[if_pos zo]|rw[if_neg zo,if_pos zo]|rw[if_neg zo,if_neg zo]);all_goals simp[mkI,opI,liI,signC,bitC,ovC]),zo,rfl,rfl⟩
   ·refine sd_run 4 ?_;simp only[bd]at hc5 hc13 hc21;refine zY (.tuple #[]) hX (eM [1,2,3,4,5,6,7,8,12]) ⟨l13_,(by rw[q4_0,q3_0,q2_0,q1_0];unfold flagC;(first|rw[if_pos zo]|rw[if_neg zo,if_pos zo]|rw[if_neg zo,if_neg zo]);all_goals simp[mkI,opI,liI,signC,bitC,ovC]),zo,rfl,rfl⟩
noncomputable def f27b:Code:=Tryz.f27.body.getD .skip
theorem e_one0_s{c:List II}{od rd rg sl:List Int}{l:List II}{fix:List Int}{nd nr hd hr fl nx tg br tk ct slots:Int}{N:Nat}{im:Int}(hll:l.length<60000)(hrg:rg.length=c.length)(hsl:sl.length=c.length)(hs:∀N:Nat,N<c.length→rg.getD N 0<0→0≤sl.getD N 0∧sl.getD N 0<192)(hN:N<c.length):SC 27 #[pT 0 0,jI (N:Int),(c5A 0 (N:Int) 0 0 im)] (hq (eH c od rd rg sl l fix nd nr hd hr fl nx tg br tk ct slots)) fun v h=>∃(l1:List II),l1=l++oneC rg sl nd nr N (0,(N:Int),0,0,im)∧l1.length≤l.length+34∧v=.tuple #[]∧h=hq (eP c od rd rg sl l1 fix nd nr hd hr fl nx tg br tk ct slots):=by
 refine zS Tryz.f27 f27b 99 8 fun X hX=>(sd_run 9 (zC 13 67 #[pT 0 0,jI (N:Int)] (@e_to_s c od rd rg sl l fix nd nr hd hr fl nx tg br tk ct slots N hrg hsl zo (hs _ zo)) i8_ ?_))
 rintro Y v9 k9 ⟨v10_,q1_0,rfl,rfl⟩;refine mkG (jI v10_) [oB 75 (eK c od rd nd nr hd hr fl nx tg br tk ct slots (s5 6 l.length) (s1 7 fix.length)),(iiF c),(inF od),(inF rd),(inF rg),(inF sl),(hhF l),(inF fix),oB 62 (c5L 0 (N:Int) 0 0 im)] ⟨cvs 0 Y,cvs 1 Y,cvs 2 Y,cvs 3 Y,cvs 4 Y,cvs 5 Y,cvs 6 Y,cvs 7 Y,cvo,⟨⟩⟩ ?_;refine sd_run 23 (zC 22 25 #[pT 0 0,jI v10_,jU im] (@e_li_s c od rd rg sl l fix nd nr hd hr fl nx tg br tk ct slots v10_ im zo) i8_ ?_);rintro Y v9 k9 ⟨l11_,q2_0,q2_1,rfl,rfl⟩;refine mkG (.tuple #[]) [oB 75 (eK c od rd nd nr hd hr fl nx tg br tk ct slots (s5 9 l11_.length) (s1 7 fix.length)),(iiF c),(inF od),(inF rd),(inF rg),(inF sl),none,(inF fix),oB 62 (c5L 0 (N:Int) 0 0 im),(hhF l11_)] ⟨cvr 0,cvs 1 Y,cvs 2 Y,cvs 3 Y,cvs 4 Y,cvs 5 Y,cvs 7 Y,cvo,hhC_c 8,⟨⟩⟩ ?_;refine sd_run 7 (zC 98 71 #[pT 0 0,jI (N:Int),jI v10_] (@e_keep_s c od rd rg sl l11_ fix nd nr hd hr fl nx tg br tk ct slots N v10_ zo hrg hsl zo (hs _ zo)) (eM [1,2,3,4,5,6,10,8]) ?_);rintro Y v9 k9 ⟨l12_,q3_0,q3_1,rfl,rfl⟩;refine mkG (.tuple #[]) [oB 75 (eK c od rd nd nr hd hr fl nx tg br tk ct slots (s5 10 l12_.length) (s1 7 fix.length)),(iiF c),(inF od),(inF rd),(inF rg),(inF sl),none,(inF fix),oB 62 (c5L 0 (N:Int) 0 0 im),none,(hhF l12_)] ⟨cvr 0,cvs 1 Y,cvs 2 Y,cvs 3 Y,cvs 4 Y,cvs 5 Y,cvs 7 Y,cvo,hhC_c 8,⟨⟩⟩ ?_;refine sd_run 1 ?_
 refine zY (.tuple #[]) hX (eM [1,2,3,4,5,6,7,8,11]) ⟨l12_,(by subst_vars;simp[mkI,oneC,valC,liI,ldI,opI]),zo,rfl,rfl⟩
theorem e_one1_s{c:List II}{od rd rg sl:List Int}{l:List II}{fix:List Int}{nd nr hd hr fl nx tg br tk ct slots:Int}{N:Nat}{im:Int}(hll:l.length<60000)(hrg:rg.length=c.length)(hsl:sl.length=c.length)(hs:∀N:Nat,N<c.length→rg.getD N 0<0→0≤sl.getD N 0∧sl.getD N 0<192)(hN:N<c.length)(h1:0≤im∧im<nd∧nd≤16):SC 27 #[pT 0 0,jI (N:Int),(c5A 1 (N:Int) 0 0 im)] (hq (eH c od rd rg sl l fix nd nr hd hr fl nx tg br tk ct slots)) fun v h=>∃(l1:List II),l1=l++oneC rg sl nd nr N (1,(N:Int),0,0,im)∧l1.length≤l.length+34∧v=.tuple #[]∧h=hq (eP c od rd rg sl l1 fix nd nr hd hr fl nx tg br tk ct slots):=by
 refine zS Tryz.f27 f27b 99 8 fun X hX=>(sd_run 9 (zC 13 67 #[pT 0 0,jI (N:Int)] (@e_to_s c od rd rg sl l fix nd nr hd hr fl nx tg br tk ct slots N hrg hsl zo (hs _ zo)) i8_ ?_))
 rintro Y v9 k9 ⟨v10_,q1_0,rfl,rfl⟩;refine mkG (jI v10_) [oB 75 (eK c od rd nd nr hd hr fl nx tg br tk ct slots (s5 6 l.length) (s1 7 fix.length)),(iiF c),(inF od),(inF rd),(inF rg),(inF sl),(hhF l),(inF fix),oB 62 (c5L 1 (N:Int) 0 0 im)] ⟨cvs 0 Y,cvs 1 Y,cvs 2 Y,cvs 3 Y,cvs 4 Y,cvs 5 Y,cvs 6 Y,cvs 7 Y,cvo,⟨⟩⟩ ?_;refine zI 34 32 .i64 (4+nd) (IntKind.i64.wrap (4+nd)) (zI 1 33 .i64 (4+nd-1) (IntKind.i64.wrap ((4+nd)-1)) (zI 3 36 .i64 im (IntKind.i64.wrap im) (zI 1 37 .i64 (4+nd-1-im) (IntKind.i64.wrap ((4+nd-1)-im)) (zI 1 38 .u32 (4+nd-1-im) (IntKind.u32.wrap (4+nd-1-im)) (zC 39 64 #[pT 0 0,jI v10_,jI 14,jU (4+nd-1-im)] (@e_ld_s c od rd rg sl l fix nd nr hd hr fl nx tg br tk ct slots v10_ 14 (4+nd-1-im) zo) i8_ ?_)))));rintro Y v9 k9 ⟨l11_,q2_0,q2_1,rfl,rfl⟩;refine mkG (.tuple #[]) [oB 75 (eK c od rd nd nr hd hr fl nx tg br tk ct slots (s5 9 l11_.length) (s1 7 fix.length)),(iiF c),(inF od),(inF rd),(inF rg),(inF sl),none,(inF fix),oB 62 (c5L 1 (N:Int) 0 0 im),(hhF l11_)] ⟨cvr 0,cvs 1 Y,cvs 2 Y,cvs 3 Y,cvs 4 Y,cvs 5 Y,cvs 7 Y,cvo,hhC_c 8,⟨⟩⟩ ?_;refine sd_run 7 (zC 98 71 #[pT 0 0,jI (N:Int),jI v10_] (@e_keep_s c od rd rg sl l11_ fix nd nr hd hr fl nx tg br tk ct slots N v10_ zo hrg hsl zo (hs _ zo)) (eM [1,2,3,4,5,6,10,8]) ?_);rintro Y v9 k9 ⟨l12_,q3_0,q3_1,rfl,rfl⟩
 refine mkG (.tuple #[]) [oB 75 (eK c od rd nd nr hd hr fl nx tg br tk ct slots (s5 10 l12_.length) (s1 7 fix.length)),(iiF c),(inF od),(inF rd),(inF rg),(inF sl),none,(inF fix),oB 62 (c5L 1 (N:Int) 0 0 im),none,(hhF l12_)] ⟨cvr 0,cvs 1 Y,cvs 2 Y,cvs 3 Y,cvs 4 Y,cvs 5 Y,cvs 7 Y,cvo,hhC_c 8,⟨⟩⟩ ?_;refine sd_run 1 ?_;refine zY (.tuple #[]) hX (eM [1,2,3,4,5,6,7,8,11]) ⟨l12_,(by subst_vars;simp[mkI,oneC,valC,liI,ldI,opI]),zo,rfl,rfl⟩
theorem e_one2_s{c:List II}{od rd rg sl:List Int}{l:List II}{fix:List Int}{nd nr hd hr fl nx tg br tk ct slots:Int}{N:Nat}{im:Int}(hll:l.length<60000)(hrg:rg.length=c.length)(hsl:sl.length=c.length)(hs:∀N:Nat,N<c.length→rg.getD N 0<0→0≤sl.getD N 0∧sl.getD N 0<192)(hN:N<c.length)(h1:0≤im∧im<nr∧nr≤16):SC 27 #[pT 0 0,jI (N:Int),(c5A 2 (N:Int) 0 0 im)] (hq (eH c od rd rg sl l fix nd nr hd hr fl nx tg br tk ct slots)) fun v h=>∃(l1:List II),l1=l++oneC rg sl nd nr N (2,(N:Int),0,0,im)∧l1.length≤l.length+34∧v=.tuple #[]∧h=hq (eP c od rd rg sl l1 fix nd nr hd hr fl nx tg br tk ct slots):=by
 refine zS Tryz.f27 f27b 99 8 fun X hX=>(sd_run 9 (zC 13 67 #[pT 0 0,jI (N:Int)] (@e_to_s c od rd rg sl l fix nd nr hd hr fl nx tg br tk ct slots N hrg hsl zo (hs _ zo)) i8_ ?_))
 rintro Y v9 k9 ⟨v10_,q1_0,rfl,rfl⟩;refine mkG (jI v10_) [oB 75 (eK c od rd nd nr hd hr fl nx tg br tk ct slots (s5 6 l.length) (s1 7 fix.length)),(iiF c),(inF od),(inF rd),(inF rg),(inF sl),(hhF l),(inF fix),oB 62 (c5L 2 (N:Int) 0 0 im)] ⟨cvs 0 Y,cvs 1 Y,cvs 2 Y,cvs 3 Y,cvs 4 Y,cvs 5 Y,cvs 6 Y,cvs 7 Y,cvo,⟨⟩⟩ ?_;refine zI 41 49 .i64 (20+nr) (IntKind.i64.wrap (20+nr)) (zI 1 50 .i64 (20+nr-1) (IntKind.i64.wrap ((20+nr)-1)) (zI 3 53 .i64 im (IntKind.i64.wrap im) (zI 1 54 .i64 (20+nr-1-im) (IntKind.i64.wrap ((20+nr-1)-im)) (zI 1 55 .u32 (20+nr-1-im) (IntKind.u32.wrap (20+nr-1-im)) (zC 56 64 #[pT 0 0,jI v10_,jI 13,jU (20+nr-1-im)] (@e_ld_s c od rd rg sl l fix nd nr hd hr fl nx tg br tk ct slots v10_ 13 (20+nr-1-im) zo) i8_ ?_)))));rintro Y v9 k9 ⟨l11_,q2_0,q2_1,rfl,rfl⟩;refine mkG (.tuple #[]) [oB 75 (eK c od rd nd nr hd hr fl nx tg br tk ct slots (s5 9 l11_.length) (s1 7 fix.length)),(iiF c),(inF od),(inF rd),(inF rg),(inF sl),none,(inF fix),oB 62 (c5L 2 (N:Int) 0 0 im),(hhF l11_)] ⟨cvr 0,cvs 1 Y,cvs 2 Y,cvs 3 Y,cvs 4 Y,cvs 5 Y,cvs 7 Y,cvo,hhC_c 8,⟨⟩⟩ ?_;refine sd_run 7 (zC 98 71 #[pT 0 0,jI (N:Int),jI v10_] (@e_keep_s c od rd rg sl l11_ fix nd nr hd hr fl nx tg br tk ct slots N v10_ zo hrg hsl zo (hs _ zo)) (eM [1,2,3,4,5,6,10,8]) ?_);rintro Y v9 k9 ⟨l12_,q3_0,q3_1,rfl,rfl⟩
 refine mkG (.tuple #[]) [oB 75 (eK c od rd nd nr hd hr fl nx tg br tk ct slots (s5 10 l12_.length) (s1 7 fix.length)),(iiF c),(inF od),(inF rd),(inF rg),(inF sl),none,(inF fix),oB 62 (c5L 2 (N:Int) 0 0 im),none,(hhF l12_)] ⟨cvr 0,cvs 1 Y,cvs 2 Y,cvs 3 Y,cvs 4 Y,cvs 5 Y,cvs 7 Y,cvo,hhC_c 8,⟨⟩⟩ ?_;refine sd_run 1 ?_;refine zY (.tuple #[]) hX (eM [1,2,3,4,5,6,7,8,11]) ⟨l12_,(by subst_vars;simp[mkI,oneC,valC,liI,ldI,opI]),zo,rfl,rfl⟩
theorem e_one3_s{c:List II}{od rd rg sl:List Int}{l:List II}{fix:List Int}{nd nr hd hr fl nx tg br tk ct slots:Int}{N:Nat}{A B:Nat}{im:Int}(hll:l.length<60000)(hrg:rg.length=c.length)(hsl:sl.length=c.length)(hs:∀N:Nat,N<c.length→rg.getD N 0<0→0≤sl.getD N 0∧sl.getD N 0<192)(hN:N<c.length)(hA:A<N)(hB:B<N):SC 27 #[pT 0 0,jI (N:Int),(c5A 3 (N:Int) (A:Int) (B:Int) im)] (hq (eH c od rd rg sl l fix nd nr hd hr fl nx tg br tk ct slots)) fun v h=>∃(l1:List II),l1=l++oneC rg sl nd nr N (3,(N:Int),(A:Int),(B:Int),im)∧l1.length≤l.length+34∧v=.tuple #[]∧h=hq (eP c od rd rg sl l1 fix nd nr hd hr fl nx tg br tk ct slots):=by
 refine zS Tryz.f27 f27b 99 8 fun X hX=>(sd_run 9 (zC 13 67 #[pT 0 0,jI (N:Int)] (@e_to_s c od rd rg sl l fix nd nr hd hr fl nx tg br tk ct slots N hrg hsl zo (hs _ zo)) i8_ ?_))
 rintro Y v9 k9 ⟨v10_,q1_0,rfl,rfl⟩;refine mkG (jI v10_) [oB 75 (eK c od rd nd nr hd hr fl nx tg br tk ct slots (s5 6 l.length) (s1 7 fix.length)),(iiF c),(inF od),(inF rd),(inF rg),(inF sl),(hhF l),(inF fix),oB 62 (c5L 3 (N:Int) (A:Int) (B:Int) im)] ⟨cvs 0 Y,cvs 1 Y,cvs 2 Y,cvs 3 Y,cvs 4 Y,cvs 5 Y,cvs 6 Y,cvs 7 Y,cvo,⟨⟩⟩ ?_;refine sd_run 40 (sd_drawR [(6,3)] kr kr ?_);refine sr_run 3 ?_;refine sr_prom 6 5 8 0 3 (jI (B:Int)) kr kr (veq_int _ _) ?_;refine sr_call 62 68 #[pT 0 0,jI (A:Int),jI 7] (@e_get_s c od rd rg sl l fix nd nr hd hr fl nx tg br tk ct slots A 7 zo hrg hsl zo (hs _ zo)) e8_ kr kr kr (hn_of 0 kr ⟨brn,iiC_b,inC_b,inC_b,inC_b,inC_b,hhC_b,inC_b,⟨⟩⟩) (rnG_sound rn2_sound _ _ kr) ?_;rintro v9 k9 ⟨l11_,v11_,q2_0,q2_1,q2_2,rfl,rfl⟩
 refine⟨jI v11_,hq [oB 75 (eK c od rd nd nr hd hr fl nx tg br tk ct slots (s5 9 l11_.length) (s1 7 fix.length)),(iiF c),(inF od),(inF rd),(inF rg),(inF sl),none,(inF fix),oB 62 (c5L 3 (N:Int) (A:Int) (B:Int) im),(hhF l11_)],glue_of kr kr ⟨cvr 0,cov_same 1 (hn_of 0 kr ⟨brn,iiC_b,inC_b,inC_b,inC_b,inC_b,hhC_b,inC_b,⟨⟩⟩) kr kr kr kr kr,cov_same 2 (hn_of 0 kr ⟨brn,iiC_b,inC_b,inC_b,inC_b,inC_b,hhC_b,inC_b,⟨⟩⟩) kr kr kr kr kr,cov_same 3 (hn_of 0 kr ⟨brn,iiC_b,inC_b,inC_b,inC_b,inC_b,hhC_b,inC_b,⟨⟩⟩) kr kr kr kr kr,cov_same 4 (hn_of 0 kr ⟨brn,iiC_b,inC_b,inC_b,inC_b,inC_b,hhC_b,inC_b,⟨⟩⟩) kr kr kr kr kr,cov_same 5 (hn_of 0 kr ⟨brn,iiC_b,inC_b,inC_b,inC_b,inC_b,hhC_b,inC_b,⟨⟩⟩) kr kr kr kr kr,cov_same 7 (hn_of 0 kr ⟨brn,iiC_b,inC_b,inC_b,inC_b,inC_b,hhC_b,inC_b,⟨⟩⟩) kr kr kr kr kr,cvo,hhC_c 8,⟨⟩⟩,rn2_sound _ _ kr,⟨kr,kr,kr,kr⟩,?_⟩;refine sr_run 2 ?_;refine sr_keep 65 (jI (B:Int)) (pT 8 3) 3 [] kr kr kr kr (veq_int _ _) kr kr kr ?_;refine sr_call 66 68 #[pT 0 0,jI (B:Int),jI 8] (@e_get_s c od rd rg sl l11_ fix nd nr hd hr fl nx tg br tk ct slots B 8 zo hrg hsl zo (hs _ zo)) (emOf (eM [1,2,3,4,5,6,10,8])) kr kr kr (hn_of 0 kr ⟨brn,iiC_b,inC_b,inC_b,inC_b,inC_b,hhC_b,inC_b,⟨⟩⟩) (rnG_sound rn2_sound _ _ kr) ?_;rintro v9 k9 ⟨l12_,v12_,q3_0,q3_1,q3_2,rfl,rfl⟩
 refine⟨jI v12_,hq [oB 75 (eK c od rd nd nr hd hr fl nx tg br tk ct slots (s5 10 l12_.length) (s1 7 fix.length)),(iiF c),(inF od),(inF rd),(inF rg),(inF sl),none,(inF fix),oB 62 (c5L 3 (N:Int) (A:Int) (B:Int) im),none,(hhF l12_)],glue_of kr kr ⟨cvr 0,cov_same 1 (hn_of 0 kr ⟨brn,iiC_b,inC_b,inC_b,inC_b,inC_b,hhC_b,inC_b,⟨⟩⟩) kr kr kr kr kr,cov_same 2 (hn_of 0 kr ⟨brn,iiC_b,inC_b,inC_b,inC_b,inC_b,hhC_b,inC_b,⟨⟩⟩) kr kr kr kr kr,cov_same 3 (hn_of 0 kr ⟨brn,iiC_b,inC_b,inC_b,inC_b,inC_b,hhC_b,inC_b,⟨⟩⟩) kr kr kr kr kr,cov_same 4 (hn_of 0 kr ⟨brn,iiC_b,inC_b,inC_b,inC_b,inC_b,hhC_b,inC_b,⟨⟩⟩) kr kr kr kr kr,cov_same 5 (hn_of 0 kr ⟨brn,iiC_b,inC_b,inC_b,inC_b,inC_b,hhC_b,inC_b,⟨⟩⟩) kr kr kr kr kr,cov_same 7 (hn_of 0 kr ⟨brn,iiC_b,inC_b,inC_b,inC_b,inC_b,hhC_b,inC_b,⟨⟩⟩) kr kr kr kr kr,cvo,hhC_c 8,⟨⟩⟩,rn2_sound _ _ kr,⟨kr,kr,kr,kr⟩,?_⟩;refine sr_run 2 ?_;refine sr_end kr ?_;refine sd_run 8 (zC 73 69 #[pT 0 0,jU im,jI v10_,jI v11_,jI v12_] (@e_alu_s c od rd rg sl l12_ fix nd nr hd hr fl nx tg br tk ct slots im v10_ v11_ v12_ zo) (eM [1,2,3,4,5,6,11,8]) ?_);rintro Y v9 k9 ⟨l13_,q4_0,q4_1,rfl,rfl⟩
 refine mkG (.tuple #[]) [oB 75 (eK c od rd nd nr hd hr fl nx tg br tk ct slots (s5 11 l13_.length) (s1 7 fix.length)),(iiF c),(inF od),(inF rd),(inF rg),(inF sl),none,(inF fix),oB 62 (c5L 3 (N:Int) (A:Int) (B:Int) im),none,none,(hhF l13_)] ⟨cvr 0,cvs 1 Y,cvs 2 Y,cvs 3 Y,cvs 4 Y,cvs 5 Y,cvs 7 Y,cvo,hhC_c 8,⟨⟩⟩ ?_;refine sd_run 7 (zC 98 71 #[pT 0 0,jI (N:Int),jI v10_] (@e_keep_s c od rd rg sl l13_ fix nd nr hd hr fl nx tg br tk ct slots N v10_ zo hrg hsl zo (hs _ zo)) (eM [1,2,3,4,5,6,12,8]) ?_);rintro Y v9 k9 ⟨l14_,q5_0,q5_1,rfl,rfl⟩;refine mkG (.tuple #[]) [oB 75 (eK c od rd nd nr hd hr fl nx tg br tk ct slots (s5 12 l14_.length) (s1 7 fix.length)),(iiF c),(inF od),(inF rd),(inF rg),(inF sl),none,(inF fix),oB 62 (c5L 3 (N:Int) (A:Int) (B:Int) im),none,none,none,(hhF l14_)] ⟨cvr 0,cvs 1 Y,cvs 2 Y,cvs 3 Y,cvs 4 Y,cvs 5 Y,cvs 7 Y,cvo,hhC_c 8,⟨⟩⟩ ?_;refine sd_run 1 ?_;refine zY (.tuple #[]) hX (eM [1,2,3,4,5,6,7,8,13]) ⟨l14_,(by subst_vars;simp[mkI,oneC,valC,liI,ldI,opI]),zo,rfl,rfl⟩
theorem e_one4_s{c:List II}{od rd rg sl:List Int}{l:List II}{fix:List Int}{nd nr hd hr fl nx tg br tk ct slots:Int}{N:Nat}{A B:Nat}{im:Int}(hll:l.length<60000)(hrg:rg.length=c.length)(hsl:sl.length=c.length)(hs:∀N:Nat,N<c.length→rg.getD N 0<0→0≤sl.getD N 0∧sl.getD N 0<192)(hN:N<c.length)(hA:A<N)(hB:B<N):SC 27 #[pT 0 0,jI (N:Int),(c5A 4 (N:Int) (A:Int) (B:Int) im)] (hq (eH c od rd rg sl l fix nd nr hd hr fl nx tg br tk ct slots)) fun v h=>∃(l1:List II),l1=l++oneC rg sl nd nr N (4,(N:Int),(A:Int),(B:Int),im)∧l1.length≤l.length+34∧v=.tuple #[]∧h=hq (eP c od rd rg sl l1 fix nd nr hd hr fl nx tg br tk ct slots):=by
 refine zS Tryz.f27 f27b 99 8 fun X hX=>(sd_run 9 (zC 13 67 #[pT 0 0,jI (N:Int)] (@e_to_s c od rd rg sl l fix nd nr hd hr fl nx tg br tk ct slots N hrg hsl zo (hs _ zo)) i8_ ?_))
 rintro Y v9 k9 ⟨v10_,q1_0,rfl,rfl⟩;refine mkG (jI v10_) [oB 75 (eK c od rd nd nr hd hr fl nx tg br tk ct slots (s5 6 l.length) (s1 7 fix.length)),(iiF c),(inF od),(inF rd),(inF rg),(inF sl),(hhF l),(inF fix),oB 62 (c5L 4 (N:Int) (A:Int) (B:Int) im)] ⟨cvs 0 Y,cvs 1 Y,cvs 2 Y,cvs 3 Y,cvs 4 Y,cvs 5 Y,cvs 6 Y,cvs 7 Y,cvo,⟨⟩⟩ ?_;refine sd_run 47 (sd_drawR [(6,3)] kr kr ?_);refine sr_run 3 ?_;refine sr_prom 6 5 8 0 3 (jI (B:Int)) kr kr (veq_int _ _) ?_;refine sr_call 79 68 #[pT 0 0,jI (A:Int),jI 7] (@e_get_s c od rd rg sl l fix nd nr hd hr fl nx tg br tk ct slots A 7 zo hrg hsl zo (hs _ zo)) e8_ kr kr kr (hn_of 0 kr ⟨brn,iiC_b,inC_b,inC_b,inC_b,inC_b,hhC_b,inC_b,⟨⟩⟩) (rnG_sound rn2_sound _ _ kr) ?_;rintro v9 k9 ⟨l11_,v11_,q2_0,q2_1,q2_2,rfl,rfl⟩
 refine⟨jI v11_,hq [oB 75 (eK c od rd nd nr hd hr fl nx tg br tk ct slots (s5 9 l11_.length) (s1 7 fix.length)),(iiF c),(inF od),(inF rd),(inF rg),(inF sl),none,(inF fix),oB 62 (c5L 4 (N:Int) (A:Int) (B:Int) im),(hhF l11_)],glue_of kr kr ⟨cvr 0,cov_same 1 (hn_of 0 kr ⟨brn,iiC_b,inC_b,inC_b,inC_b,inC_b,hhC_b,inC_b,⟨⟩⟩) kr kr kr kr kr,cov_same 2 (hn_of 0 kr ⟨brn,iiC_b,inC_b,inC_b,inC_b,inC_b,hhC_b,inC_b,⟨⟩⟩) kr kr kr kr kr,cov_same 3 (hn_of 0 kr ⟨brn,iiC_b,inC_b,inC_b,inC_b,inC_b,hhC_b,inC_b,⟨⟩⟩) kr kr kr kr kr,cov_same 4 (hn_of 0 kr ⟨brn,iiC_b,inC_b,inC_b,inC_b,inC_b,hhC_b,inC_b,⟨⟩⟩) kr kr kr kr kr,cov_same 5 (hn_of 0 kr ⟨brn,iiC_b,inC_b,inC_b,inC_b,inC_b,hhC_b,inC_b,⟨⟩⟩) kr kr kr kr kr,cov_same 7 (hn_of 0 kr ⟨brn,iiC_b,inC_b,inC_b,inC_b,inC_b,hhC_b,inC_b,⟨⟩⟩) kr kr kr kr kr,cvo,hhC_c 8,⟨⟩⟩,rn2_sound _ _ kr,⟨kr,kr,kr,kr⟩,?_⟩;refine sr_run 2 ?_;refine sr_keep 82 (jI (B:Int)) (pT 8 3) 3 [] kr kr kr kr (veq_int _ _) kr kr kr ?_;refine sr_call 83 68 #[pT 0 0,jI (B:Int),jI 8] (@e_get_s c od rd rg sl l11_ fix nd nr hd hr fl nx tg br tk ct slots B 8 zo hrg hsl zo (hs _ zo)) (emOf (eM [1,2,3,4,5,6,10,8])) kr kr kr (hn_of 0 kr ⟨brn,iiC_b,inC_b,inC_b,inC_b,inC_b,hhC_b,inC_b,⟨⟩⟩) (rnG_sound rn2_sound _ _ kr) ?_;rintro v9 k9 ⟨l12_,v12_,q3_0,q3_1,q3_2,rfl,rfl⟩
 refine⟨jI v12_,hq [oB 75 (eK c od rd nd nr hd hr fl nx tg br tk ct slots (s5 10 l12_.length) (s1 7 fix.length)),(iiF c),(inF od),(inF rd),(inF rg),(inF sl),none,(inF fix),oB 62 (c5L 4 (N:Int) (A:Int) (B:Int) im),none,(hhF l12_)],glue_of kr kr ⟨cvr 0,cov_same 1 (hn_of 0 kr ⟨brn,iiC_b,inC_b,inC_b,inC_b,inC_b,hhC_b,inC_b,⟨⟩⟩) kr kr kr kr kr,cov_same 2 (hn_of 0 kr ⟨brn,iiC_b,inC_b,inC_b,inC_b,inC_b,hhC_b,inC_b,⟨⟩⟩) kr kr kr kr kr,cov_same 3 (hn_of 0 kr ⟨brn,iiC_b,inC_b,inC_b,inC_b,inC_b,hhC_b,inC_b,⟨⟩⟩) kr kr kr kr kr,cov_same 4 (hn_of 0 kr ⟨brn,iiC_b,inC_b,inC_b,inC_b,inC_b,hhC_b,inC_b,⟨⟩⟩) kr kr kr kr kr,cov_same 5 (hn_of 0 kr ⟨brn,iiC_b,inC_b,inC_b,inC_b,inC_b,hhC_b,inC_b,⟨⟩⟩) kr kr kr kr kr,cov_same 7 (hn_of 0 kr ⟨brn,iiC_b,inC_b,inC_b,inC_b,inC_b,hhC_b,inC_b,⟨⟩⟩) kr kr kr kr kr,cvo,hhC_c 8,⟨⟩⟩,rn2_sound _ _ kr,⟨kr,kr,kr,kr⟩,?_⟩;refine sr_run 2 ?_;refine sr_end kr ?_;refine sd_run 8 (zC 89 70 #[pT 0 0,jU im,jI v11_,jI v12_] (@e_flag_s c od rd rg sl l12_ fix nd nr hd hr fl nx tg br tk ct slots im v11_ v12_ zo) (eM [1,2,3,4,5,6,11,8]) ?_);rintro Y v9 k9 ⟨l13_,q4_0,q4_1,rfl,rfl⟩
 refine mkG (.tuple #[]) [oB 75 (eK c od rd nd nr hd hr fl nx tg br tk ct slots (s5 11 l13_.length) (s1 7 fix.length)),(iiF c),(inF od),(inF rd),(inF rg),(inF sl),none,(inF fix),oB 62 (c5L 4 (N:Int) (A:Int) (B:Int) im),none,none,(hhF l13_)] ⟨cvr 0,cvs 1 Y,cvs 2 Y,cvs 3 Y,cvs 4 Y,cvs 5 Y,cvs 7 Y,cvo,hhC_c 8,⟨⟩⟩ ?_;refine sd_run 7 (zC 94 30 #[pT 0 0,sK 12 1 1] (@e_add_s c od rd rg sl l13_ fix nd nr hd hr fl nx tg br tk ct slots 2 v10_ 10 0 0 zo) (eM [1,2,3,4,5,6,12,8,13]) ?_);rintro Y v9 k9 ⟨l14_,q5_0,q5_1,rfl,rfl⟩;refine mkG (.tuple #[]) [oB 75 (eK c od rd nd nr hd hr fl nx tg br tk ct slots (s5 13 l14_.length) (s1 7 fix.length)),(iiF c),(inF od),(inF rd),(inF rg),(inF sl),none,(inF fix),oB 62 (c5L 4 (N:Int) (A:Int) (B:Int) im),none,none,none,oB 81 (c5L 2 v10_ 10 0 0),(hhF l14_)] ⟨cvr 0,cvs 1 Y,cvs 2 Y,cvs 3 Y,cvs 4 Y,cvs 5 Y,cvs 7 Y,cvo,cvs 8 Y,hhC_c 9,⟨⟩⟩ ?_;refine sd_run 7 (zC 98 71 #[pT 0 0,jI (N:Int),jI v10_] (@e_keep_s c od rd rg sl l14_ fix nd nr hd hr fl nx tg br tk ct slots N v10_ zo hrg hsl zo (hs _ zo)) (eM [1,2,3,4,5,6,14,8]) ?_);rintro Y v9 k9 ⟨l15_,q6_0,q6_1,rfl,rfl⟩
 refine mkG (.tuple #[]) [oB 75 (eK c od rd nd nr hd hr fl nx tg br tk ct slots (s5 14 l15_.length) (s1 7 fix.length)),(iiF c),(inF od),(inF rd),(inF rg),(inF sl),none,(inF fix),oB 62 (c5L 4 (N:Int) (A:Int) (B:Int) im),none,none,none,oB 81 (c5L 2 v10_ 10 0 0),none,(hhF l15_)] ⟨cvr 0,cvs 1 Y,cvs 2 Y,cvs 3 Y,cvs 4 Y,cvs 5 Y,cvs 7 Y,cvo,cvo,hhC_c 8,⟨⟩⟩ ?_;refine sd_run 1 ?_;refine zY (.tuple #[]) hX (eM [1,2,3,4,5,6,7,8,15]) ⟨l15_,(by subst_vars;simp[mkI,oneC,valC,liI,ldI,opI]),zo,rfl,rfl⟩
theorem foundB{n:Nat}{f:Nat→Bool}{k:Nat}(hk:k<n)(hf:f k=true)(ha:∀j,j<k→f j=false):(List.range n).find? f=some k:=by
 refine List.find?_eq_some_iff_getElem.2 ⟨hf,k,by simpa using hk,by simp,fun j hj=>?_⟩;simp[ha j hj]
def freeK(l:List IV)(pl:List Int)(n:Nat):Nat:=((List.range (pl.length+1)).find? fun(k:Nat) => !takenB l pl n (k:Int) pl.length).getD 0
theorem FreeP.eq{l:List IV}{pl:List Int}{n k:Nat}(h:FreeP l pl n k):k=freeK l pl n:=by
 unfold freeK;rw[foundB (k:=k) (by have:=h.le;omega) (by rw[h.no];rfl) fun j hj=>by rw[h.all j hj];rfl];rfl
theorem freeK_ok(l:List IV)(pl:List Int)(n:Nat):FreeP l pl n (freeK l pl n):=by
 have hx:∃k:Nat,k≤pl.length∧takenB l pl n (k:Int) pl.length=false:=by
  refine Classical.byContradiction fun hc=>?_
  have:pl.length+1≤pl.length:=taken_le (l:=l) (n:=n) fun k hk=>by
   cases h:takenB l pl n (k:Int) pl.length with
   |true=>rfl
   |false=>exact absurd ⟨k,by omega,h⟩ hc
  omega
 have:∀(m k:Nat),k≤m→takenB l pl n (k:Int) pl.length=false→∃k,FreeP l pl n k:=by
  intro m
  induction m with
  |zero=>intro k hk h;exact⟨k,h,fun j hj=>by omega⟩
  |succ m ih =>
   intro k hk h
   by_cases q:∀j,j<k→takenB l pl n (j:Int) pl.length=true
   ·exact⟨k,h,q⟩
   ·obtain⟨j,q⟩:=Classical.not_forall.1 q;obtain⟨hj,q⟩:=Classical.not_imp.1 q;exact ih j (by omega) (by simpa using q)
 obtain⟨k,hk,h⟩:=hx;obtain⟨k',h'⟩:=this k k (ak _) h;rw[←h'.eq];exact h'
theorem freeK_le(l:List IV)(pl:List Int)(n:Nat):freeK l pl n≤pl.length:=(freeK_ok l pl n).le
theorem all_succ{l:List IV}{pl:List Int}{n k N:Nat}(h:∀j,j<k→takenB l pl n (j:Int) N=true)(hk:takenB l pl n (k:Int) N=true):∀j,j<k+1→takenB l pl n (j:Int) N=true:=fun j hj=>by
 rcases Nat.lt_or_eq_of_le (Nat.le_of_lt_succ hj)with q|rfl
 ·exact h j q
 ·exact hk
theorem takenB_yes{l:List IV}{pl:List Int}{n:Nat}{k:Int}{j:Nat}(h:takenB l pl n k j=true):takenB l pl n k (j+1)=true:=by rw[takenB_succ,h];rfl
theorem takenB_no{l:List IV}{pl:List Int}{n:Nat}{k:Int}{j:Nat}{x:Int}(hx:pl[j]? = some x)(h:takenB l pl n k j=false)(hk:x≠k):takenB l pl n k (j+1)=false:=by
 rw[takenB_succ,h,hx];simp[hk]
theorem takenB_at{l:List IV}{pl:List Int}{n:Nat}{k:Int}{j:Nat}{a b:IV}(hx:pl[j]? = some k)(h:takenB l pl n k j=false)(ha:l[j]? = some a)(hb:l[n]? = some b):takenB l pl n k (j+1)=meetB a b:=by
 rw[takenB_succ,h,hx];simp[meetN,ha,hb]
theorem row_of{α:Type}{l:List α}{i m:Nat}(h:m=l.length)(hi:i<m):∃a,l[i]? = some a:=⟨_,ac (by omega)⟩
noncomputable def f62b:Code:=Tryz.f62.body.getD .skip
theorem meetL_s{va a b vc c d:Int}:SCall Tryz.prog T15 62 #[.agg #[jI va,jI a,jI b],.agg #[jI vc,jI c,jI d]] (hq []) fun v h=>v=.bool (meetB (va,a,b) (vc,c,d))∧h=hq []:=by
 refine zS Tryz.f62 f62b 24 0 fun X hX=>?_
 refine zB 15 10 (decide ((a:Int)<d)) (fun hc1=>?_) fun hc1=>?_
 ·refine zB 7 17 (decide ((c:Int)<b)) (fun hc2=>?_) fun hc2=>?_
  ·refine sd_run 10 ?_;simp only[bd]at hc1 hc2;refine zY (.bool true) hX [] ⟨(by congr 1;unfold meetB;rw[ag];simp;try omega),rfl⟩
  ·refine zB 10 4 ((a:Int) == c) (fun hc3=>?_) fun hc3=>?_
   ·simp only[bd]at hc1 hc2 hc3;refine zY (.bool true) hX [] ⟨(by congr 1;unfold meetB;rw[ag];simp;try omega),rfl⟩
   ·simp only[bd]at hc1 hc2 hc3;refine zY (.bool false) hX [] ⟨(by congr 1;unfold meetB;rw[ag];simp;try omega),rfl⟩
 ·refine zB 17 4 ((a:Int) == c) (fun hc4=>?_) fun hc4=>?_
  ·simp only[bd]at hc1 hc4;refine zY (.bool true) hX [] ⟨(by congr 1;unfold meetB;rw[ag];simp;try omega),rfl⟩
  ·simp only[bd]at hc1 hc4;refine zY (.bool false) hX [] ⟨(by congr 1;unfold meetB;rw[ag];simp;try omega),rfl⟩
noncomputable def f58b:Code:=Tryz.f58.body.getD .skip
theorem reg_s{n:Int}:SCall Tryz.prog T15 58 #[jI n] (hq []) fun v h=>v=.bool (decide (1≤n)&&decide (n≤16))∧h=hq []:=by
 refine zS Tryz.f58 f58b 9 0 fun X hX=>?_
 refine zB 10 5 (decide ((n:Int)≥1)) (fun hc1=>?_) fun hc1=>?_
 ·refine zB 7 2 (decide ((n:Int)≤16)) (fun hc2=>?_) fun hc2=>?_
  ·simp only[bd]at hc1 hc2;refine zY (.bool true) hX [] ⟨(by congr 1;rw[ag];simp;try omega),rfl⟩
  ·simp only[bd]at hc1 hc2;refine zY (.bool false) hX [] ⟨(by congr 1;rw[ag];simp;try omega),rfl⟩
 ·refine sd_run 7 ?_;simp only[bd]at hc1;refine zY (.bool false) hX [] ⟨(by congr 1;rw[ag];simp;try omega),rfl⟩
noncomputable def f61b:Code:=Tryz.f61.body.getD .skip
theorem free1_s{rg sl:List Int}{l:List IV}{n m:Nat}{slots:Int}(hr:m=rg.length)(hs:m=sl.length)(hl:m=l.length)(hn:n<m)(hml:m<1099511627776):SCall Tryz.prog T15 61 #[pT 0 0,sK 1 m m,jI (n:Int)] (hq [oB 118 [sK 1 m m,sK 2 m m,jI slots,sK 3 m (unk+3)],(inF rg),(inF sl),(ivF l)]) fun v h=>v=jI (((freeK l rg n):Nat):Int)∧h=hq [oB 118 [sK 1 m m,sK 2 m m,jI slots,sK 3 m (unk+3)],(inF rg),(inF sl),(ivF l)]:=by
 refine zS Tryz.f61 f61b 47 4 fun X hX=>(sd_run 11 (sd_loop 47 (cl (cl (cr (cr f61b)))) [.blk 0] kr kr kr (fun m9 s9=>∃(k:Nat),m9=m+1-k∧(∀j:Nat,j<k→takenB l rg n (j:Int) m=true)∧(k≤m)∧s9=⟨tmL [(0,pT 0 0),(1,sK 1 m m),(2,jI (n:Int)),(7,jI (k:Int))],hq [oB 118 [sK 1 m m,sK 2 m m,jI slots,sK 3 m (unk+3)],(inF rg),(inF sl),(ivF l)]⟩) (m+1-0) _ e4_ hX ⟨0,rfl,(fun j hj=>absurd hj (Nat.not_lt_zero _)),(iu _),rfl⟩ ⟨zs,zt⟩ kr ?_))
 rintro m9 s9 ⟨k,rfl,i1_0,i1_1,rfl⟩ R1_ hR1_;refine sd_run 16 (sd_loop 47 (cl (cl (cr (cl (cr (cl (cl (cl (cl (cr (cr f61b))))))))))) [.blk 2,.next (cr (cr (cl (cl (cl (cl (cr (cr f61b)))))))),.blk 1,.next (cr (cl (cl (cr (cr f61b))))),.inv R1_,.blk 0] kr kr kr (fun m9 s9=>∃(j:Nat),m9=m-j∧(j≤m)∧s9=⟨tmL [(0,pT 0 0),(1,sK 1 m m),(2,jI (n:Int)),(7,jI (k:Int)),(8,.bool (takenB l rg n k j)),(13,sK 1 m m),(14,jI (m:Int)),(15,jI (j:Int))],hq [oB 118 [sK 1 m m,sK 2 m m,jI slots,sK 3 m (unk+3)],(inF rg),(inF sl),(ivF l)]⟩) (m-0) _ e4_ hX ⟨0,rfl,zo,rfl⟩ ⟨zs,zt⟩ kr ?_);rintro m9 s9 ⟨j,rfl,i2_0,rfl⟩ R2_ hR2_
 by_cases hlt:j<m
 ·obtain⟨a1,ha1⟩:=zR rg j;obtain⟨a2,ha2⟩:=zR l j;obtain⟨a3,ha3⟩:=zR l n;rcases aT (takenB l rg n k j)with h0k|h0k
  ·have ht:=takenB_yes h0k;refine sd_see 8 (.bool true) (see_bool kr h0k) (zT 3 16 ((j:Int)<(m:Int)) (zX 11 18 (pT 1 (0+j*1)) j m (zL 0 19 (jI a1) 3 1 0 3 false inC_len ha1 (zI 34 43 .i64 ((j+1:Nat):Int) (IntKind.i64.wrap ((j:Int)+1)) (sd_run 2 (sd_see 8 (.bool (takenB l rg n k (j+1))) (see_bool kr ht.symm) ?_))))));refine sd_inv R2_ kr (hR2_ _ (m-(j+1)) _ e4_ zo ⟨j+1,rfl,zo,rfl⟩ ⟨zs,zt⟩ kr)
  ·refine sd_see 8 (.bool false) (see_bool kr h0k) ?_
   by_cases he:a1=(k:Int)
   ·have hx9:=he▸ha1;refine zT 3 16 ((j:Int)<(m:Int)) (zX 11 18 (pT 1 (0+j*1)) j m (zL 0 19 (jI a1) 3 1 0 3 false inC_len ha1 (sd_run 10 (sd_see 24 (.bool true) (see_bool kr ((ir.2 he):((a1:Int) == (k:Int))=true)) (sd_run 6 (zX 0 31 (pT 3 (0+j*3)) j m (zM 0 32 120 3 120 false ivC_len ha2 (zX 5 38 (pT 3 (0+n*3)) n m (zM 0 39 120 3 120 false ivC_len ha3 (zG 40 62 #[.agg #[jI a2.1,jI a2.2.1,jI a2.2.2],.agg #[jI a3.1,jI a3.2.1,jI a3.2.2]] (@meetL_s a2.1 a2.2.1 a2.2.2 a3.1 a3.2.1 a3.2.2 ) [] ?_))))))))));rintro v9 k9 ⟨rfl,rfl⟩;refine⟨rfl,.bool (meetB (a2.1,a2.2.1,a2.2.2) (a3.1,a3.2.1,a3.2.2)),kr,?_⟩;refine sd_see 40 (.bool (takenB l rg n k (j+1))) (see_bool kr (takenB_at hx9 h0k ha2 ha3).symm) (zI 8 43 .i64 ((j+1:Nat):Int) (IntKind.i64.wrap ((j:Int)+1)) (sd_run 2 ?_));refine sd_inv R2_ kr (hR2_ _ (m-(j+1)) _ e4_ zo ⟨j+1,rfl,zo,rfl⟩ ⟨zs,zt⟩ kr)
   ·have ht:=takenB_no ha1 h0k he;refine zT 3 16 ((j:Int)<(m:Int)) (zX 11 18 (pT 1 (0+j*1)) j m (zL 0 19 (jI a1) 3 1 0 3 false inC_len ha1 (sd_run 10 (sd_see 24 (.bool false) (see_bool kr ((aB.2 he):((a1:Int) == (k:Int))=false)) (sd_run 24 (zI 0 43 .i64 ((j+1:Nat):Int) (IntKind.i64.wrap ((j:Int)+1)) (sd_run 2 (sd_see 8 (.bool (takenB l rg n k (j+1))) (see_bool kr ht.symm) ?_))))))));refine sd_inv R2_ kr (hR2_ _ (m-(j+1)) _ e4_ zo ⟨j+1,rfl,zo,rfl⟩ ⟨zs,zt⟩ kr)
 ·obtain rfl:m=j:=by omega
  refine zF 3 16 ((m:Int)<(m:Int)) (sd_run 15 ?_);refine zB 0 45 (!(takenB l rg n k m)) (fun hc4=>?_) fun hc4=>?_
  ·refine sd_run 12 ?_;have hfr:k=freeK l rg n:=FreeP.eq ⟨by rw[←hr];simpa using hc4,by rw[←hr];exact i1_0⟩;refine zY (jI (k:Int)) hX i4_ ⟨(by rw[hfr]),rfl⟩
  ·refine zI 7 12 .i64 ((k+1:Nat):Int) (IntKind.i64.wrap ((k:Int)+1)) (sd_run 2 ?_);have ht:=all_succ i1_0 (by simpa using hc4);have hkm:k+1≤m:=by rw[hr]at ht ⊢;exact taken_le ht
   refine sd_inv R1_ kr (hR1_ _ (m+1-(k+1)) _ e4_ zo ⟨k+1,rfl,ht,hkm,rfl⟩ ⟨zs,zt⟩ kr)
theorem free2_s{rg sl:List Int}{l:List IV}{n m:Nat}{slots:Int}(hr:m=rg.length)(hs:m=sl.length)(hl:m=l.length)(hn:n<m)(hml:m<1099511627776):SCall Tryz.prog T15 61 #[pT 0 0,sK 2 m m,jI (n:Int)] (hq [oB 118 [sK 1 m m,sK 2 m m,jI slots,sK 3 m (unk+3)],(inF rg),(inF sl),(ivF l)]) fun v h=>v=jI (((freeK l sl n):Nat):Int)∧h=hq [oB 118 [sK 1 m m,sK 2 m m,jI slots,sK 3 m (unk+3)],(inF rg),(inF sl),(ivF l)]:=by
 refine zS Tryz.f61 f61b 47 4 fun X hX=>(sd_run 11 (sd_loop 47 (cl (cl (cr (cr f61b)))) [.blk 0] kr kr kr (fun m9 s9=>∃(k:Nat),m9=m+1-k∧(∀j:Nat,j<k→takenB l sl n (j:Int) m=true)∧(k≤m)∧s9=⟨tmL [(0,pT 0 0),(1,sK 2 m m),(2,jI (n:Int)),(7,jI (k:Int))],hq [oB 118 [sK 1 m m,sK 2 m m,jI slots,sK 3 m (unk+3)],(inF rg),(inF sl),(ivF l)]⟩) (m+1-0) _ e4_ hX ⟨0,rfl,(fun j hj=>absurd hj (Nat.not_lt_zero _)),(iu _),rfl⟩ ⟨zs,zt⟩ kr ?_))
 rintro m9 s9 ⟨k,rfl,i1_0,i1_1,rfl⟩ R1_ hR1_;refine sd_run 16 (sd_loop 47 (cl (cl (cr (cl (cr (cl (cl (cl (cl (cr (cr f61b))))))))))) [.blk 2,.next (cr (cr (cl (cl (cl (cl (cr (cr f61b)))))))),.blk 1,.next (cr (cl (cl (cr (cr f61b))))),.inv R1_,.blk 0] kr kr kr (fun m9 s9=>∃(j:Nat),m9=m-j∧(j≤m)∧s9=⟨tmL [(0,pT 0 0),(1,sK 2 m m),(2,jI (n:Int)),(7,jI (k:Int)),(8,.bool (takenB l sl n k j)),(13,sK 2 m m),(14,jI (m:Int)),(15,jI (j:Int))],hq [oB 118 [sK 1 m m,sK 2 m m,jI slots,sK 3 m (unk+3)],(inF rg),(inF sl),(ivF l)]⟩) (m-0) _ e4_ hX ⟨0,rfl,zo,rfl⟩ ⟨zs,zt⟩ kr ?_);rintro m9 s9 ⟨j,rfl,i2_0,rfl⟩ R2_ hR2_
 by_cases hlt:j<m
 ·obtain⟨a1,ha1⟩:=zR sl j;obtain⟨a2,ha2⟩:=zR l j;obtain⟨a3,ha3⟩:=zR l n;rcases aT (takenB l sl n k j)with h0k|h0k
  ·have ht:=takenB_yes h0k;refine sd_see 8 (.bool true) (see_bool kr h0k) (zT 3 16 ((j:Int)<(m:Int)) (zX 11 18 (pT 2 (0+j*1)) j m (zL 0 19 (jI a1) 3 2 0 3 false inC_len ha1 (zI 34 43 .i64 ((j+1:Nat):Int) (IntKind.i64.wrap ((j:Int)+1)) (sd_run 2 (sd_see 8 (.bool (takenB l sl n k (j+1))) (see_bool kr ht.symm) ?_))))));refine sd_inv R2_ kr (hR2_ _ (m-(j+1)) _ e4_ zo ⟨j+1,rfl,zo,rfl⟩ ⟨zs,zt⟩ kr)
  ·refine sd_see 8 (.bool false) (see_bool kr h0k) ?_
   by_cases he:a1=(k:Int)
   ·have hx9:=he▸ha1;refine zT 3 16 ((j:Int)<(m:Int)) (zX 11 18 (pT 2 (0+j*1)) j m (zL 0 19 (jI a1) 3 2 0 3 false inC_len ha1 (sd_run 10 (sd_see 24 (.bool true) (see_bool kr ((ir.2 he):((a1:Int) == (k:Int))=true)) (sd_run 6 (zX 0 31 (pT 3 (0+j*3)) j m (zM 0 32 120 3 120 false ivC_len ha2 (zX 5 38 (pT 3 (0+n*3)) n m (zM 0 39 120 3 120 false ivC_len ha3 (zG 40 62 #[.agg #[jI a2.1,jI a2.2.1,jI a2.2.2],.agg #[jI a3.1,jI a3.2.1,jI a3.2.2]] (@meetL_s a2.1 a2.2.1 a2.2.2 a3.1 a3.2.1 a3.2.2 ) [] ?_))))))))));rintro v9 k9 ⟨rfl,rfl⟩;refine⟨rfl,.bool (meetB (a2.1,a2.2.1,a2.2.2) (a3.1,a3.2.1,a3.2.2)),kr,?_⟩;refine sd_see 40 (.bool (takenB l sl n k (j+1))) (see_bool kr (takenB_at hx9 h0k ha2 ha3).symm) (zI 8 43 .i64 ((j+1:Nat):Int) (IntKind.i64.wrap ((j:Int)+1)) (sd_run 2 ?_));refine sd_inv R2_ kr (hR2_ _ (m-(j+1)) _ e4_ zo ⟨j+1,rfl,zo,rfl⟩ ⟨zs,zt⟩ kr)
   ·have ht:=takenB_no ha1 h0k he;refine zT 3 16 ((j:Int)<(m:Int)) (zX 11 18 (pT 2 (0+j*1)) j m (zL 0 19 (jI a1) 3 2 0 3 false inC_len ha1 (sd_run 10 (sd_see 24 (.bool false) (see_bool kr ((aB.2 he):((a1:Int) == (k:Int))=false)) (sd_run 24 (zI 0 43 .i64 ((j+1:Nat):Int) (IntKind.i64.wrap ((j:Int)+1)) (sd_run 2 (sd_see 8 (.bool (takenB l sl n k (j+1))) (see_bool kr ht.symm) ?_))))))));refine sd_inv R2_ kr (hR2_ _ (m-(j+1)) _ e4_ zo ⟨j+1,rfl,zo,rfl⟩ ⟨zs,zt⟩ kr)
 ·obtain rfl:m=j:=by omega
  refine zF 3 16 ((m:Int)<(m:Int)) (sd_run 15 ?_);refine zB 0 45 (!(takenB l sl n k m)) (fun hc4=>?_) fun hc4=>?_
  ·refine sd_run 12 ?_;have hfr:k=freeK l sl n:=FreeP.eq ⟨by rw[←hs];simpa using hc4,by rw[←hs];exact i1_0⟩;refine zY (jI (k:Int)) hX i4_ ⟨(by rw[hfr]),rfl⟩
  ·refine zI 7 12 .i64 ((k+1:Nat):Int) (IntKind.i64.wrap ((k:Int)+1)) (sd_run 2 ?_);have ht:=all_succ i1_0 (by simpa using hc4);have hkm:k+1≤m:=by rw[hs]at ht ⊢;exact taken_le ht
   refine sd_inv R1_ kr (hR1_ _ (m+1-(k+1)) _ e4_ zo ⟨k+1,rfl,ht,hkm,rfl⟩ ⟨zs,zt⟩ kr)
noncomputable def f63b:Code:=Tryz.f63.body.getD .skip
theorem spill_s{rg sl:List Int}{l:List IV}{N m:Nat}{slots:Int}(hr:m=rg.length)(hs:m=sl.length)(hl:m=l.length)(hn:N<m)(hml:m<1099511627776)(h0:0≤slots∧slots<1099511627776):SCall Tryz.prog T15 63 #[pT 0 0,jI (N:Int)] (hq [oB 118 [sK 1 m m,sK 2 m m,jI slots,sK 3 m (unk+3)],(inF rg),(inF sl),(ivF l)]) fun v h=>v=.tuple #[]∧h=hq [oB 118 [sK 1 m m,sK 2 m m,jI (max slots (((freeK l sl N:Nat):Int)+1)),sK 3 m (unk+3)],(inF (rg.set N (-1))),(inF (sl.set N ((freeK l sl N:Nat):Int))),(ivF l)]:=by
 have hfk:=freeK_le l sl N;refine zS Tryz.f63 f63b 45 4 fun X hX=>(zX 8 10 (pT 1 (0+N*1)) N m ?_)
 obtain⟨a1,ha1⟩:=zR rg N;refine sd_st 3 1 (0+N*1) (jI (-1)) (tab inC ((rg).set N (-1))) (cells:=tab inC rg) (e:=3) kr kr kr kr (st_cell (k:=N) (j:=0) (a':=(-1)) inC_len kr kr ha1 kr rfl) (sd_run 3 (sd_drawQ [(4,13)] kr kr ?_));refine sq_run 4 ?_;refine sq_rd 15 (sK 2 m m) (pT 0 1) 22 kr kr kr kr (veq_slice _ _ _) kr ?_;refine sq_run 8 ?_;refine sq_callp 24 61 #[pT 0 0,sK 2 m m,jI (N:Int)] (@free2_s (rg.set N (-1)) sl l N m slots (by simp;exact hr) hs hl hn hml) (eM [1,2,3,4]) kr kr kr (hn_of 0 kr ⟨brn,bk_flat (tab inC ((rg).set N (-1))) kr (tab_plain inC_pl _) (by rfl),inC_b,ivC_b,⟨⟩⟩) kr ⟨kr,kr,kr⟩ ?_;rintro v9 k9 ⟨rfl,rfl⟩;refine⟨rfl,jI (((freeK l sl N):Nat):Int),kr,?_⟩;refine sq_ix 25 (pT 2 (0+N*1)) N m kr kr kr zo kr ?_;obtain⟨a2,ha2⟩:=zR sl N;refine sq_st 3 2 (0+N*1) (jI (((freeK l sl N):Nat):Int)) (tab inC ((sl).set N (((freeK l sl N):Nat):Int))) (cells:=tab inC sl) (e:=3) kr kr kr kr kr kr (st_cell (k:=N) (j:=0) (a':=(((freeK l sl N):Nat):Int)) inC_len kr kr ha2 kr rfl) ⟨kr,kr,kr⟩ ?_;refine sq_end kr ?_;refine zX 14 38 (pT 2 (0+N*1)) N m ?_;obtain⟨a3,ha3⟩:=zR ((sl).set N (((freeK l sl N):Nat):Int)) N
 refine zL 0 39 (jI a3) 3 2 0 3 false inC_len ha3 (sd_see 39 (jI (((freeK l sl N):Nat):Int)) (see_int (x:=a3) kr (by have q:=ha3;rw[aM zo]at q;exact(Option.some.inj q).symm)) (zI 1 40 .i64 (((freeK l sl N)+1:Nat):Int) (IntKind.i64.wrap ((((freeK l sl N):Nat):Int)+1)) (sd_run 1 (sd_see 41 (jI (max slots (((freeK l sl N)+1:Nat):Int))) (see_int (x:=(if(((freeK l sl N)+1:Nat):Int)>slots then(((freeK l sl N)+1:Nat):Int)else slots)) kr (by split<;>omega)) (sd_run 5 ?_)))));refine sdY (.tuple #[]) hX [oB 118 [sK 1 m m,sK 2 m m,jI (max slots (((freeK l sl N:Nat):Int)+1)),sK 3 m (unk+3)],(inF (rg.set N (-1))),(inF (sl.set N ((freeK l sl N:Nat):Int))),(ivF l)] i4_ ⟨brn,bk_flat (tab inC ((rg).set N (-1))) kr (tab_plain inC_pl _) (by rfl),bk_flat (tab inC ((sl).set N (((freeK l sl N):Nat):Int))) kr (tab_plain inC_pl _) (by rfl),ivC_b,⟨⟩⟩ ⟨rfl,rfl⟩
section
variable {P:Program}{T:Tab}{X:Cx}{Q:Xt→St→Prop}
def cpOf(c:Cf):Option (TypeId × Value × Value):=match (opC c).op with
 |.call cl=>(match cl.callee,cl.argTypes.toList,aevals c.s.tm cl.args.toList with| .builtin .copy,[dt,_],some [d,x]=>some (dt,d,x)|_,_,_=>none)
 |_=>none
theorem sd_cp{c:Cf}(t:Nat)(dt:TypeId)(d x v:Value)(h1:Heap)(ho:okOp c t=true)(hs:strictC c=true)(hA:cpOf c=some (dt,d,x))(ha:acopy T dt d x c.s.H=some (v,h1))(hk:SD P T X Q (c.put t v h1)):SD P T X Q c:=by
 refine sd_val t v h1 ho hs ?_ hk;unfold cpOf at hA;unfold aop;split at hA
 ·rename_i cl hop;split at hA
  ·rename_i u1 u2 u3 e1 e2 e3;cases hA;simp only[hop,acall,e1,e2,e3,ha,val2]
  ·cases hA
 ·cases hA
end
def repL(m n:Nat):List Int:=List.replicate m (-1)++List.replicate (n-m) 0
theorem repL_len{m n:Nat}(h:m≤n):(repL m n).length=n:=by simp[repL];omega
theorem repL_all(n:Nat):repL n n=List.replicate n (-1):=by simp[repL]
theorem splice_at{l:List Value}{off:Nat}{cs:List Value}(h:off+cs.length≤l.length):splice l off cs=l.take off++cs++l.drop (off+cs.length):=by
 unfold splice;split
 ·rename_i v;rw[List.set_eq_take_append_cons_drop,if_pos (by simp at h;omega)];simp
 ·rfl
theorem aput_rep{b m k n:Nat}{H:Heap}(g:H.get b=some ⟨tab inC (repL m n),3,false⟩)(hk:m+k≤n):aput b m (tab inC (List.replicate k (-1))) H=some (H.put b ⟨tab inC (repL (m+k) n),3,false⟩):=by
 unfold aput;rw[g];have hl:(tab inC (List.replicate k (-1))).length=k:=by rw[tab_len inC_len];simp
 have hL:(tab inC (repL m n)).length=n:=by rw[tab_len inC_len,repL_len (by omega)];simp
 have h1:(tab inC (List.replicate k (-1))).all Ev.one=true:=tab_ones inC_ones _;simp only[Bool.not_false,h1,hl,hL,eX];rw[show(m+k).ble n=true from aF hk];simp only[af];rw[splice_at (by rw[hl,hL];exact hk),hl]
 congr 3
 have e1:=tab_take inC_len (repL m n) m;have e2:=tab_drop inC_len (repL m n) (m+k);rw[Nat.mul_one]at e1 e2;rw[e1,e2,←tab_app,←tab_app]
 congr 1
 unfold repL;rw[ig (by simp),iG (by simp),List.drop_append,List.drop_of_length_le (by simp),iD,aS,List.drop_replicate,List.replicate_append_replicate]
 congr 2
 try omega
theorem acopy_one{T:Tab}{dt:TypeId}{b sb n:Nat}{e0:TypeId}{ro:Bool}{H:Heap}(hu:T.under dt=some (.slice 3))(hs:T.size 3=some 1)(g:H.get b=some ⟨tab inC (List.replicate n 0),3,false⟩)(gs:H.get sb=some ⟨[.int .i64 (-1)],e0,ro⟩)(hn:0<n):
    acopy T dt (.slice (some ⟨b,0,none⟩) n n) (.slice (some ⟨sb,0,none⟩) 1 1) H=some (.int .i64 1,H.put b ⟨tab inC (repL 1 n),3,false⟩):=by
 have hm:Nat.min 1 n=1:=eD hn;have e0:repL 0 n=List.replicate n 0:=by simp[repL]
 rw[←e0]at g;have hp:=aput_rep (k:=1) g (by omega);simp only[acopy,hu,hs,atrim,asrc,hm,gs];have:tab inC (List.replicate 1 (-1))=[.int .i64 (-1)]:=rfl;rw[this]at hp;simp[hp]
theorem acopy_dbl{T:Tab}{dt:TypeId}{b n m dc sc:Nat}{H:Heap}(hu:T.under dt=some (.slice 3))(hs:T.size 3=some 1)(g:H.get b=some ⟨tab inC (repL m n),3,false⟩)(h0:0<m)(hn:m<n):
    acopy T dt (.slice (some ⟨b,0+m*1,none⟩) (n-m) dc) (.slice (some ⟨b,0,none⟩) m sc) H=some (.int .i64 ((min m (n-m):Nat):Int),H.put b ⟨tab inC (repL (m+min m (n-m)) n),3,false⟩):=by
 have hk1:0<min m (n-m):=by omega
 have hk2:m+min m (n-m)≤n:=by omega
 have hk3:min m (n-m)≤m:=by omega
 generalize hk:min m (n-m)=k at *;have hp:=aput_rep g hk2;have e1:=tab_take inC_len (repL m n) k;rw[Nat.mul_one]at e1
 have e2:(repL m n).take k=List.replicate k (-1):=by
  unfold repL;rw[ig (by simpa using hk3),List.take_replicate,eD hk3]
 rw[e2]at e1;have hl:(tab inC (List.replicate k (-1))).length=k:=by rw[tab_len inC_len];simp
 have hm:Nat.min m (n-m)=k:=hk;simp only[acopy,hu,hs,atrim,asrc,hm,g,List.drop_zero,eC,Nat.mul_one,e1,hl,beq_self_eq_true,af];cases ht:tab inC (List.replicate k (-1))with
 |nil=>rw[ht]at hl;simp at hl;omega
 |cons a r=>rw[ht]at hp;rw[show k.beq k=true from aR k];simp only[af,hp]
theorem unk_big{n:Nat}(h:n<1073741824):unk.ble n=false:=by
 cases e:unk.ble n with
 |false=>rfl
 |true=>have:=av e;unfold unk at this;omega
theorem beq_no{n m:Nat}(h:n≠m):n.beq m=false:=by
 cases e:n.beq m with
 |false=>rfl
 |true=>exact absurd (aE e) h
theorem asl_lo{T:Tab}{t e:TypeId}{kk:IntKind}{b n m:Nat}(hT:T.under t=some (.slice e))(hz:T.size e=some 1)(h00:0<m)(h0:m<n)(hn:n<1073741824):aslice T t (.slice (some ⟨b,0,none⟩) n n) (some (.int kk (m:Int))) none none=some (.slice (some ⟨b,0+m*1,none⟩) (n-m) (n-m)):=by
 have e1:(m:Int)=Int.ofNat m:=rfl;simp only[aslice,hT,hz,e1,unk_big hn,beq_no (show n≠m by omega),aF (show m≤n by omega),aF (ak n),af,ai,iB,Addr.add,if_neg (show ¬m*1=0 by omega)]
theorem asl_hi{T:Tab}{t e:TypeId}{kk:IntKind}{b n m:Nat}(hT:T.under t=some (.slice e))(hz:T.size e=some 1)(h0:m≤n)(h1:0<n)(hn:n<1073741824):aslice T t (.slice (some ⟨b,0,none⟩) n n) none (some (.int kk (m:Int))) none=some (.slice (some ⟨b,0,none⟩) m n):=by
 have e1:(m:Int)=Int.ofNat m:=rfl;simp only[aslice,hT,hz,e1,unk_big hn,beq_no (show n≠0 by omega),aF h0,aF (iu m),af,ai,iB,iS,Nat.sub_zero];rfl
theorem and_low(n:Nat)(h:n<4294967296):IntKind.u64.wrap (((BitVec.ofInt 64 (n:Int) &&& BitVec.ofInt 64 4294967295).toNat:Nat):Int)=(n:Int):=by
 have e:(BitVec.ofInt 64 (n:Int) &&& BitVec.ofInt 64 4294967295).toNat=n:=by
  rw[BitVec.toNat_and,io,io]
  have e1:((n:Int) % ((2 ^ 64:Nat):Int)).toNat=n:=by
   rw[eL (by omega) (by omega)];omega
  have e2:((4294967295:Int) % ((2 ^ 64:Nat):Int)).toNat=2 ^ 32-1:=by decide
  rw[e1,e2,iM];omega
 rw[e];exact wu64 rfl (by omega) (by omega)
theorem shr_low(n:Nat)(h:n<4294967296):Int.fdiv (n:Int) 4294967296=0:=by
 rw[iV _ (by decide)];omega
noncomputable def f108b:Code:=Tryz.f108.body.getD .skip
theorem mul64_s{n:Nat}(hn:n<4294967296):SCall Tryz.prog T15 108 #[.int .u64 1,.int .u64 (n:Int)] (hq []) fun v h=>v=.tuple #[.int .u64 0,.int .u64 (n:Int)]∧h=hq []:=by
 refine zS Tryz.f108 f108b 51 0 fun X hX=>(sd_run 24 (sd_see 19 (.int .u64 (n:Int)) (see_int (x:=(IntKind.u64.wrap (((BitVec.ofInt 64 (n:Int) &&& BitVec.ofInt 64 4294967295).toNat:Nat):Int))) kr (and_low n hn)) (sd_run 7 (sd_see 21 (.int .u64 0) (see_int (x:=(Int.fdiv (n:Int) 4294967296)) kr (shr_low n hn)) (zI 8 24 .u64 (n:Int) (IntKind.u64.wrap (1*(n:Int))) (zI 8 27 .u64 0 (IntKind.u64.wrap (0*(n:Int))) (sd_run 2 (sd_see 29 (.int .u64 0) (see_int (x:=(Int.fdiv (n:Int) 4294967296)) kr (shr_low n hn)) (zI 46 50 .u64 (n:Int) (IntKind.u64.wrap (1*(n:Int))) (sd_run 4 ?_))))))))))
 refine zY (.tuple #[.int .u64 0,.int .u64 (n:Int)]) hX [] ⟨rfl,rfl⟩
noncomputable def f95b:Code:=Tryz.f95.body.getD .skip
theorem mul_s{n:Nat}(hn:n<4294967296):SCall Tryz.prog T15 95 #[.int .u64 1,.int .u64 (n:Int)] (hq []) fun v h=>v=.tuple #[.int .u64 0,.int .u64 (n:Int)]∧h=hq []:=by
 refine zS Tryz.f95 f95b 30 0 fun X hX=>(sd_run 14 (zG 25 108 #[.int .u64 1,.int .u64 (n:Int)] (@mul64_s n hn) [] ?_))
 rintro v9 k9 ⟨rfl,rfl⟩;refine⟨rfl,.tuple #[.int .u64 0,.int .u64 (n:Int)],kr,?_⟩;refine sd_run 16 ?_;refine zY (.tuple #[.int .u64 0,.int .u64 (n:Int)]) hX [] ⟨rfl,rfl⟩
noncomputable def f59b:Code:=Tryz.f59.body.getD .skip
theorem repeat1_s{n:Nat}(hn:n<1073741824)(h0:0<n):SCall Tryz.prog T15 59 #[sK 0 1 1,jI (n:Int)] (hq [oB 3 [jI (-1)]]) fun v h=>v=.slice (some ⟨1,0,none⟩) n n∧h=hq [oB 3 [jI (-1)],(inF (List.replicate n (-1)))]:=by
 refine zS Tryz.f59 f59b 48 1 fun X hX=>(zF 10 10 ((n:Int)<0) (zI 12 17 .u64 (n:Int) (IntKind.u64.wrap (n:Int)) (zG 18 95 #[.int .u64 1,.int .u64 (n:Int)] (@mul_s n zo) [] ?_)))
 rintro v9 k9 ⟨rfl,rfl⟩;refine⟨rfl,.tuple #[.int .u64 0,.int .u64 (n:Int)],kr,?_⟩;refine zF 15 25 ((n:Int)>9223372036854775807) (zI 10 29 .i64 (n:Int) (IntKind.i64.wrap (n:Int)) (sd_make 30 22 3 8 n 1 .i64 .i64 [jI 0] (tab inC (List.replicate n 0)) kr kr kr kr zo zo kr (tab_one (enc:=inC) (a:=0) rfl _) (sd_run 7 (sd_cp 33 22 (sK 1 n n) (sK 0 1 1) (jI 1) _ kr kr kr (acopy_one (dt:=22) (e0:=3) (ro:=false) kr kr kr kr zo) (sd_run 5 (sd_loop 48 (cl (cl (cl (cr (cr (cr (cr (cr (cr f59b))))))))) [.blk 0,.next (cr (cr (cr (cr (cr (cr (cr f59b)))))))] kr kr kr (fun m9 s9=>∃(m:Nat),m9=n-m∧(0<m)∧(m≤n)∧s9=⟨tmL [(7,sK 1 n n),(8,jI (m:Int))],hq [oB 3 [jI (-1)],(inF (repL m n))]⟩) (n-1) _ e2_ hX ⟨1,rfl,zo,zo,rfl⟩ ⟨zs,zt⟩ kr ?_))))));rintro m9 s9 ⟨m,rfl,i1_0,i1_1,rfl⟩ R1_ hR1_
 by_cases hlt:m<n
 ·refine zT 7 37 ((m:Int)<(n:Int)) (sd_run 10 (sd_val 41 (.slice (some ⟨1,0+m*1,none⟩) (n-m) (n-m)) _ kr kr (aop_slice (t:=22) (x:=sK 1 n n) (l:=some (jI (m:Int))) (h:=none) kr (asl_lo (e:=3) kr kr zo zo zo)) (sd_run 2 (sd_val 44 (sK 1 m n) _ kr kr (aop_slice (t:=22) (x:=sK 1 n n) (l:=none) (h:=some (jI (m:Int))) kr (asl_hi (e:=3) kr kr zo zo zo)) (sd_cp 45 22 (.slice (some ⟨1,0+m*1,none⟩) (n-m) (n-m)) (sK 1 m n) (jI (((min m (n-m)):Nat):Int)) _ kr kr kr (acopy_dbl (dt:=22) kr kr kr zo zo) (sd_run 1 (zI 0 46 .i64 ((m+(min m (n-m)):Nat):Int) (IntKind.i64.wrap ((m:Int)+(((min m (n-m)):Nat):Int))) (sd_run 3 ?_))))))));refine sd_inv R1_ kr (hR1_ _ (n-(m+min m (n-m))) _ e2_ zo ⟨m+min m (n-m),rfl,zo,zo,rfl⟩ ⟨zs,zt⟩ kr)
 ·obtain rfl:n=m:=by omega
  refine zF 7 37 ((n:Int)<(n:Int)) (sd_run 15 ?_);refine sdY (sK 1 n n) hX [oB 3 [jI (-1)],(inF (List.replicate n (-1)))] i2_ ⟨brn,bk_flat (tab inC (repL n n)) kr (tab_plain inC_pl _) (congrArg (tab inC) (repL_all n)),⟨⟩⟩ ⟨rfl,rfl⟩
theorem repeat0_s:SCall Tryz.prog T15 59 #[sK 0 1 1,jI 0] (hq [oB 3 [jI (-1)]]) fun v h=>v=.slice (some ⟨1,0,none⟩) 0 0∧h=hq [oB 3 [jI (-1)],oB 3 []]:=by
 refine zS Tryz.f59 f59b 48 1 fun X hX=>(sd_run 22 (zG 18 95 #[.int .u64 1,.int .u64 ((0:Nat):Int)] (@mul_s 0 zo) [] ?_))
 rintro v9 k9 ⟨rfl,rfl⟩;refine⟨rfl,.tuple #[.int .u64 0,.int .u64 ((0:Nat):Int)],kr,?_⟩;refine sd_run 2 (sd_see 19 (.int .u64 0) (see_int (x:=((0:Nat):Int)) kr rfl) (sd_run 1 (sd_see 20 (.int .u64 0) (see_int (x:=((0:Nat):Int)) kr rfl) (sd_run 59 ?_))));refine zY (sK 1 0 0) hX i2_ ⟨rfl,rfl⟩
theorem repeat_s{n:Nat}(hn:n<1073741824):SCall Tryz.prog T15 59 #[sK 0 1 1,jI (n:Int)] (hq [oB 3 [jI (-1)]]) fun v h=>v=.slice (some ⟨1,0,none⟩) n n∧h=hq [oB 3 [jI (-1)],(inF (List.replicate n (-1)))]:=by
 rcases iU n with rfl|h0
 ·exact repeat0_s
 ·exact repeat1_s hn h0
theorem imm_app{c:List II}{x:II}(h:∀x∈c,0≤x.2.2.2.2∧x.2.2.2.2<4294967296)(hx:0≤x.2.2.2.2∧x.2.2.2.2<4294967296):∀y∈c++[x],0≤y.2.2.2.2∧y.2.2.2.2<4294967296:=fun y hy=>by
 rcases eE.1 hy with h1|h1
 ·exact h y h1
 ·simp at h1;subst h1;exact hx
theorem u32w_in(x:Int):0≤IntKind.u32.wrap x∧IntKind.u32.wrap x<4294967296:=by rw[IntKind.wrap_u32];omega
theorem within_in(n:Int){k:Int}(h:0<k):0≤(0+n % ((k-1)-0+1))∧(0+n % ((k-1)-0+1))<k:=by
 rw[show(k-1)-0+1=k by omega];have a:=eQ n (by omega:k≠0);have b:=il n h;omega
theorem made_const(nd k im:Int):madeB nd 0 (0,k,0,0,im) k=true:=by simp[madeB]
theorem made_arg{nd k:Int}(h:k<nd):madeB nd 0 (1,k,0,0,k) k=true:=by simp[madeB,h]
theorem made_alu{nd k a b im:Int}(ha:0≤a∧a<k)(hb:0≤b∧b<k)(hi:16≤im∧im≤23):madeB nd 0 (3,k,a,b,im) k=true:=by simp[madeB,valB,ha,hb,hi]
theorem made_flag{nd k a b:Int}(ha:0≤a∧a<k)(hb:0≤b∧b<k):madeB nd 0 (4,k,a,b,25) k=true:=by simp[madeB,valB,ha,hb]
theorem half_in{n:Nat}(h:n≤40):IntKind.i64.wrap (Int.tdiv (n:Int) 2)=(n:Int) / 2:=by
 rw[Int.tdiv_eq_ediv_of_nonneg (by omega)];exact w64 rfl (by omega) (by omega)
def MadeC(nd:Int)(c:List II):Prop:=∀(k:Nat) (x:II),c[k]? = some x→madeB nd 0 x k=true
theorem madeC_nil(nd:Int):MadeC nd []:=fun k x h=>by simp at h
theorem MadeC.app{nd:Int}{c:List II}{x:II}{n:Nat}(h:MadeC nd c)(hn:c.length=n)(hx:madeB nd 0 x n=true):MadeC nd (c++[x]):=fun k y hy=>by
 rw[iO]at hy;split at hy
 ·exact h k y hy
 ·have:=(ae.1 hy).1;simp at this;rw[show k-c.length=0 by omega]at hy;simp at hy;subst hy;rw[show k=n by omega];exact hx
def ValC(n:Int)(l:List Int):Prop:=∀x∈l,0≤x∧x<n
theorem valC_nil(n:Int):ValC n []:=fun x h=>by cases h
theorem ValC.app{n:Int}{l:List Int}{x:Int}(h:ValC n l)(hx:0≤x∧x<n):ValC n (l++[x]):=fun y hy=>by
 rcases eE.1 hy with q|q
 ·exact h y q
 ·simp at q;subst q;exact hx
theorem sum_right{c:List II}{od:List Int}{nd fl:Int}(hc:MadeC nd c)(hl:c.length≤40)(hd:0≤nd∧nd≤6)(ho:ValC (c.length:Int) od)(hf:fl = -1∨(0≤fl∧fl<(c.length:Int))):RightP c od [] nd 0 6 0 fl (-1) 0 1 (c.length:Int) where
 vs_:=rfl
 len:=by omega
 nd_:=by omega
 nr_:=by decide
 hd_:=by decide
 hr_:=by decide
 ct_:=by decide
 code:=hc
 od_:=fun k x h=>by have:=ho x (ah h);simp[valB];omega
 rd_:=fun k x h=>by simp at h
 fl_:=hf.imp id fun q=>by simp[valB];omega
 tg_:=.inl rfl
 br_:=.inl rfl
noncomputable def f6b:Code:=Tryz.f6.body.getD .skip
set_option maxHeartbeats 4000000 in
theorem sum_s{xa xb xd:List Int}{e3:Int}{ro:Bool}(hx0:∀x∈xa,i64B x=true)(hx1:∀x∈xb,i64B x=true)(hx2:∀x∈xd,i64B x=true)(he3:i64B e3=true)(hl0:xa.length≤9223372036854775807)(hl1:xb.length≤9223372036854775807)(hl2:xd.length≤9223372036854775807):SCall Tryz.prog T15 6 #[.agg #[(s1 0 xa.length),(s1 1 xb.length),(s1 2 xd.length),jI e3]] (hq [(inCo xa ro),(inCo xb ro),(inCo xd ro)]) fun v h=>∃(nd1 fl1:Int) (C:List II) (OD:List Int),RightP C OD [] nd1 0 6 0 fl1 (-1) 0 1 (C.length:Int)∧(∀x∈C,0≤x.2.2.2.2∧x.2.2.2.2<4294967296)∧OD.length≤9∧C.length≤40∧v=(pgV (s5 3 C.length) nd1 0 6 0 (s1 4 OD.length) nS fl1 0 (-1) 0 0 1 (C.length:Int))∧h=hq [(inCo xa ro),(inCo xb ro),(inCo xd ro),(iiF C),(inF OD)]:=by
 simp only[i64B,ab,ap]at he3;refine zS Tryz.f6 f6b 159 3 fun X hX=>(sd_run 10 (sd_ask 9 (jI (0+e3 % (6-0+1))) 21 #[jI e3,jI 0,jI 6] kr kr kr (orc21 e3 0 6 (inB_of (by first|omega|(simp only[bd]at *;omega)) (by first|omega|(simp only[bd]at *;omega)) (by first|omega|(simp only[bd]at *;omega)) (by first|omega|(simp only[bd]at *;omega)))) (sd_run 12 ?_)))
 obtain⟨nd,hnd⟩:∃x,x=(0+e3 % (6-0+1)):=⟨_,rfl⟩;have hn9:0≤nd∧nd≤6:=by omega
 obtain⟨N,hN⟩:∃N,N=min (min xa.length xb.length) 40:=⟨_,rfl⟩;refine sd_loop 159 (cl (cl (cr (cl (cr (cr f6b)))))) [.blk 0,.next (cr (cr (cr f6b)))] kr kr kr (fun m9 s9=>∃(k:Nat) (c:List II),m9=N-k∧(k≤N)∧(c.length=k)∧(MadeC nd c)∧(∀x∈c,0≤x.2.2.2.2∧x.2.2.2.2<4294967296)∧s9=⟨tmL [(1,pT 3 0),(2,pT 4 0),(3,pT 5 0),(4,jI (k:Int))],hq [(inCo xa ro),(inCo xb ro),(inCo xd ro),oB 24 [(s1 0 xa.length),(s1 1 xb.length),(s1 2 xd.length),jI e3],some ⟨pg0,34,false⟩,oB 34 (pgL (s5 6 c.length) (0+e3 % (6-0+1)) 0 6 0 nS nS (-1) 0 (-1) 0 0 1 0),(iiF c)]⟩) (N-0) _ (emOf (eM [1,2,3,4,5,6,0])) hX ⟨0,[],rfl,zo,rfl,(madeC_nil _),(fun x hx=>by cases hx),rfl⟩ ⟨zs,zt⟩ kr ?_;rintro m9 s9 ⟨k,c,rfl,i1_0,i1_1,i1_2,i1_3,rfl⟩ R1_ hR1_
 by_cases hlt:k<N
 ·obtain⟨a1,ha1⟩:=zR xa k;have ia1:=hx0 _ (ah ha1);simp only[i64B,ab,ap]at ia1;obtain⟨a2,ha2⟩:=zR xb k;have ia2:=hx1 _ (ah ha2);simp only[i64B,ab,ap]at ia2
  by_cases hkd:(k:Int)<(0+e3 % (6-0+1))
  ·refine zT 8 15 ((k:Int)<(xa.length:Int)) (zT 6 21 ((k:Int)<(xb.length:Int)) (zT 4 25 ((k:Int)<40) (sd_run 28 (sd_see 34 (.bool true) (see_bool (x:=(decide ((k:Int)<(0+e3 % (6-0+1))))) kr (aQ zo)) (zI 7 41 .u32 (k:Int) (IntKind.u32.wrap (k:Int)) (sd_run 10 (sd_grow 115 32 32 62 4 39 6 c.length 1 9 (sK 8 1 1) (tab iiC c) [jI 1,jI (k:Int),jI 0,jI 0,jU (k:Int)] (tab iiC (c++[(1,(k:Int),0,0,(k:Int))])) kr kr kr kr kr ((tab_len iiC_len _).trans (by first|rfl|(simp only[ar,ay,aL,aP]at *;done))) kr kr (by decide) kr zo kr (tab_snoc c (1,(k:Int),0,0,(k:Int))) (sd_see 115 (s5 9 ((c++[(1,(k:Int),0,0,(k:Int))]).length)) (see_len (n:=(c.length+1)) kr (by simp)) (zI 8 28 .i64 ((k+1:Nat):Int) (IntKind.i64.wrap ((k:Int)+1)) (sd_run 2 ?_))))))))));refine sd_inv R1_ kr (hR1_ _ (N-(k+1)) _ (emOf (eM [1,2,3,4,5,6,10])) zo ⟨k+1,(c++[(1,(k:Int),0,0,(k:Int))]),rfl,zo,(by simp;omega),(i1_2.app i1_1 (made_arg zo)),(imm_app i1_3 (show 0≤(k:Int)∧(k:Int)<4294967296 from⟨by omega,by omega⟩)),rfl⟩ ⟨zs,zt⟩ kr)
  ·by_cases hk0:k=0
   ·refine zT 8 15 ((k:Int)<(xa.length:Int)) (zT 6 21 ((k:Int)<(xb.length:Int)) (zT 4 25 ((k:Int)<40) (sd_run 28 (sd_see 34 (.bool false) (see_bool (x:=(decide ((k:Int)<(0+e3 % (6-0+1))))) kr (aD zo)) (zF 7 45 ((k:Int)>0) (zF 17 83 ((k:Int)>0) (sd_run 21 (sd_grow 115 32 32 62 4 39 6 c.length 1 9 (sK 8 1 1) (tab iiC c) [jI 0,jI (k:Int),jI 0,jI 0,jU (IntKind.u32.wrap ((IntKind.u32.wrap (k:Int))*77))] (tab iiC (c++[(0,(k:Int),0,0,(IntKind.u32.wrap ((IntKind.u32.wrap (k:Int))*77)))])) kr kr kr kr kr ((tab_len iiC_len _).trans (by first|rfl|(simp only[ar,ay,aL,aP]at *;done))) kr kr (by decide) kr zo kr (tab_snoc c (0,(k:Int),0,0,(IntKind.u32.wrap ((IntKind.u32.wrap (k:Int))*77)))) (sd_see 115 (s5 9 ((c++[(0,(k:Int),0,0,(IntKind.u32.wrap ((IntKind.u32.wrap (k:Int))*77)))]).length)) (see_len (n:=(c.length+1)) kr (by simp)) (sd_run 8 (zI 0 28 .i64 ((k+1:Nat):Int) (IntKind.i64.wrap ((k:Int)+1)) (sd_run 2 ?_))))))))))));refine sd_inv R1_ kr (hR1_ _ (N-(k+1)) _ (emOf (eM [1,2,3,4,5,6,10])) zo ⟨k+1,(c++[(0,(k:Int),0,0,(IntKind.u32.wrap ((IntKind.u32.wrap (k:Int))*77)))]),rfl,zo,(by simp;omega),(i1_2.app i1_1 (made_const _ _ _)),(imm_app i1_3 (show 0≤(IntKind.u32.wrap ((IntKind.u32.wrap (k:Int))*77))∧(IntKind.u32.wrap ((IntKind.u32.wrap (k:Int))*77))<4294967296 from(u32w_in _))),rfl⟩ ⟨zs,zt⟩ kr)
   ·by_cases ha4:0<Int.tmod a1 4
    ·refine zT 8 15 ((k:Int)<(xa.length:Int)) (zT 6 21 ((k:Int)<(xb.length:Int)) (zT 4 25 ((k:Int)<40) (sd_run 28 (sd_see 34 (.bool false) (see_bool (x:=(decide ((k:Int)<(0+e3 % (6-0+1))))) kr (aD zo)) (zT 7 45 ((k:Int)>0) (zX 4 50 (pT 0 (0+k*1)) k xa.length (zL 0 51 (jI a1) 3 0 0 3 ro inC_len ha1 (sd_run 2 (sd_see 53 (.bool true) (see_bool (x:=(decide (((Int.tmod a1 4):Int)>0))) kr (aQ zo)) (sd_run 5 (sd_drawP kr ?_)))))))))));refine svp_go 4 ?_;refine svp_line ?_;refine sv_ix 59 (pT 0 (0+k*1)) k xa.length kr kr kr zo kr kr ?_;refine sv_ld 60 (jI a1) 3 (pT 0 (0+k*1)) kr kr kr (ld_cell (l:=xa) (e:=3) (ro:=ro) (k:=k) (j:=0) inC_len kr kr kr ha1 rfl) kr ?_;refine sv_run 2 ?_;refine sv_see 62 (jI ((k:Int)-1)) (see_int (x:=(IntKind.i64.wrap ((k:Int)-1))) kr (w64 zo zo zo)) ?_;refine sv_ask 63 (jI (0+a1 % (((k:Int)-1)-0+1))) 21 #[jI a1,jI 0,jI ((k:Int)-1)] kr kr kr (orc21 a1 0 ((k:Int)-1) (inB_of (by first|omega|(simp only[bd]at *;omega)) (by first|omega|(simp only[bd]at *;omega)) (by first|omega|(simp only[bd]at *;omega)) (by first|omega|(simp only[bd]at *;omega)))) ?_;refine sv_run 1 ?_;refine sv_rd 65 (s1 1 xb.length) 22 3 1 kr kr kr kr (veq_slice _ _ _) kr ?_;refine sv_run 1 ?_;refine sv_ix 67 (pT 1 (0+k*1)) k xb.length kr kr kr zo kr kr ?_
     refine sv_rd 68 (jI a2) 3 1 (0+k*1) kr kr kr (ld_cell (l:=xb) (e:=3) (ro:=ro) (k:=k) (j:=0) inC_len kr kr kr ha2 rfl) (veq_int _ _) kr ?_;refine sv_run 2 ?_;refine sv_see 70 (jI ((k:Int)-1)) (see_int (x:=(IntKind.i64.wrap ((k:Int)-1))) kr (w64 zo zo zo)) ?_;refine sv_ask 71 (jI (0+a2 % (((k:Int)-1)-0+1))) 21 #[jI a2,jI 0,jI ((k:Int)-1)] kr kr kr (orc21 a2 0 ((k:Int)-1) (inB_of (by first|omega|(simp only[bd]at *;omega)) (by first|omega|(simp only[bd]at *;omega)) (by first|omega|(simp only[bd]at *;omega)) (by first|omega|(simp only[bd]at *;omega)))) ?_;refine sv_run 1 ?_;refine sv_rd 73 (s1 1 xb.length) 22 3 1 kr kr kr kr (veq_slice _ _ _) kr ?_;refine sv_run 1 ?_;refine sv_ix 75 (pT 1 (0+k*1)) k xb.length kr kr kr zo kr kr ?_;refine sv_rd 76 (jI a2) 3 1 (0+k*1) kr kr kr (ld_cell (l:=xb) (e:=3) (ro:=ro) (k:=k) (j:=0) inC_len kr kr kr ha2 rfl) (veq_int _ _) kr ?_;refine sv_ask 77 (jI (0+a2 % (7-0+1))) 21 #[jI a2,jI 0,jI 7] kr kr kr (orc21 a2 0 7 (inB_of (by first|omega|(simp only[bd]at *;omega)) (by first|omega|(simp only[bd]at *;omega)) (by first|omega|(simp only[bd]at *;omega)) (by first|omega|(simp only[bd]at *;omega)))) ?_;refine sv_run 1 ?_;refine sv_see 78 (jU (0+a2 % (7-0+1))) (see_int (x:=(IntKind.u32.wrap (0+a2 % (7-0+1)))) kr (wu32 rfl zo zo)) ?_;refine sv_run 1 ?_
     refine sv_see 79 (jU (16+(0+a2 % (7-0+1)))) (see_int (x:=(IntKind.u32.wrap (16+(0+a2 % (7-0+1))))) kr (wu32 rfl zo zo)) ?_;refine sv_run 2 ?_;refine sv_end kr ?_;refine sd_run 7 (sd_grow 115 32 32 62 4 39 6 c.length 1 9 (sK 8 1 1) (tab iiC c) [jI 3,jI (k:Int),jI (0+a1 % (((k:Int)-1)-0+1)),jI (0+a2 % (((k:Int)-1)-0+1)),jU (16+(0+a2 % (7-0+1)))] (tab iiC (c++[(3,(k:Int),(0+a1 % (((k:Int)-1)-0+1)),(0+a2 % (((k:Int)-1)-0+1)),(16+(0+a2 % (7-0+1))))])) kr kr kr kr kr ((tab_len iiC_len _).trans (by first|rfl|(simp only[ar,ay,aL,aP]at *;done))) kr kr (by decide) kr zo kr (tab_snoc c (3,(k:Int),(0+a1 % (((k:Int)-1)-0+1)),(0+a2 % (((k:Int)-1)-0+1)),(16+(0+a2 % (7-0+1))))) (sd_see 115 (s5 9 ((c++[(3,(k:Int),(0+a1 % (((k:Int)-1)-0+1)),(0+a2 % (((k:Int)-1)-0+1)),(16+(0+a2 % (7-0+1))))]).length)) (see_len (n:=(c.length+1)) kr (by simp)) (zI 8 28 .i64 ((k+1:Nat):Int) (IntKind.i64.wrap ((k:Int)+1)) (sd_run 2 ?_))))
     refine sd_inv R1_ kr (hR1_ _ (N-(k+1)) _ (emOf (eM [1,2,3,4,5,6,10])) zo ⟨k+1,(c++[(3,(k:Int),(0+a1 % (((k:Int)-1)-0+1)),(0+a2 % (((k:Int)-1)-0+1)),(16+(0+a2 % (7-0+1))))]),rfl,zo,(by simp;omega),(i1_2.app i1_1 (made_alu (within_in _ zo) (within_in _ zo) zo)),(imm_app i1_3 (show 0≤(16+(0+a2 % (7-0+1)))∧(16+(0+a2 % (7-0+1)))<4294967296 from⟨by omega,by omega⟩)),rfl⟩ ⟨zs,zt⟩ kr)
    ·by_cases hb4:Int.tmod a2 4=0
     ·refine zT 8 15 ((k:Int)<(xa.length:Int)) (zT 6 21 ((k:Int)<(xb.length:Int)) (zT 4 25 ((k:Int)<40) (sd_run 28 (sd_see 34 (.bool false) (see_bool (x:=(decide ((k:Int)<(0+e3 % (6-0+1))))) kr (aD zo)) (zT 7 45 ((k:Int)>0) (zX 4 50 (pT 0 (0+k*1)) k xa.length (zL 0 51 (jI a1) 3 0 0 3 ro inC_len ha1 (sd_run 2 (sd_see 53 (.bool false) (see_bool (x:=(decide (((Int.tmod a1 4):Int)>0))) kr (aD zo)) (sd_run 9 (zT 0 83 ((k:Int)>0) (zX 4 88 (pT 1 (0+k*1)) k xb.length (zL 0 89 (jI a2) 3 1 0 3 ro inC_len ha2 (sd_run 2 (sd_see 91 (.bool true) (see_bool (x:=(((Int.tmod a2 4):Int) == 0)) kr (ir.2 zo)) (sd_run 5 (sd_drawP kr ?_)))))))))))))))));refine svp_go 4 ?_;refine svp_line ?_;refine sv_ix 97 (pT 0 (0+k*1)) k xa.length kr kr kr zo kr kr ?_;refine sv_ld 98 (jI a1) 3 (pT 0 (0+k*1)) kr kr kr (ld_cell (l:=xa) (e:=3) (ro:=ro) (k:=k) (j:=0) inC_len kr kr kr ha1 rfl) kr ?_;refine sv_run 2 ?_;refine sv_see 100 (jI ((k:Int)-1)) (see_int (x:=(IntKind.i64.wrap ((k:Int)-1))) kr (w64 zo zo zo)) ?_;refine sv_ask 101 (jI (0+a1 % (((k:Int)-1)-0+1))) 21 #[jI a1,jI 0,jI ((k:Int)-1)] kr kr kr (orc21 a1 0 ((k:Int)-1) (inB_of (by first|omega|(simp only[bd]at *;omega)) (by first|omega|(simp only[bd]at *;omega)) (by first|omega|(simp only[bd]at *;omega)) (by first|omega|(simp only[bd]at *;omega)))) ?_;refine sv_run 1 ?_
      refine sv_rd 103 (s1 1 xb.length) 22 3 1 kr kr kr kr (veq_slice _ _ _) kr ?_;refine sv_run 1 ?_;refine sv_ix 105 (pT 1 (0+k*1)) k xb.length kr kr kr zo kr kr ?_;refine sv_rd 106 (jI a2) 3 1 (0+k*1) kr kr kr (ld_cell (l:=xb) (e:=3) (ro:=ro) (k:=k) (j:=0) inC_len kr kr kr ha2 rfl) (veq_int _ _) kr ?_;refine sv_run 2 ?_;refine sv_see 108 (jI ((k:Int)-1)) (see_int (x:=(IntKind.i64.wrap ((k:Int)-1))) kr (w64 zo zo zo)) ?_;refine sv_ask 109 (jI (0+a2 % (((k:Int)-1)-0+1))) 21 #[jI a2,jI 0,jI ((k:Int)-1)] kr kr kr (orc21 a2 0 ((k:Int)-1) (inB_of (by first|omega|(simp only[bd]at *;omega)) (by first|omega|(simp only[bd]at *;omega)) (by first|omega|(simp only[bd]at *;omega)) (by first|omega|(simp only[bd]at *;omega)))) ?_;refine sv_run 2 ?_;refine sv_end kr ?_
      refine sd_run 7 (sd_grow 115 32 32 62 4 39 6 c.length 1 9 (sK 8 1 1) (tab iiC c) [jI 4,jI (k:Int),jI (0+a1 % (((k:Int)-1)-0+1)),jI (0+a2 % (((k:Int)-1)-0+1)),jU 25] (tab iiC (c++[(4,(k:Int),(0+a1 % (((k:Int)-1)-0+1)),(0+a2 % (((k:Int)-1)-0+1)),25)])) kr kr kr kr kr ((tab_len iiC_len _).trans (by first|rfl|(simp only[ar,ay,aL,aP]at *;done))) kr kr (by decide) kr zo kr (tab_snoc c (4,(k:Int),(0+a1 % (((k:Int)-1)-0+1)),(0+a2 % (((k:Int)-1)-0+1)),25)) (sd_see 115 (s5 9 ((c++[(4,(k:Int),(0+a1 % (((k:Int)-1)-0+1)),(0+a2 % (((k:Int)-1)-0+1)),25)]).length)) (see_len (n:=(c.length+1)) kr (by simp)) (zI 8 28 .i64 ((k+1:Nat):Int) (IntKind.i64.wrap ((k:Int)+1)) (sd_run 2 ?_))));refine sd_inv R1_ kr (hR1_ _ (N-(k+1)) _ (emOf (eM [1,2,3,4,5,6,10])) zo ⟨k+1,(c++[(4,(k:Int),(0+a1 % (((k:Int)-1)-0+1)),(0+a2 % (((k:Int)-1)-0+1)),25)]),rfl,zo,(by simp;omega),(i1_2.app i1_1 (made_flag (within_in _ zo) (within_in _ zo))),(imm_app i1_3 (show 0≤25∧25<4294967296 from⟨by decide,by decide⟩)),rfl⟩ ⟨zs,zt⟩ kr)
     ·refine zT 8 15 ((k:Int)<(xa.length:Int)) (zT 6 21 ((k:Int)<(xb.length:Int)) (zT 4 25 ((k:Int)<40) (sd_run 28 (sd_see 34 (.bool false) (see_bool (x:=(decide ((k:Int)<(0+e3 % (6-0+1))))) kr (aD zo)) (zT 7 45 ((k:Int)>0) (zX 4 50 (pT 0 (0+k*1)) k xa.length (zL 0 51 (jI a1) 3 0 0 3 ro inC_len ha1 (sd_run 2 (sd_see 53 (.bool false) (see_bool (x:=(decide (((Int.tmod a1 4):Int)>0))) kr (aD zo)) (sd_run 9 ?_))))))))));refine zT 0 83 ((k:Int)>0) (zX 4 88 (pT 1 (0+k*1)) k xb.length (zL 0 89 (jI a2) 3 1 0 3 ro inC_len ha2 (sd_run 2 (sd_see 91 (.bool false) (see_bool (x:=(((Int.tmod a2 4):Int) == 0)) kr (aB.2 zo)) (sd_run 13 (sd_grow 115 32 32 62 4 39 6 c.length 1 9 (sK 8 1 1) (tab iiC c) [jI 0,jI (k:Int),jI 0,jI 0,jU (IntKind.u32.wrap ((IntKind.u32.wrap (k:Int))*77))] (tab iiC (c++[(0,(k:Int),0,0,(IntKind.u32.wrap ((IntKind.u32.wrap (k:Int))*77)))])) kr kr kr kr kr ((tab_len iiC_len _).trans (by first|rfl|(simp only[ar,ay,aL,aP]at *;done))) kr kr (by decide) kr zo kr (tab_snoc c (0,(k:Int),0,0,(IntKind.u32.wrap ((IntKind.u32.wrap (k:Int))*77)))) (sd_see 115 (s5 9 ((c++[(0,(k:Int),0,0,(IntKind.u32.wrap ((IntKind.u32.wrap (k:Int))*77)))]).length)) (see_len (n:=(c.length+1)) kr (by simp)) (zI 8 28 .i64 ((k+1:Nat):Int) (IntKind.i64.wrap ((k:Int)+1)) (sd_run 2 ?_)))))))))
      refine sd_inv R1_ kr (hR1_ _ (N-(k+1)) _ (emOf (eM [1,2,3,4,5,6,10])) zo ⟨k+1,(c++[(0,(k:Int),0,0,(IntKind.u32.wrap ((IntKind.u32.wrap (k:Int))*77)))]),rfl,zo,(by simp;omega),(i1_2.app i1_1 (made_const _ _ _)),(imm_app i1_3 (show 0≤(IntKind.u32.wrap ((IntKind.u32.wrap (k:Int))*77))∧(IntKind.u32.wrap ((IntKind.u32.wrap (k:Int))*77))<4294967296 from(u32w_in _))),rfl⟩ ⟨zs,zt⟩ kr)
 ·obtain rfl:k=N:=by omega
  refine sd_run 2 (sd_mid 159 (cl (cl (cl (cl (cr (cl (cr (cr f6b)))))))) [.next (cr (cl (cl (cl (cr (cl (cr (cr f6b)))))))),.next (cr (cl (cl (cr (cl (cr (cr f6b))))))),.inv R1_,.blk 0,.next (cr (cr (cr f6b)))] kr kr kr (fun s9=>s9=⟨tmL [(1,pT 3 0),(2,pT 4 0),(3,pT 5 0),(4,jI (k:Int)),(26,.bool false)],hq [(inCo xa ro),(inCo xb ro),(inCo xd ro),oB 24 [(s1 0 xa.length),(s1 1 xb.length),(s1 2 xd.length),jI e3],some ⟨pg0,34,false⟩,oB 34 (pgL (s5 6 c.length) (0+e3 % (6-0+1)) 0 6 0 nS nS (-1) 0 (-1) 0 0 1 0),(iiF c)]⟩) hX ?_ ?_)
  ·intro R2_ hR2_;rcases(by omega:(k=xa.length)∨(k<xa.length∧k=xb.length)∨(k<xa.length∧k<xb.length∧k=40))with hq|hq|hq
   ·refine zF 6 15 ((k:Int)<(xa.length:Int)) (sd_run 12 ?_);refine sd_inv R2_ kr (hR2_ _ _ e7_ rfl ⟨zs,zt⟩ kr)
   ·refine zT 6 15 ((k:Int)<(xa.length:Int)) (zF 6 21 ((k:Int)<(xb.length:Int)) (sd_run 6 ?_));refine sd_inv R2_ kr (hR2_ _ _ e7_ rfl ⟨zs,zt⟩ kr)
   ·refine zT 6 15 ((k:Int)<(xa.length:Int)) (zT 6 21 ((k:Int)<(xb.length:Int)) (zF 4 25 ((k:Int)<40) (sd_run 2 ?_)));refine sd_inv R2_ kr (hR2_ _ _ e7_ rfl ⟨zs,zt⟩ kr)
  ·rintro s9 rfl;refine sd_run 23 ?_;obtain⟨N2,hN2⟩:∃N,N=(if c.length=0 then 0 else min xd.length 9):=⟨_,rfl⟩;have hb2:N2≤9:=by rw[hN2];by_cases h:c.length=0;(rw[if_pos h];omega);(rw[if_neg h];omega)
   refine sd_loop 159 (cl (cl (cr (cl (cr (cr (cr (cr f6b)))))))) [.blk 3,.next (cr (cr (cr (cr (cr f6b)))))] kr kr kr (fun m9 s9=>∃(j:Nat) (od:List Int),m9=N2-j∧(j≤N2)∧(od.length=j)∧(ValC (c.length:Int) od)∧s9=⟨tmL [(1,pT 3 0),(2,pT 4 0),(3,pT 5 0),(6,jI (j:Int))],hq [(inCo xa ro),(inCo xb ro),(inCo xd ro),oB 24 [(s1 0 xa.length),(s1 1 xb.length),(s1 2 xd.length),jI e3],some ⟨pg0,34,false⟩,oB 34 (pgL (s5 6 c.length) (0+e3 % (6-0+1)) 0 6 0 (s1 7 od.length) nS (-1) 0 (-1) 0 0 1 (c.length:Int)),(iiF c),(inF od)]⟩) (N2-0) _ (emOf (eM [1,2,3,4,5,6,7,0])) hX ⟨0,[],rfl,zo,rfl,(valC_nil _),rfl⟩ ⟨zs,zt⟩ kr ?_;rintro m9 s9 ⟨j,od,rfl,i3_0,i3_1,i3_2,rfl⟩ R3_ hR3_
   by_cases hlt:j<N2
   ·have hc1:0<c.length:=by by_cases h:c.length=0;(rw[if_pos h]at hN2;omega);omega
    have hm1:j<9∧j<xd.length:=by rw[if_neg (by omega)]at hN2;omega
    obtain⟨a3,ha3⟩:=zR xd j;have ia3:=hx2 _ (ah ha3);simp only[i64B,ab,ap]at ia3;refine zT 6 123 ((c.length:Int)>0) (zT 6 129 ((j:Int)<(xd.length:Int)) (zT 4 133 ((j:Int)<9) (sd_run 8 (sd_drawQ [(1,10)] kr kr ?_))));refine sq_run 1 ?_;refine sq_rd 138 (s1 7 od.length) (pT 5 5) 22 kr kr kr kr (veq_slice _ _ _) kr ?_;refine sq_run 3 ?_;refine sq_ix 142 (pT 2 (0+j*1)) j xd.length kr kr kr zo kr ?_;refine sq_ld 143 (jI a3) 3 (pT 2 (0+j*1)) kr kr kr (ld_cell (l:=xd) (e:=3) (ro:=ro) (k:=j) (j:=0) inC_len kr kr kr ha3 rfl) kr ?_;refine sq_run 3 ?_;refine sq_see 146 (jI ((c.length:Int)-1)) (see_int (x:=(IntKind.i64.wrap ((c.length:Int)-1))) kr (w64 zo zo zo)) ?_;refine sq_ask 147 (jI (0+a3 % (((c.length:Int)-1)-0+1))) 21 #[jI a3,jI 0,jI ((c.length:Int)-1)] kr kr kr (orc21 a3 0 ((c.length:Int)-1) (inB_of (by first|omega|(simp only[bd]at *;omega)) (by first|omega|(simp only[bd]at *;omega)) (by first|omega|(simp only[bd]at *;omega)) (by first|omega|(simp only[bd]at *;omega)))) ⟨kr,kr,kr⟩ ?_;refine sq_run 1 ?_;refine sq_grow 149 22 22 3 0 7 7 od.length 1 9 (sK 8 1 1) (tab inC od) [jI (0+a3 % (((c.length:Int)-1)-0+1))] (tab inC (od++[(0+a3 % (((c.length:Int)-1)-0+1))])) kr kr kr kr kr ((tab_len inC_len _).trans (by first|rfl|(simp only[ar,ay,aL,aP]at *;done))) kr kr (by decide) kr zo kr (tab_snoc od (0+a3 % (((c.length:Int)-1)-0+1))) kr ?_
    refine sq_see 149 (s1 9 ((od++[(0+a3 % (((c.length:Int)-1)-0+1))]).length)) (see_len (n:=(od.length+1)) kr (by simp)) ?_;refine sq_run 2 ?_;refine sq_end kr ?_;refine zI 5 136 .i64 ((j+1:Nat):Int) (IntKind.i64.wrap ((j:Int)+1)) (sd_run 2 ?_);refine sd_inv R3_ kr (hR3_ _ (N2-(j+1)) _ (emOf (eM [1,2,3,4,5,6,7,10])) zo ⟨j+1,(od++[(0+a3 % (((c.length:Int)-1)-0+1))]),rfl,zo,(by simp;omega),(i3_2.app (by have:=eQ a3 (by omega:(c.length:Int)-1-0+1≠0);have:=il a3 (by omega:0<(c.length:Int)-1-0+1);omega)),rfl⟩ ⟨zs,zt⟩ kr)
   ·obtain rfl:j=N2:=by omega
    refine sd_run 2 (sd_mid 159 (cl (cl (cl (cl (cr (cl (cr (cr (cr (cr f6b)))))))))) [.next (cr (cl (cl (cl (cr (cl (cr (cr (cr (cr f6b)))))))))),.next (cr (cl (cl (cr (cl (cr (cr (cr (cr f6b))))))))),.inv R3_,.blk 3,.next (cr (cr (cr (cr (cr f6b)))))] kr kr kr (fun s9=>s9=⟨tmL [(1,pT 3 0),(2,pT 4 0),(3,pT 5 0),(6,jI (j:Int)),(134,.bool false)],hq [(inCo xa ro),(inCo xb ro),(inCo xd ro),oB 24 [(s1 0 xa.length),(s1 1 xb.length),(s1 2 xd.length),jI e3],some ⟨pg0,34,false⟩,oB 34 (pgL (s5 6 c.length) (0+e3 % (6-0+1)) 0 6 0 (s1 7 od.length) nS (-1) 0 (-1) 0 0 1 (c.length:Int)),(iiF c),(inF od)]⟩) hX ?_ ?_)
    ·intro R4_ hR4_
     by_cases hc0:c.length=0
     ·refine zF 4 123 ((c.length:Int)>0) (sd_run 12 ?_);refine sd_inv R4_ kr (hR4_ _ _ e8_ rfl ⟨zs,zt⟩ kr)
     ·rw[if_neg hc0]at hN2;rcases(by omega:j=xd.length∨(j<xd.length∧j=9))with hq|hq
      ·refine zT 4 123 ((c.length:Int)>0) (zF 6 129 ((j:Int)<(xd.length:Int)) (sd_run 6 ?_));refine sd_inv R4_ kr (hR4_ _ _ e8_ rfl ⟨zs,zt⟩ kr)
      ·refine zT 4 123 ((c.length:Int)>0) (zT 6 129 ((j:Int)<(xd.length:Int)) (zF 4 133 ((j:Int)<9) (sd_run 2 ?_)));refine sd_inv R4_ kr (hR4_ _ _ e8_ rfl ⟨zs,zt⟩ kr)
    ·rintro s9 rfl;refine sd_run 9 ?_
     by_cases hc2:2<c.length
     ·refine zT 4 153 ((c.length:Int)>2) (sd_run 7 (sd_see 156 (jI ((c.length:Int) / 2)) (see_int (x:=(IntKind.i64.wrap (Int.tdiv (c.length:Int) 2))) kr (half_in zo)) (sd_run 11 ?_)));subst hnd;refine zZ (pgV (s5 6 c.length) (0+e3 % (6-0+1)) 0 6 0 (s1 7 od.length) nS ((c.length:Int) / 2) 0 (-1) 0 0 1 (c.length:Int)) hX (pgV (s5 3 c.length) (0+e3 % (6-0+1)) 0 6 0 (s1 4 od.length) nS ((c.length:Int) / 2) 0 (-1) 0 0 1 (c.length:Int)) (eM [1,2,3,7,8]) ⟨(0+e3 % (6-0+1)),((c.length:Int) / 2),c,od,(sum_right i1_2 zo hn9 i3_2 (.inr zo)),i1_3,zo,zo,rfl,rfl⟩
     ·refine zF 4 153 ((c.length:Int)>2) (sd_run 12 ?_);subst hnd;refine zZ (pgV (s5 6 c.length) (0+e3 % (6-0+1)) 0 6 0 (s1 7 od.length) nS (-1) 0 (-1) 0 0 1 (c.length:Int)) hX (pgV (s5 3 c.length) (0+e3 % (6-0+1)) 0 6 0 (s1 4 od.length) nS (-1) 0 (-1) 0 0 1 (c.length:Int)) (eM [1,2,3,7,8]) ⟨(0+e3 % (6-0+1)),(-1),c,od,(sum_right i1_2 zo hn9 i3_2 (.inl rfl)),i1_3,zo,zo,rfl,rfl⟩
end Ls
end Go.Proofs.YtihacfclecanjaaGreat
