/- Chapter 22: walks and laws. -/
import Derived.Test.YtihacfclecanjaaGreatRows
import Derived.Test.YtihacfclecanjaaGreatEve
import Derived.WalkKit
import Derived.Lib.Hide
import Derived.RegionTactic
set_option linter.unusedVariables false
set_option linter.unusedSimpArgs false
namespace Go.Proofs.YtihacfclecanjaaGreat
open Go Go.Ev Go.RowKit
set_option maxRecDepth 100000
namespace Ls
theorem ret_one{k:IntKind}{a b:Int}(h:a=b):Ending.returned (.int k a)=.returned (.int k b):=by rw[h]
theorem tmod_emod(n m:Int)(hm:0<m):n.tmod m=if 0≤n then n % m else if n % m=0 then 0 else n % m-m:=by
 split
 ·rename_i h;exact aU h
 ·rename_i h
  have h1:n.tmod m = - ((-n) % m):=by
   have:=Int.neg_tmod (-n) m;rw[Int.neg_neg]at this;rw[this,aU (by omega)]
  have h2:(-n) % m=if n % m=0 then 0 else m-n % m:=by
   have hd:=Int.mul_ediv_add_emod n m;have hp:=eQ n (by omega:m≠0);have hq:=il n hm;split
   ·rename_i h0;have:m∣n:=Int.dvd_of_emod_eq_zero h0;exact Int.emod_eq_zero_of_dvd (Int.dvd_neg.2 this)
   ·rename_i h0
    have e : -n=(m-n % m)+m*(-(n / m)-1):=by
     rw[Int.mul_sub,Int.mul_neg,Int.mul_one];omega
    rw[e,Int.add_mul_emod_self_left];exact eL (by omega) (by omega)
  rw[h1,h2];split<;>omega
set_option maxHeartbeats 400000 in
theorem within_any(n lo hi:Int)(w:World)(h0 : -9223372036854775808≤n)(h1:n≤9223372036854775807)(h2 : -1099511627776≤lo)(h3:lo≤hi)(h4:hi≤1099511627776):
    Calls Tryz.prog 21 #[.int .i64 n,.int .i64 lo,.int .i64 hi] w fun e w'=>e=.returned (.int .i64 (lo+n % (hi-lo+1)))∧w=w':=by
 have ht:=tmod_emod n (hi-lo+1) (by omega);have hp:=eQ n (by omega:hi-lo+1≠0);have hq:=il n (by omega:0<hi-lo+1);generalize n % (hi-lo+1)=r at *;have b1 : -(hi-lo+1)<n.tmod (hi-lo+1):=by rw[ht];split<;>(try split)<;>omega
 have b2:n.tmod (hi-lo+1)<hi-lo+1:=by rw[ht];split<;>(try split)<;>omega
 have Ht:=Lib.hid ht;clear ht
 go_enter Tryz.func21,Tryz.ntmps21
 go_wp2
 all_goals
  go_ret
  refine⟨ret_one ?_,rfl⟩;have:=Ht.out;revert this;split<;>(try split)<;>intro this<;>omega
def i64B(n:Int):Bool:=decide (-9223372036854775808≤n)&&decide (n≤9223372036854775807)
def u32B(n:Int):Bool:=decide (0≤n)&&decide (n<4294967296)
theorem u32B_iff{n:Int}:u32B n=true↔0≤n∧n<4294967296:=by simp[u32B]
noncomputable def T0:Tab:=tabOf Tryz.prog
theorem ok_T0[Bs]:ProgOk Tryz.prog T0:=progOk_of (by kernel_rfl) (by kernel_rfl)
instance:OrcDat T0:=orcDat_none fun _ _=>rfl
def inB(n lo hi:Int):Bool:=decide (-9223372036854775808≤n)&&decide (n≤9223372036854775807)&&decide (-1099511627776≤lo)&&decide (lo≤hi)&&decide (hi≤1099511627776)
theorem inB_of{n lo hi:Int}(h0 : -9223372036854775808≤n∧n≤9223372036854775807)(h2 : -1099511627776≤lo)(h3:lo≤hi)(h4:hi≤1099511627776):inB n lo hi=true:=by simp[inB];omega
theorem quiet_eq{w w':World}{e:Ending}{v:Value}(h:e=.returned v∧w=w'):e=.returned v∧Quiet w w':=⟨h.1,by rw[←h.2];exact Quiet.refl _⟩
def sp21:List Value→Option Value
 | [.int .i64 n,.int .i64 lo,.int .i64 hi]=>bif inB n lo hi then some (.int .i64 (lo+n % (hi-lo+1)))else none
 |_=>none
noncomputable def T1:Tab:={ T0 with orc:=addOrc T0.orc 21 sp21 }
theorem ok_T1[Bs]:ProgOk Tryz.prog T1:=ok_T0.add 21 sp21 fun args v h=>by
 unfold sp21 at h;split at h
 ·rename_i n lo hi;cases hb:(inB n lo hi)
  ·rw[hb]at h;cases h
  ·rw[hb]at h;cases h;unfold inB at hb;simp only[ab,ap]at hb;obtain⟨⟨⟨⟨h1,h2⟩,h3⟩,h4⟩,h5⟩:=hb;exact⟨rfl,rfl,fun w _=>(within_any n lo hi w h1 h2 h3 h4 h5).mono fun _ _=>quiet_eq⟩
 ·cases h
instance:OrcDat T1:=orcDat_add inferInstance 21 sp21 fun l v h=>by
 unfold sp21 at h;split at h
 ·rename_i n lo hi;cases hb:(inB n lo hi)<;>rw[hb]at h<;>cases h
  exact⟨rfl,rfl⟩
 ·cases h
theorem orc21(n:Int)(lo:Int)(hi:Int)(h:inB n lo hi=true):sp21 [.int .i64 n,.int .i64 lo,.int .i64 hi]=some (.int .i64 (lo+n % (hi-lo+1))):=by
 simp only[sp21,h,af]

def pf(r:Int):Int:=(if r=0 then 1 else 0)+(if 2147483648≤r then 2 else 0)
theorem pf_rng(r:Int):0≤pf r∧pf r≤3:=by unfold pf;constructor<;>(split<;>split<;>omega)

theorem u32_and(a b:Nat)(ha:a<4294967296)(hb:b<4294967296):bits .and .u32 a b=((a &&& b:Nat):Int) :=
 (bits_nat .u32 32 (by decide) (fun n h0 h1=>by rw[IntKind.wrap_u32];omega) a b (by omega) (by omega)).1
theorem u32_or(a b:Nat)(ha:a<4294967296)(hb:b<4294967296):bits .or .u32 a b=((a ||| b:Nat):Int) :=
 (bits_nat .u32 32 (by decide) (fun n h0 h1=>by rw[IntKind.wrap_u32];omega) a b (by omega) (by omega)).2
theorem u32_xor(a b:Nat)(ha:a<4294967296)(hb:b<4294967296):bits .xor .u32 a b=((a ^^^ b:Nat):Int):=by
 have hx:a ^^^ b<2 ^ 32:=ii (by omega) (by omega)
 have h1:(BitVec.ofInt 32 (a:Int)).toNat=a:=by
  rw[io];omega
 have h2:(BitVec.ofInt 32 (b:Int)).toNat=b:=by
  rw[io];omega
 show IntKind.u32.wrap (((BitVec.ofInt 32 (a:Int)) ^^^ (BitVec.ofInt 32 (b:Int))).toNat:Int)=_;rw[BitVec.toNat_xor,h1,h2,IntKind.wrap_u32];omega

theorem top_nat(a:Nat)(ha:a<4294967296):a &&& 2147483648=if 2147483648≤a then 2147483648 else 0:=by
 have h2:a / 2 ^ 31=if 2147483648≤a then 1 else 0:=by split<;>omega
 have h3:∀i,Nat.testBit 2147483648 i=decide (31=i):=fun i=>Nat.testBit_two_pow (n:=31) (m:=i)
 apply Nat.eq_of_testBit_eq;intro i;rw[Nat.testBit_and,h3]
 by_cases hi:31=i
 ·subst hi;rw[Nat.testBit_eq_decide_div_mod_eq,h2];split<;>simp[h3]
 ·split<;>simp[hi,h3]
theorem top_and(r:Int)(h0:0≤r)(h1:r<4294967296):bits .and .u32 r 2147483648=if 2147483648≤r then 2147483648 else 0:=by
 obtain⟨n,rfl⟩:=aa h0;have h:=u32_and n 2147483648 (by omega) (by omega);rw[top_nat n (by omega)]at h;refine h.trans ?_;split<;>split<;>omega
theorem top_yes{r:Int}(h0:0≤r)(h1:r<4294967296)(h:2147483648≤r):(bits BinOp.and IntKind.u32 r 2147483648 != 0)=true:=by
 rw[top_and r h0 h1,if_pos h];rfl
theorem top_no{r:Int}(h0:0≤r)(h1:r<4294967296)(h:r<2147483648):(bits BinOp.and IntKind.u32 r 2147483648 != 0)=false:=by
 rw[top_and r h0 h1,if_neg (by omega)];rfl
set_option maxHeartbeats 400000 in
def ovs(a b:Int):Bool:=bits BinOp.and IntKind.u32 (bits BinOp.and IntKind.u32 (bits BinOp.xor IntKind.u32 a b) (bits BinOp.xor IntKind.u32 a ((a-b) % 4294967296))) 2147483648 != 0
def ova(a b:Int):Bool:=bits BinOp.and IntKind.u32 (bits BinOp.and IntKind.u32 (bits BinOp.xor IntKind.u32 a ((a+b) % 4294967296)) (bits BinOp.xor IntKind.u32 b ((a+b) % 4294967296))) 2147483648 != 0
def lessF(a b:Int):Int:=pf ((a-b) % 4294967296)+(if a<b then 4 else 0)+(if ovs a b=true then 8 else 0)
def moreF(a b:Int):Int:=pf ((a+b) % 4294967296)+(if(a+b) % 4294967296<a then 4 else 0)+(if ova a b=true then 8 else 0)

set_option maxHeartbeats 400000 in
set_option maxHeartbeats 400000 in
def mvF(a b:Int)(u:Bool):Int:=if 32≤b then 0 else if u=true then a*2 ^ b.toNat % 4294967296 else a / 2 ^ b.toNat
set_option maxHeartbeats 400000 in
def doR(op a b:Int):Int :=
 if op=16 then(a+b) % 4294967296 else if op=17 then(a-b) % 4294967296 else if op=18 then bits .and .u32 a b else if op=19 then bits .or .u32 a b
 else if op=20 then bits .xor .u32 a b else if op=21 then mvF a b true else if op=22 then mvF a b false else if op=23 then a*b % 4294967296
 else if op=24 then(if b=0 then 0 else a / b)else 0
def doF(op a b:Int):Int :=
 if op=16 then moreF a b else if op=17 then lessF a b else if op=25 then lessF a b
 else if 18≤op∧op≤23 then pf (doR op a b)else if op=24 then(if b=0 then 0 else pf (a / b))else 0
def doK(op b:Int):Bool:=decide (16≤op∧op≤25∧¬(op=24∧b=0))

theorem ret_three{a a' b b':Int}{u u':Bool}(h:a=a')(h':b=b')(h'':u=u'):
    Ending.returned (.tuple #[.int .u32 a,.int .u32 b,.bool u])=.returned (.tuple #[.int .u32 a',.int .u32 b',.bool u']):=by rw[h,h',h'']

set_option maxHeartbeats 400000 in
set_option maxHeartbeats 400000 in
set_option maxHeartbeats 400000 in
theorem and_rng(a b:Int)(h0:0≤a)(h1:a<4294967296)(h2:0≤b)(h3:b<4294967296):0≤bits .and .u32 a b∧bits .and .u32 a b<4294967296:=by
 obtain⟨n,rfl⟩:=aa h0;obtain⟨m,rfl⟩:=aa h2;rw[u32_and n m (by omega) (by omega)];have:=Nat.and_lt_two_pow n (y:=m) (n:=32) (by omega);omega
theorem or_rng(a b:Int)(h0:0≤a)(h1:a<4294967296)(h2:0≤b)(h3:b<4294967296):0≤bits .or .u32 a b∧bits .or .u32 a b<4294967296:=by
 obtain⟨n,rfl⟩:=aa h0;obtain⟨m,rfl⟩:=aa h2;rw[u32_or n m (by omega) (by omega)];have:=Nat.or_lt_two_pow (x:=n) (y:=m) (n:=32) (by omega) (by omega);omega
theorem xor_rng(a b:Int)(h0:0≤a)(h1:a<4294967296)(h2:0≤b)(h3:b<4294967296):0≤bits .xor .u32 a b∧bits .xor .u32 a b<4294967296:=by
 obtain⟨n,rfl⟩:=aa h0;obtain⟨m,rfl⟩:=aa h2;rw[u32_xor n m (by omega) (by omega)];have:=ii (x:=n) (y:=m) (n:=32) (by omega) (by omega);omega
theorem div_rng(a b:Int)(h0:0≤a)(h1:a<4294967296)(h2:0≤b):0≤a / b∧a / b<4294967296:=by
 refine⟨Int.ediv_nonneg h0 h2,?_⟩;have:=Int.ediv_le_self b h0;omega
theorem pow_pos'(n:Nat):(0:Int)<2 ^ n:=Int.pow_pos (by decide)
theorem mv_rng(a b:Int)(u:Bool)(h0:0≤a)(h1:a<4294967296):0≤mvF a b u∧mvF a b u<4294967296:=by
 unfold mvF;split
 ·omega
 ·split
  ·omega
  ·exact div_rng a _ h0 h1 (Int.le_of_lt (pow_pos' _))
set_option maxHeartbeats 400000 in
set_option maxHeartbeats 400000 in
set_option maxHeartbeats 400000 in
set_option maxHeartbeats 400000 in
set_option maxHeartbeats 400000 in
set_option maxHeartbeats 400000 in
set_option maxHeartbeats 400000 in
set_option maxHeartbeats 400000 in
def rawF(op a b:Int):Int :=
 if op=16 then(if 4294967296≤a+b then 4 else 0)+(if a / 2147483648=b / 2147483648∧¬((a+b) % 4294967296) / 2147483648=a / 2147483648 then 8 else 0)
 else if op=17∨op=25 then(if a<b then 4 else 0)+(if ¬a / 2147483648=b / 2147483648∧¬((a-b) % 4294967296) / 2147483648=a / 2147483648 then 8 else 0)
 else 0
def rawR(op a b:Int):Int:=if op=25 then(a-b) % 4294967296 else doR op a b

theorem or48:bits BinOp.or IntKind.u32 4 8=12:=by decide
theorem or08:bits BinOp.or IntKind.u32 0 8=8:=by decide

set_option maxHeartbeats 400000 in
theorem raw_16(a b:Int)(w:World)(h0:0≤a)(h1:a<4294967296)(h2:0≤b)(h3:b<4294967296):
    Calls Tryz.prog 104 #[.int .i64 16,.int .u32 a,.int .u32 b] w fun e w'=>e=.returned (.tuple #[.int .u32 (rawR 16 a b),.int .u32 (rawF 16 a b),.bool (doK 16 b)])∧w=w':=by
 generalize hF:rawF 16 a b=F;have HF:=Lib.hid hF;clear hF
 go_enter Tryz.func104,Tryz.ntmps104
 go_wp2
 all_goals
  go_ret3
  refine⟨ret_three rfl ?_ rfl,rfl⟩;rw[←HF.out];unfold rawF;rw[if_pos rfl]
  (try simp only[eW,ne_eq,eb]at *)
  (try rw[or48])
  (try rw[or08])
  (repeat' split)<;>omega
set_option maxHeartbeats 400000 in
theorem raw_17(op a b:Int)(w:World)(ho:op=17∨op=25)(h0:0≤a)(h1:a<4294967296)(h2:0≤b)(h3:b<4294967296):
    Calls Tryz.prog 104 #[.int .i64 op,.int .u32 a,.int .u32 b] w fun e w'=>e=.returned (.tuple #[.int .u32 (rawR op a b),.int .u32 (rawF op a b),.bool (doK op b)])∧w=w':=by
 rcases ho with rfl|rfl
 all_goals
  generalize hF:rawF _ a b=F;have HF:=Lib.hid hF;clear hF
  go_enter Tryz.func104,Tryz.ntmps104
  go_wp2
  all_goals
   go_ret3
   refine⟨ret_three rfl ?_ rfl,rfl⟩;rw[←HF.out];unfold rawF;rw[if_neg (by omega),if_pos (by omega)]
   (try simp only[eW,ne_eq,eb]at *)
   (try rw[or48])
   (try rw[or08])
   (repeat' split)<;>omega
set_option maxHeartbeats 400000 in
theorem raw_mid(op a b:Int)(w:World)(ho:op=18∨op=19∨op=20∨op=23)(h0:0≤a)(h1:a<4294967296)(h2:0≤b)(h3:b<4294967296):
    Calls Tryz.prog 104 #[.int .i64 op,.int .u32 a,.int .u32 b] w fun e w'=>e=.returned (.tuple #[.int .u32 (rawR op a b),.int .u32 (rawF op a b),.bool (doK op b)])∧w=w':=by
 rcases ho with rfl|rfl|rfl|rfl
 all_goals
  go_enter Tryz.func104,Tryz.ntmps104
  go_wp2
  go_ret3
  exact⟨ret_three rfl rfl rfl,rfl⟩
set_option maxHeartbeats 400000 in
theorem raw_sh(op a b:Int)(w:World)(ho:op=21∨op=22)(h0:0≤a)(h1:a<4294967296)(h2:0≤b)(h3:b<4294967296):
    Calls Tryz.prog 104 #[.int .i64 op,.int .u32 a,.int .u32 b] w fun e w'=>e=.returned (.tuple #[.int .u32 (rawR op a b),.int .u32 (rawF op a b),.bool (doK op b)])∧w=w':=by
 by_cases hb:32≤b
 all_goals
  rcases ho with rfl|rfl
  all_goals
   generalize hR:rawR _ a b=R;have HR:=Lib.hid hR;clear hR
   go_enter Tryz.func104,Tryz.ntmps104
   go_wp2
   go_ret3
   refine⟨ret_three ?_ rfl rfl,rfl⟩;rw[←HR.out];unfold rawR doR mvF;simp;omega
set_option maxHeartbeats 400000 in
theorem raw_24(a b:Int)(w:World)(h0:0≤a)(h1:a<4294967296)(h2:0≤b)(h3:b<4294967296):
    Calls Tryz.prog 104 #[.int .i64 24,.int .u32 a,.int .u32 b] w fun e w'=>e=.returned (.tuple #[.int .u32 (rawR 24 a b),.int .u32 (rawF 24 a b),.bool (doK 24 b)])∧w=w':=by
 by_cases hz:b=0
 ·subst hz
  go_enter Tryz.func104,Tryz.ntmps104
  go_wp2
  go_ret3
  exact⟨ret_three rfl rfl rfl,rfl⟩
 ·have hz':(b != 0)=true:=by simpa using hz
  have hR:rawR 24 a b=a / b:=by unfold rawR doR;simp[hz]
  have hK:doK 24 b=true:=by unfold doK;simp[hz]
  have HR:=Lib.hid hR;have HK:=Lib.hid hK;clear hR hK
  go_enter Tryz.func104,Tryz.ntmps104
  go_wp2
  go_ret3
  exact⟨ret_three HR.out.symm rfl HK.out.symm,rfl⟩
set_option maxHeartbeats 400000 in
theorem raw_no(op a b:Int)(w:World)(h:op<16∨25<op):
    Calls Tryz.prog 104 #[.int .i64 op,.int .u32 a,.int .u32 b] w fun e w'=>e=.returned (.tuple #[.int .u32 (rawR op a b),.int .u32 (rawF op a b),.bool (doK op b)])∧w=w':=by
 have hR:rawR op a b=0:=by unfold rawR doR;repeat (first|rw[if_neg (by omega)])
 have hF:rawF op a b=0:=by unfold rawF;repeat (first|rw[if_neg (by omega)])
 have hK:doK op b=false:=by unfold doK;simp;omega
 have HR:=Lib.hid hR;have HF:=Lib.hid hF;have HK:=Lib.hid hK;clear hR hF hK;rcases h with h|h
 all_goals
  go_enter Tryz.func104,Tryz.ntmps104
  go_wp2
  go_ret3
  exact⟨ret_three HR.out.symm HF.out.symm HK.out.symm,rfl⟩
theorem raw_any(op a b:Int)(w:World)(h0:0≤a)(h1:a<4294967296)(h2:0≤b)(h3:b<4294967296):
    Calls Tryz.prog 104 #[.int .i64 op,.int .u32 a,.int .u32 b] w fun e w'=>e=.returned (.tuple #[.int .u32 (rawR op a b),.int .u32 (rawF op a b),.bool (doK op b)])∧w=w':=by
 by_cases h:op<16∨25<op
 ·exact raw_no op a b w h
 ·rcases(by omega:op=16∨(op=17∨op=25)∨(op=18∨op=19∨op=20∨op=23)∨(op=21∨op=22)∨op=24)with rfl|ho|ho|ho|rfl
  ·exact raw_16 a b w h0 h1 h2 h3
  ·exact raw_17 op a b w ho h0 h1 h2 h3
  ·exact raw_mid op a b w ho h0 h1 h2 h3
  ·exact raw_sh op a b w ho h0 h1 h2 h3
  ·exact raw_24 a b w h0 h1 h2 h3

theorem tb31(n:Nat)(h:n<4294967296):n.testBit 31=decide (2147483648≤n):=by
 rw[Nat.testBit_eq_decide_div_mod_eq,decide_eq_decide];omega
theorem ov_bits(x y z:Nat)(hx:x<4294967296)(hy:y<4294967296)(hz:z<4294967296)(u:Nat)(hu:u<4294967296):
    (bits BinOp.and IntKind.u32 (bits BinOp.and IntKind.u32 (bits BinOp.xor IntKind.u32 x y) (bits BinOp.xor IntKind.u32 z u)) 2147483648 != 0) =
     decide (¬(x:Int) / 2147483648=(y:Int) / 2147483648∧¬(z:Int) / 2147483648=(u:Int) / 2147483648):=by
 have h1:x ^^^ y<4294967296:=ii (n:=32) (by omega) (by omega);have h2:z ^^^ u<4294967296:=ii (n:=32) (by omega) (by omega);have h3:(x ^^^ y) &&& (z ^^^ u)<4294967296:=Nat.and_lt_two_pow (n:=32) _ (by omega);rw[u32_xor x y hx hy,u32_xor z u hz hu,u32_and _ _ h1 h2];have ht:=tb31 ((x ^^^ y) &&& (z ^^^ u)) h3;rw[Nat.testBit_and,Nat.testBit_xor,Nat.testBit_xor,tb31 x hx,tb31 y hy,tb31 z hz,tb31 u hu]at ht
 by_cases hc:2147483648≤(x ^^^ y) &&& (z ^^^ u)
 ·rw[top_yes (by omega) (by omega) (by omega)];simp only[hc,decide_true]at ht;symm;rw[ap]
  by_cases a1:2147483648≤x<;>by_cases a2:2147483648≤y<;>by_cases a3:2147483648≤z<;>by_cases a4:2147483648≤u<;>simp[a1,a2,a3,a4]at ht<;>omega
 ·rw[top_no (by omega) (by omega) (by omega)];simp only[hc,decide_false]at ht;symm;rw[eh]
  by_cases a1:2147483648≤x<;>by_cases a2:2147483648≤y<;>by_cases a3:2147483648≤z<;>by_cases a4:2147483648≤u<;>simp[a1,a2,a3,a4]at ht<;>omega
theorem ovs_eq(a b:Int)(h0:0≤a)(h1:a<4294967296)(h2:0≤b)(h3:b<4294967296):
    ovs a b=decide (¬a / 2147483648=b / 2147483648∧¬((a-b) % 4294967296) / 2147483648=a / 2147483648):=by
 obtain⟨n,rfl⟩:=aa h0;obtain⟨m,rfl⟩:=aa h2;have hr:0≤((n:Int)-m) % 4294967296:=by omega
 unfold ovs;generalize hq:((n:Int)-m) % 4294967296=q at *;obtain⟨r,rfl⟩:=aa hr;rw[ov_bits n m n (by omega) (by omega) (by omega) r (by omega),decide_eq_decide];omega
theorem ova_eq(a b:Int)(h0:0≤a)(h1:a<4294967296)(h2:0≤b)(h3:b<4294967296):
    ova a b=decide (a / 2147483648=b / 2147483648∧¬((a+b) % 4294967296) / 2147483648=a / 2147483648):=by
 obtain⟨n,rfl⟩:=aa h0;obtain⟨m,rfl⟩:=aa h2;have hr:0≤((n:Int)+m) % 4294967296:=by omega
 unfold ova;generalize hq:((n:Int)+m) % 4294967296=q at *;obtain⟨r,rfl⟩:=aa hr;rw[ov_bits n r m (by omega) (by omega) (by omega) r (by omega),decide_eq_decide];omega
theorem more_eq(a b:Int)(h0:0≤a)(h1:a<4294967296)(h2:0≤b)(h3:b<4294967296):moreF a b=rawF 16 a b+pf ((a+b) % 4294967296):=by
 unfold moreF rawF;rw[ova_eq a b h0 h1 h2 h3,if_pos rfl];simp only[ap]
 by_cases h:(a+b) % 4294967296<a
 ·rw[if_pos h,if_pos (by omega:4294967296≤a+b)];omega
 ·rw[if_neg h,if_neg (by omega:¬4294967296≤a+b)];omega
theorem less_eq(a b:Int)(h0:0≤a)(h1:a<4294967296)(h2:0≤b)(h3:b<4294967296)(op:Int)(ho:op=17∨op=25):lessF a b=rawF op a b+pf ((a-b) % 4294967296):=by
 unfold lessF rawF;rw[ovs_eq a b h0 h1 h2 h3,if_neg (by omega:¬op=16),if_pos ho];simp only[ap];omega
theorem raw_rng(op a b:Int):rawF op a b=0∨rawF op a b=4∨rawF op a b=8∨rawF op a b=12:=by
 unfold rawF;split
 ·split<;>split<;>omega
 ·split
  ·split<;>split<;>omega
  ·omega
theorem doR_rng(op a b:Int)(h0:0≤a)(h1:a<4294967296)(h2:0≤b)(h3:b<4294967296):0≤doR op a b∧doR op a b<4294967296:=by
 unfold doR
 repeat' split
 all_goals first
  |exact and_rng a b h0 h1 h2 h3
  |exact or_rng a b h0 h1 h2 h3
  |exact xor_rng a b h0 h1 h2 h3
  |exact mv_rng a b _ h0 h1
  |exact div_rng a b h0 h1 h2
  |omega
theorem rawR_rng(op a b:Int)(h0:0≤a)(h1:a<4294967296)(h2:0≤b)(h3:b<4294967296):0≤rawR op a b∧rawR op a b<4294967296:=by
 unfold rawR;split
 ·omega
 ·exact doR_rng op a b h0 h1 h2 h3
theorem flags_eq(op a b:Int)(h0:0≤a)(h1:a<4294967296)(h2:0≤b)(h3:b<4294967296)(hk:doK op b=true):rawF op a b+pf (rawR op a b)=doF op a b:=by
 have hk':16≤op∧op≤25∧¬(op=24∧b=0):=by unfold doK at hk;exact eJ hk
 by_cases e16:op=16
 ·subst e16;have:=more_eq a b h0 h1 h2 h3;have e1:rawR 16 a b=(a+b) % 4294967296:=rfl;have e2:doF 16 a b=moreF a b:=rfl;rw[e1,e2,this]
 ·by_cases e17:op=17
  ·subst e17;have:=less_eq a b h0 h1 h2 h3 17 (by omega);have e1:rawR 17 a b=(a-b) % 4294967296:=rfl;have e2:doF 17 a b=lessF a b:=rfl;rw[e1,e2,this]
  ·by_cases e25:op=25
   ·subst e25;have:=less_eq a b h0 h1 h2 h3 25 (by omega);have e1:rawR 25 a b=(a-b) % 4294967296:=rfl;have e2:doF 25 a b=lessF a b:=rfl;rw[e1,e2,this]
   ·have e0:rawF op a b=0:=by unfold rawF;rw[if_neg e16,if_neg (by omega)]
    have eR:rawR op a b=doR op a b:=by unfold rawR;rw[if_neg e25]
    rw[e0,eR];unfold doF;rw[if_neg e16,if_neg e17,if_neg e25]
    by_cases e24:op=24
    ·subst e24;have hb:b≠0:=fun h=>hk'.2.2 ⟨rfl,h⟩
     rw[if_neg (by omega),if_pos rfl,if_neg hb];have:doR 24 a b=a / b:=by unfold doR;simp[hb]
     rw[this];omega
    ·rw[if_pos (by omega)];omega

set_option maxHeartbeats 400000 in
theorem ref_any(op a b:Int)(w:World)(h0:0≤a)(h1:a<4294967296)(h2:0≤b)(h3:b<4294967296):
    Calls Tryz.prog 77 #[.int .i64 op,.int .u32 a,.int .u32 b] w fun e w'=>e=.returned (.tuple #[.int .u32 (doR op a b),.int .u32 (doF op a b),.bool (doK op b)])∧w=w':=by
 have hk':=@flags_eq op a b h0 h1 h2 h3;have hr:=raw_rng op a b;have hq:=rawR_rng op a b h0 h1 h2 h3;cases hk:doK op b
 ·have hR:doR op a b=0:=by
    unfold doK at hk;have:=of_decide_eq_false hk;unfold doR
    by_cases e:op=24
    ·subst e;have:b=0:=by omega
     subst this;rfl
    ·repeat (first|rw[if_neg (by omega)])
  have hF:doF op a b=0:=by
   unfold doK at hk;have:=of_decide_eq_false hk;unfold doF
   by_cases e:op=24
   ·subst e;have:b=0:=by omega
    subst this;rfl
   ·repeat (first|rw[if_neg (by omega)])
  have hc:=raw_any op a b w h0 h1 h2 h3;rw[hk]at hc;have HC:=Lib.hid hc;have HR:=Lib.hid hR;have HF:=Lib.hid hF;clear hR hF hc hk hk' hr
  go_enter Tryz.func77,Tryz.ntmps77
  go_wp2_with (go_at_call 104;refine HC.out.mono ?_;rintro e w' ⟨rfl,rfl⟩)
  go_ret3
  exact⟨ret_three HR.out.symm HF.out.symm rfl,rfl⟩
 ·have hf:=hk' hk;have hc:=raw_any op a b w h0 h1 h2 h3
  have hR:doR op a b=if op=25 then 0 else rawR op a b:=by
   unfold rawR;split
   ·rename_i h;subst h;rfl
   ·rfl
  rw[hk]at hc;have hp:pf (rawR op a b)=(if rawR op a b=0 then 1 else 0)+(if 2147483648≤rawR op a b then 2 else 0):=rfl;generalize rawR op a b=R at *;generalize rawF op a b=F at *;have HC:=Lib.hid hc;have HR:=Lib.hid hR;have HF:=Lib.hid hf;have HP:=Lib.hid hp;have Hr:=Lib.hid hr;clear hR hf hc hk hk' hr hp
  go_enter Tryz.func77,Tryz.ntmps77
  go_wp2_with (go_at_call 104;refine HC.out.mono ?_;rintro e w' ⟨rfl,rfl⟩)
  all_goals
   go_ret3
   refine⟨ret_three ?_ ?_ rfl,rfl⟩
   ·rw[HR.out];simp only[ir,aB,ne_eq]at *
    first
    |rw[if_pos (by assumption)]
    |rw[if_neg (by assumption)]
   ·rw[←HF.out,HP.out];simp only[ir,aB,ne_eq]at *
    first
    |rw[if_pos (by assumption:R=0),if_pos (by omega)]
    |rw[if_neg (by assumption:¬R=0),if_pos (by omega)]
    |rw[if_pos (by assumption:R=0),if_neg (by omega)]
    |rw[if_neg (by assumption:¬R=0),if_neg (by omega)]
    rcases Hr.out with h|h|h|h<;>rw[h]<;>first|omega|decide
def hB(op f:Int):Bool :=
 if op=33 then bits BinOp.and IntKind.u32 f 1 != 0 else if op=34 then bits BinOp.and IntKind.u32 f 1 == 0 else if op=35 then bits BinOp.and IntKind.u32 f 4 != 0
 else if op=36 then bits BinOp.and IntKind.u32 f 2 != 0 else if op=37 then bits BinOp.and IntKind.u32 f 8 != 0 else false
def hK(op:Int):Bool:=decide (33≤op∧op≤37)
theorem ret_bb{u u' v v':Bool}(h:u=u')(h':v=v'):Ending.returned (.tuple #[.bool u,.bool v])=.returned (.tuple #[.bool u',.bool v']):=by rw[h,h']
set_option maxHeartbeats 400000 in
set_option maxHeartbeats 400000 in
theorem refholds_any(op f:Int)(w:World):
    Calls Tryz.prog 78 #[.int .i64 op,.int .u32 f] w fun e w'=>e=.returned (.tuple #[.bool (hB op f),.bool (hK op)])∧w=w':=by
 by_cases h:op<33∨37<op
 ·have h1:hB op f=false:=by unfold hB;repeat (first|rw[if_neg (by omega)])
  have h2:hK op=false:=by unfold hK;simp;omega
  have H1:=Lib.hid h1;have H2:=Lib.hid h2;clear h1 h2;rcases h with h|h
  all_goals
   go_enter Tryz.func78,Tryz.ntmps78
   go_wp2
   go_ret2
   exact⟨ret_bb H1.out.symm H2.out.symm,rfl⟩
 ·rcases(by omega:op=33∨op=34∨op=35∨op=36∨op=37)with rfl|rfl|rfl|rfl|rfl
  all_goals
   go_enter Tryz.func78,Tryz.ntmps78
   go_wp2
   go_ret2
   exact⟨ret_bb rfl rfl,rfl⟩
set_option maxHeartbeats 400000 in
def sp77:List Value→Option Value
 | [.int .i64 op,.int .u32 a,.int .u32 b]=>bif (u32B a&&u32B b)then some (.tuple #[.int .u32 (doR op a b),.int .u32 (doF op a b),.bool (doK op b)])else none
 |_=>none
noncomputable def T2:Tab:={ T1 with orc:=addOrc T1.orc 77 sp77 }
theorem ok_T2[Bs]:ProgOk Tryz.prog T2:=ok_T1.add 77 sp77 fun args v h=>by
 unfold sp77 at h;split at h
 ·rename_i op a b;cases hb:(u32B a&&u32B b)
  ·rw[hb]at h;cases h
  ·rw[hb]at h;cases h;have hb:=hb;simp only[u32B,ab,ap]at hb;obtain⟨⟨h1,h2⟩,h3,h4⟩:=hb;exact⟨rfl,rfl,fun w _=>(ref_any op a b w h1 h2 h3 h4).mono fun _ _=>quiet_eq⟩
 ·cases h
instance:OrcDat T2:=orcDat_add inferInstance 77 sp77 fun l v h=>by
 unfold sp77 at h;split at h
 ·rename_i op a b;cases hb:(u32B a&&u32B b)<;>rw[hb]at h<;>cases h
  exact⟨rfl,rfl⟩
 ·cases h
theorem orc77(op:Int)(a:Int)(b:Int)(h:(u32B a&&u32B b)=true):sp77 [.int .i64 op,.int .u32 a,.int .u32 b]=some (.tuple #[.int .u32 (doR op a b),.int .u32 (doF op a b),.bool (doK op b)]):=by
 simp only[sp77,h,af]
def sp78:List Value→Option Value
 | [.int .i64 op,.int .u32 f]=>bif u32B f then some (.tuple #[.bool (hB op f),.bool (hK op)])else none
 |_=>none
noncomputable def T3:Tab:={ T2 with orc:=addOrc T2.orc 78 sp78 }
theorem ok_T3[Bs]:ProgOk Tryz.prog T3:=ok_T2.add 78 sp78 fun args v h=>by
 unfold sp78 at h;split at h
 ·rename_i op f;cases hb:(u32B f)
  ·rw[hb]at h;cases h
  ·rw[hb]at h;cases h;have hb:=hb;simp only[u32B,ab,ap]at hb;obtain⟨h1,h2⟩:=hb;exact⟨rfl,rfl,fun w _=>(refholds_any op f w).mono fun _ _=>quiet_eq⟩
 ·cases h
instance:OrcDat T3:=orcDat_add inferInstance 78 sp78 fun l v h=>by
 unfold sp78 at h;split at h
 ·rename_i op f;cases hb:(u32B f)<;>rw[hb]at h<;>cases h
  exact⟨rfl,rfl⟩
 ·cases h
theorem orc78(op:Int)(f:Int)(h:u32B f=true):sp78 [.int .i64 op,.int .u32 f]=some (.tuple #[.bool (hB op f),.bool (hK op)]):=by
 simp only[sp78,h,af]
end Ls
end Go.Proofs.YtihacfclecanjaaGreat
