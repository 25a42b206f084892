/- Chapter 22: values; what gcode tells of a number. -/
import Derived.Test.YtihacfclecanjaaGreatGa
set_option linter.unusedVariables false
set_option linter.unusedSimpArgs false
namespace Go.Proofs.YtihacfclecanjaaGreat
open Go Go.Ev Go.RowKit
set_option maxRecDepth 100000
namespace Ls
def iiC(x:Int × Int × Int × Int × Int):List Value:=[.int .i64 x.1,.int .i64 x.2.1,.int .i64 x.2.2.1,.int .i64 x.2.2.2.1,.int .u32 x.2.2.2.2]
theorem iiC_len:∀x,(iiC x).length=5:=fun _=>rfl
theorem iiC_pl:∀x,(iiC x).all plain=true:=fun _=>rfl
def inC(x:Int):List Value:=[.int .i64 x]
theorem inC_len:∀x,(inC x).length=1:=fun _=>rfl
theorem inC_pl:∀x,(inC x).all plain=true:=fun _=>rfl
def boC(x:Bool):List Value:=[.bool x]
theorem boC_len:∀x,(boC x).length=1:=fun _=>rfl
theorem boC_pl:∀x,(boC x).all plain=true:=fun _=>rfl
def uC(x:Int):List Value:=[.int .u32 x]
theorem uC_len:∀x,(uC x).length=1:=fun _=>rfl
theorem uC_pl:∀x,(uC x).all plain=true:=fun _=>rfl
def ivC(x:Int × Int × Int):List Value:=[.int .i64 x.1,.int .i64 x.2.1,.int .i64 x.2.2]
theorem ivC_len:∀x,(ivC x).length=3:=fun _=>rfl
theorem ivC_pl:∀x,(ivC x).all plain=true:=fun _=>rfl
def hhC(x:Int × Int × Int × Int × Int):List Value:=[.int .i64 x.1,.int .i64 x.2.1,.int .i64 x.2.2.1,.int .i64 x.2.2.2.1,.int .u32 x.2.2.2.2]
theorem hhC_len:∀x,(hhC x).length=5:=fun _=>rfl
theorem hhC_pl:∀x,(hhC x).all plain=true:=fun _=>rfl
structure Sx where
 pc:Int
 fl:Int
 root:Int
 vec:Int
 epc:Int
 cause:Int
 addr:Int
 cnt:Int
 su:Bool
 pg:Bool
 ie:Bool
 es:Bool
 ei:Bool
 ha:Bool
abbrev s1(b n:Nat):Value:=.slice (some ⟨b,0,none⟩) n (unk+1)
abbrev s2(b n:Nat):Value:=.slice (some ⟨b,0,none⟩) n (unk+2)
abbrev s5(b n:Nat):Value:=.slice (some ⟨b,0,none⟩) n (unk+5)
abbrev slw(pc:Int)(d r:Value)(fl:Int)(su pg ie:Bool)(root vec epc cause addr:Int)(es ei:Bool)(cnt:Int)(ha:Bool):List Value:=[.int .u32 pc,d,r,.int .u32 fl,.bool su,.bool pg,.bool ie,.int .u32 root,.int .u32 vec,.int .u32 epc,.int .u32 cause,.int .u32 addr,.bool es,.bool ei,.int .u64 cnt,.bool ha]
abbrev stq(q:Sx)(pc:Int)(d r:Value)(fl cnt:Int):Value:=.agg #[.int .u32 pc,d,r,.int .u32 fl,.bool q.su,.bool q.pg,.bool q.ie,.int .u32 q.root,.int .u32 q.vec,.int .u32 q.epc,.int .u32 q.cause,.int .u32 q.addr,.bool q.es,.bool q.ei,.int .u64 cnt,.bool q.ha]
abbrev slq(q:Sx)(pc:Int)(d r:Value)(fl cnt:Int):List Value:=[.int .u32 pc,d,r,.int .u32 fl,.bool q.su,.bool q.pg,.bool q.ie,.int .u32 q.root,.int .u32 q.vec,.int .u32 q.epc,.int .u32 q.cause,.int .u32 q.addr,.bool q.es,.bool q.ei,.int .u64 cnt,.bool q.ha]
abbrev pgV(c:Value)(nd nr hd hr:Int)(od rd:Value)(fl nx tg br tk ct vs:Int):Value:=.agg #[c,.int .i64 nd,.int .i64 nr,.int .i64 hd,.int .i64 hr,od,rd,.int .i64 fl,.int .u32 nx,.int .i64 tg,.int .i64 br,.int .u32 tk,.int .i64 ct,.int .i64 vs]
abbrev c5A(a b c d e:Int):Value:=.agg #[.int .i64 a,.int .i64 b,.int .i64 c,.int .i64 d,.int .u32 e]
abbrev c5L(a b c d e:Int):List Value:=[.int .i64 a,.int .i64 b,.int .i64 c,.int .i64 d,.int .u32 e]
abbrev pgL(c:Value)(nd nr hd hr:Int)(od rd:Value)(fl nx tg br tk ct vs:Int):List Value:=[c,.int .i64 nd,.int .i64 nr,.int .i64 hd,.int .i64 hr,od,rd,.int .i64 fl,.int .u32 nx,.int .i64 tg,.int .i64 br,.int .u32 tk,.int .i64 ct,.int .i64 vs]
abbrev pg0:List Value:=[.slice none 0 0,.int .i64 0,.int .i64 0,.int .i64 0,.int .i64 0,.slice none 0 0,.slice none 0 0,.int .i64 0,.int .u32 0,.int .i64 0,.int .i64 0,.int .u32 0,.int .i64 0,.int .i64 0]
abbrev lwL(c d r:Value)(fl tg br ct nd hd nr hr:Int):List Value:=[c,.int .i64 0,.int .i64 0,.int .i64 0,.int .i64 0,.slice none 0 0,.slice none 0 0,.int .i64 fl,.int .u32 0,.int .i64 tg,.int .i64 br,.int .u32 0,.int .i64 ct,.int .i64 0,d,.int .i64 nd,.int .i64 hd,.int .i64 1,r,.int .i64 nr,.int .i64 hr,.int .i64 2]
theorem brn{f:Em}{h:Heap}{c:Nat}{o:Ob}(h1:h.get c=obRn f o:=by kernel_rfl)(h2:(obRn f o).isSome=true:=by kernel_rfl):Bk f h c o:=bk_ren h1 h2
theorem cvo{l:List (Option Nat)}{k k1 h:Heap}{c:Nat}{o:Ob}(h1:(c.blt h.n&&l.all (fun x=>match x with|some d => !d.beq c|none=>true))=true:=by kernel_rfl)(h2:h.get c=some o:=by kernel_rfl):CovAt (emOf l) k k1 h c o:=cov_old h1 h2
theorem cvr{f:Em}{k k1 h:Heap}{c:Nat}{o:Ob}(b:Nat)(h0:(b.blt k1.n&&isNm (f.ext k.n h.n) b c)=true:=by kernel_rfl)(h1:(match k1.get b with|some o1=>obRn (f.ext k.n h.n) o1|none=>none)=some o:=by kernel_rfl):CovAt f k k1 h c o:=cov_ren b h0 h1
theorem bd:(∀(p:Prop) [Decidable p],(decide p=true)=p)∧(∀(p:Prop) [Decidable p],(decide p=false)=¬p)∧(∀a b:Int,((a == b)=true)=(a=b))∧(∀a b:Int,((a == b)=false)=¬a=b)∧(∀a b:Int,((a != b)=true)=¬a=b)∧(∀a b:Int,((a != b)=false)=(a=b))∧(∀a b:Int,(a>b)=(b<a))∧(∀a b:Int,(a≥b)=(b≤a))∧(∀a b:Int,(¬a≤b)=(b<a))∧(∀a b:Int,(¬a<b)=(b≤a))∧(∀b:Bool,(¬b=true)=(b=false))∧(∀b:Bool,(¬b=false)=(b=true))∧(∀b:Bool,((!b)=true)=(b=false))∧(∀b:Bool,((!b)=false)=(b=true)):=by
 refine⟨fun p _=>by simp,fun p _=>by simp,fun a b=>by simp,fun a b=>by simp,fun a b=>by simp,fun a b=>by simp,fun a b=>rfl,fun a b=>rfl,fun a b=>by simp,fun a b=>by simp,fun b=>by simp,fun b=>by simp,fun b=>by simp,fun b=>by simp⟩
section
variable {P:Program}{T:Tab}{X:Cx}{Q:Xt→St→Prop}{c:Cf}
theorem sdT(t:Nat)(p:Prop)[Decidable p](h:p)(hr:c.s.tm.get t=some (.bool (decide p)))(hk:SD P T X Q (c.see t (.bool true))):SD P T X Q c:=sd_see t _ (see_bool hr (aQ h)) hk
theorem sdF(t:Nat)(p:Prop)[Decidable p](h:¬p)(hr:c.s.tm.get t=some (.bool (decide p)))(hk:SD P T X Q (c.see t (.bool false))):SD P T X Q c:=sd_see t _ (see_bool hr (aD h)) hk
theorem sdE(t:Nat)(x y:Int)(h:x=y)(hr:c.s.tm.get t=some (.bool (x == y)))(hk:SD P T X Q (c.see t (.bool true))):SD P T X Q c:=sd_see t _ (see_bool hr (ir.2 h)) hk
theorem sdN(t:Nat)(x y:Int)(h:x≠y)(hr:c.s.tm.get t=some (.bool (x == y)))(hk:SD P T X Q (c.see t (.bool false))):SD P T X Q c:=sd_see t _ (see_bool hr (aB.2 h)) hk
theorem sdP(t:Nat)(x y:Int)(h:x≠y)(hr:c.s.tm.get t=some (.bool (x != y)))(hk:SD P T X Q (c.see t (.bool true))):SD P T X Q c:=sd_see t _ (see_bool hr (eW.2 h)) hk
theorem sdZ{rs:Array ResultVar}{R:Value→Heap→Prop}(v:Value){n0:Nat}(h0:X.h0.n=n0)(w:Value)(obs:List (Option Ob))(l:List (Option Nat))(hb:Blks (emOf l) c.s.H obs l)(hr:R w (hq obs))(he:atEnd c=true:=by kernel_rfl)(hp:rs.toList.all (presR c.s.tm)=true:=by kernel_rfl)(hv:aresults T c.s.tm c.s.H rs=some v:=by kernel_rfl)(hl:subG n0 c.s.H obs 0 obs l []=true:=by kernel_rfl)(hle:n0.ble l.length=true:=by kernel_rfl)(hw:rn2 (emOf l) w=some v:=by kernel_rfl):SD P T X (QF T X rs R) c:=sd_end v h0 he hp hv w (hq obs) (emOf l) (sub_of hl hle hb) (rn2_sound _ _ hw) hr
theorem sdY{rs:Array ResultVar}{R:Value→Heap→Prop}(v:Value){n0:Nat}(h0:X.h0.n=n0)(obs:List (Option Ob))(l:List (Option Nat))(hb:Blks (emOf l) c.s.H obs l)(hr:R v (hq obs))(he:atEnd c=true:=by kernel_rfl)(hp:rs.toList.all (presR c.s.tm)=true:=by kernel_rfl)(hv:aresults T c.s.tm c.s.H rs=some v:=by kernel_rfl)(hl:subG n0 c.s.H obs 0 obs l []=true:=by kernel_rfl)(hle:n0.ble l.length=true:=by kernel_rfl)(hw:rn2 (emOf l) v=some v:=by kernel_rfl):SD P T X (QF T X rs R) c:=sdZ v h0 v obs l hb hr he hp hv hl hle hw
theorem sdC(t:Nat)(f:FuncId)(args:Array Value){R:Value→Heap→Prop}{args0:Array Value}{obs:List (Option Ob)}(hc:SCall P T f args0 (hq obs) R)(l:List (Option Nat))(hb:Blks (emOf l) c.s.H obs l)(hk:HN (emOf l) (hq obs) c.s.H→∀v k1,R v k1→∃w h1,Glue (emOf l) (hq obs) k1 c.s.H h1∧RN ((emOf l).ext (hq obs).n c.s.H.n) v w∧SD P T X Q (c.put t w h1))(ho:okOp c t=true:=by kernel_rfl)(hs:strictC c=true:=by kernel_rfl)(ha:aop P T c.s.tm (opC c) c.s.H=some (.enter f args,c.s.H):=by kernel_rfl)(hl:subGo 0 c.s.H.n 0 l []=true:=by kernel_rfl)(hr:rnG (rn2 (emOf l)) args0.toList=some args.toList:=by kernel_rfl):SD P T X Q c:=sd_call t f args hc (emOf l) ho hs ha (hn_of 0 hl hb) (rnG_sound rn2_sound _ _ hr) (hk (hn_of 0 hl hb))
theorem sdD(t:Nat)(f:FuncId)(args:Array Value){R:Value→Heap→Prop}{args0:Array Value}{obs:List (Option Ob)}(hc:SCall P T f args0 (hq obs) R)(l:List (Option Nat))(hb:Blks (emOf l) c.s.H obs l)(hk:∀v k1,R v k1→∃w h1,Glue (emOf l) (hq obs) k1 c.s.H h1∧RN ((emOf l).ext (hq obs).n c.s.H.n) v w∧SD P T X Q (c.put t w h1))(ho:okOp c t=true:=by kernel_rfl)(hs:strictC c=true:=by kernel_rfl)(ha:aop P T c.s.tm (opC c) c.s.H=some (.enter f args,c.s.H):=by kernel_rfl)(hl:subGo 0 c.s.H.n 0 l []=true:=by kernel_rfl)(hr:rnG (rn2 (emOf l)) args0.toList=some args.toList:=by kernel_rfl):SD P T X Q c:=sdC t f args hc l hb (fun _=>hk) ho hs ha hl hr
theorem mkG{g:Em}{k k1:Heap}{t:Nat}{v:Value}(w:Value)(l:List (Option Ob))(hc:Covs g k k1 c.s.H 0 l)(hs:SD P T X Q (c.put t w (hq l)))(hn:l.length.beq (c.s.H.n+(k1.n-k.n))=true:=by kernel_rfl)(hl:k.n.ble k1.n=true:=by kernel_rfl)(hr:rn2 (g.ext k.n c.s.H.n) v=some w:=by kernel_rfl):∃w h1,Glue g k k1 c.s.H h1∧RN (g.ext k.n c.s.H.n) v w∧SD P T X Q (c.put t w h1):=⟨w,hq l,glue_of hn hl hc,rn2_sound _ _ hr,hs⟩
theorem sdCp(t:Nat)(f:FuncId)(args:Array Value){R:Value→Heap→Prop}{args0:Array Value}{obs:List (Option Ob)}(hc:SCall P T f args0 (hq obs) R)(l:List (Option Nat))(hb:Blks (emOf l) c.s.H obs l)(hk:∀v k1,R v k1→k1=hq obs∧∃w,rn2 ((emOf l).ext obs.length c.s.H.n) v=some w∧SD P T X Q (c.put t w c.s.H))(ho:okOp c t=true:=by kernel_rfl)(hs:strictC c=true:=by kernel_rfl)(ha:aop P T c.s.tm (opC c) c.s.H=some (.enter f args,c.s.H):=by kernel_rfl)(hl:subGo 0 c.s.H.n 0 l []=true:=by kernel_rfl)(hr:rnG (rn2 (emOf l)) args0.toList=some args.toList:=by kernel_rfl):SD P T X Q c:=sd_callp t f args hc l ho hs ha (hn_of 0 hl hb) hr hk
theorem sdQ(t:Nat)(x y:Int)(h:x=y)(hr:c.s.tm.get t=some (.bool (x != y)))(hk:SD P T X Q (c.see t (.bool false))):SD P T X Q c:=sd_see t _ (see_bool hr (eb.2 h)) hk
end
theorem cvs{f:Em}{k k1 h:Heap}{c:Nat}{o:Ob}(b:Nat)(hf:HN f k h)(hle:k.n.ble k1.n=true:=by kernel_rfl)(h0:isNm f b c=true:=by kernel_rfl)(h1:k1.get b=k.get b:=by kernel_rfl)(hs:(k.get b).isSome=true:=by kernel_rfl)(h2:h.get c=some o:=by kernel_rfl):CovAt f k k1 h c o:=cov_same b hf hle h0 h1 hs h2
abbrev i1_:List (Option Nat):=[some 0]
abbrev e1_:Em:=emOf i1_
abbrev i2_:List (Option Nat):=[some 0,some 1]
abbrev e2_:Em:=emOf i2_
abbrev i3_:List (Option Nat):=[some 0,some 1,some 2]
abbrev e3_:Em:=emOf i3_
abbrev i4_:List (Option Nat):=[some 0,some 1,some 2,some 3]
abbrev e4_:Em:=emOf i4_
abbrev i5_:List (Option Nat):=[some 0,some 1,some 2,some 3,some 4]
abbrev e5_:Em:=emOf i5_
abbrev i6_:List (Option Nat):=[some 0,some 1,some 2,some 3,some 4,some 5]
abbrev e6_:Em:=emOf i6_
abbrev i7_:List (Option Nat):=[some 0,some 1,some 2,some 3,some 4,some 5,some 6]
abbrev e7_:Em:=emOf i7_
abbrev i8_:List (Option Nat):=[some 0,some 1,some 2,some 3,some 4,some 5,some 6,some 7]
abbrev e8_:Em:=emOf i8_
abbrev i9_:List (Option Nat):=[some 0,some 1,some 2,some 3,some 4,some 5,some 6,some 7,some 8]
abbrev e9_:Em:=emOf i9_
abbrev i10_:List (Option Nat):=[some 0,some 1,some 2,some 3,some 4,some 5,some 6,some 7,some 8,some 9]
abbrev e10_:Em:=emOf i10_
abbrev i12_:List (Option Nat):=[some 0,some 1,some 2,some 3,some 4,some 5,some 6,some 7,some 8,some 9,some 10,some 11]
abbrev e12_:Em:=emOf i12_
abbrev iiCo(l:List (Int × Int × Int × Int × Int))(ro:Bool):Option Ob:=some ⟨tab iiC l,62,ro⟩
theorem iiC_b{f:Em}{h:Heap}{c e:Nat}{l:List (Int × Int × Int × Int × Int)}{ro:Bool}(h1:h.get c=some ⟨tab iiC l,e,ro⟩:=by kernel_rfl):Bk f h c ⟨tab iiC l,e,ro⟩:=bk_flat _ h1 (tab_plain iiC_pl _) rfl
theorem iiC_c{f:Em}{k k1 h:Heap}{c e:Nat}{l:List (Int × Int × Int × Int × Int)}{ro:Bool}(b:Nat)(h0:(b.blt k1.n&&isNm (f.ext k.n h.n) b c)=true:=by kernel_rfl)(h1:k1.get b=some ⟨tab iiC l,e,ro⟩:=by kernel_rfl):CovAt f k k1 h c ⟨tab iiC l,e,ro⟩:=cov_flat b h0 h1 (tab_plain iiC_pl _)
abbrev inCo(l:List (Int))(ro:Bool):Option Ob:=some ⟨tab inC l,3,ro⟩
theorem inC_b{f:Em}{h:Heap}{c e:Nat}{l:List (Int)}{ro:Bool}(h1:h.get c=some ⟨tab inC l,e,ro⟩:=by kernel_rfl):Bk f h c ⟨tab inC l,e,ro⟩:=bk_flat _ h1 (tab_plain inC_pl _) rfl
theorem inC_c{f:Em}{k k1 h:Heap}{c e:Nat}{l:List (Int)}{ro:Bool}(b:Nat)(h0:(b.blt k1.n&&isNm (f.ext k.n h.n) b c)=true:=by kernel_rfl)(h1:k1.get b=some ⟨tab inC l,e,ro⟩:=by kernel_rfl):CovAt f k k1 h c ⟨tab inC l,e,ro⟩:=cov_flat b h0 h1 (tab_plain inC_pl _)
abbrev boCo(l:List (Bool))(ro:Bool):Option Ob:=some ⟨tab boC l,4,ro⟩
theorem boC_b{f:Em}{h:Heap}{c e:Nat}{l:List (Bool)}{ro:Bool}(h1:h.get c=some ⟨tab boC l,e,ro⟩:=by kernel_rfl):Bk f h c ⟨tab boC l,e,ro⟩:=bk_flat _ h1 (tab_plain boC_pl _) rfl
theorem boC_c{f:Em}{k k1 h:Heap}{c e:Nat}{l:List (Bool)}{ro:Bool}(b:Nat)(h0:(b.blt k1.n&&isNm (f.ext k.n h.n) b c)=true:=by kernel_rfl)(h1:k1.get b=some ⟨tab boC l,e,ro⟩:=by kernel_rfl):CovAt f k k1 h c ⟨tab boC l,e,ro⟩:=cov_flat b h0 h1 (tab_plain boC_pl _)
abbrev uCo(l:List (Int))(ro:Bool):Option Ob:=some ⟨tab uC l,25,ro⟩
theorem uC_b{f:Em}{h:Heap}{c e:Nat}{l:List (Int)}{ro:Bool}(h1:h.get c=some ⟨tab uC l,e,ro⟩:=by kernel_rfl):Bk f h c ⟨tab uC l,e,ro⟩:=bk_flat _ h1 (tab_plain uC_pl _) rfl
theorem uC_c{f:Em}{k k1 h:Heap}{c e:Nat}{l:List (Int)}{ro:Bool}(b:Nat)(h0:(b.blt k1.n&&isNm (f.ext k.n h.n) b c)=true:=by kernel_rfl)(h1:k1.get b=some ⟨tab uC l,e,ro⟩:=by kernel_rfl):CovAt f k k1 h c ⟨tab uC l,e,ro⟩:=cov_flat b h0 h1 (tab_plain uC_pl _)
abbrev ivCo(l:List (Int × Int × Int))(ro:Bool):Option Ob:=some ⟨tab ivC l,120,ro⟩
theorem ivC_b{f:Em}{h:Heap}{c e:Nat}{l:List (Int × Int × Int)}{ro:Bool}(h1:h.get c=some ⟨tab ivC l,e,ro⟩:=by kernel_rfl):Bk f h c ⟨tab ivC l,e,ro⟩:=bk_flat _ h1 (tab_plain ivC_pl _) rfl
theorem ivC_c{f:Em}{k k1 h:Heap}{c e:Nat}{l:List (Int × Int × Int)}{ro:Bool}(b:Nat)(h0:(b.blt k1.n&&isNm (f.ext k.n h.n) b c)=true:=by kernel_rfl)(h1:k1.get b=some ⟨tab ivC l,e,ro⟩:=by kernel_rfl):CovAt f k k1 h c ⟨tab ivC l,e,ro⟩:=cov_flat b h0 h1 (tab_plain ivC_pl _)
abbrev hhCo(l:List (Int × Int × Int × Int × Int))(ro:Bool):Option Ob:=some ⟨tab hhC l,81,ro⟩
theorem hhC_b{f:Em}{h:Heap}{c e:Nat}{l:List (Int × Int × Int × Int × Int)}{ro:Bool}(h1:h.get c=some ⟨tab hhC l,e,ro⟩:=by kernel_rfl):Bk f h c ⟨tab hhC l,e,ro⟩:=bk_flat _ h1 (tab_plain hhC_pl _) rfl
theorem hhC_c{f:Em}{k k1 h:Heap}{c e:Nat}{l:List (Int × Int × Int × Int × Int)}{ro:Bool}(b:Nat)(h0:(b.blt k1.n&&isNm (f.ext k.n h.n) b c)=true:=by kernel_rfl)(h1:k1.get b=some ⟨tab hhC l,e,ro⟩:=by kernel_rfl):CovAt f k k1 h c ⟨tab hhC l,e,ro⟩:=cov_flat b h0 h1 (tab_plain hhC_pl _)
abbrev jI(n:Int):Value:=.int .i64 n
abbrev jU(n:Int):Value:=.int .u32 n
abbrev pT(b o:Nat):Value:=.pointer (some ⟨b,o,none⟩)
abbrev sK(b n k:Nat):Value:=.slice (some ⟨b,0,none⟩) n k
section
variable {P:Program}{T:Tab}{X:Cx}{Q:Xt→St→Prop}{c:Cf}[OrcDat T]
theorem zT(k t:Nat)(p:Prop)[Decidable p](hk:SD P T X Q ((goS P T k c).see t (.bool true)))(h:p:=by first|omega|(simp;done)|(simp;omega))(hr:(goS P T k c).s.tm.get t=some (.bool (decide p)):=by kernel_rfl):SD P T X Q c:=sd_run k (sd_see t _ (see_bool hr (aQ h)) hk)
theorem zF(k t:Nat)(p:Prop)[Decidable p](hk:SD P T X Q ((goS P T k c).see t (.bool false)))(h:¬p:=by first|omega|(simp;done)|(simp;omega))(hr:(goS P T k c).s.tm.get t=some (.bool (decide p)):=by kernel_rfl):SD P T X Q c:=sd_run k (sd_see t _ (see_bool hr (aD h)) hk)
theorem zE(k t:Nat)(x y:Int)(hk:SD P T X Q ((goS P T k c).see t (.bool true)))(h:x=y:=by first|omega|(simp;done)|(simp;omega))(hr:(goS P T k c).s.tm.get t=some (.bool (x == y)):=by kernel_rfl):SD P T X Q c:=sd_run k (sd_see t _ (see_bool hr (ir.2 h)) hk)
theorem zN(k t:Nat)(x y:Int)(hk:SD P T X Q ((goS P T k c).see t (.bool false)))(h:x≠y:=by first|omega|(simp;done)|(simp;omega))(hr:(goS P T k c).s.tm.get t=some (.bool (x == y)):=by kernel_rfl):SD P T X Q c:=sd_run k (sd_see t _ (see_bool hr (aB.2 h)) hk)
theorem zP(k t:Nat)(x y:Int)(hk:SD P T X Q ((goS P T k c).see t (.bool true)))(h:x≠y:=by first|omega|(simp;done)|(simp;omega))(hr:(goS P T k c).s.tm.get t=some (.bool (x != y)):=by kernel_rfl):SD P T X Q c:=sd_run k (sd_see t _ (see_bool hr (eW.2 h)) hk)
theorem zQ(k t:Nat)(x y:Int)(hk:SD P T X Q ((goS P T k c).see t (.bool false)))(h:x=y:=by first|omega|(simp;done)|(simp;omega))(hr:(goS P T k c).s.tm.get t=some (.bool (x != y)):=by kernel_rfl):SD P T X Q c:=sd_run k (sd_see t _ (see_bool hr (eb.2 h)) hk)
theorem zI(k t:Nat)(kd:IntKind)(y x:Int)(hk:SD P T X Q ((goS P T k c).see t (.int kd y)))(h:x=y:=by first|exact w64 (by omega) (by omega) (by omega)|exact i64w (by omega) (by omega) (by omega)|exact wu32 rfl (by omega) (by omega)|exact wu64 rfl (by omega) (by omega)|exact wu64 (by omega) (by omega) (by omega)|exact wu32 (by omega) (by omega) (by omega)|omega)(hr:(goS P T k c).s.tm.get t=some (.int kd x):=by kernel_rfl):SD P T X Q c:=sd_run k (sd_see t _ (see_int hr h) hk)
theorem zB(k t:Nat)(x:Bool)(h1:x=true→SD P T X Q ((goS P T k c).see t (.bool true)))(h2:x=false→SD P T X Q ((goS P T k c).see t (.bool false)))(hr:(goS P T k c).s.tm.get t=some (.bool x):=by kernel_rfl):SD P T X Q c:=sd_run k ((aT x).elim (fun h=>sd_see t _ (see_bool hr h) (h1 h)) (fun h=>sd_see t _ (see_bool hr h) (h2 h)))
theorem zX(k t:Nat)(v:Value)(i len:Nat)(hk:SD P T X Q ((goS P T k c).put t v (goS P T k c).s.H))(hi:i<len:=by first|omega|(simp;done)|(simp;omega))(ho:okOp (goS P T k c) t=true:=by kernel_rfl)(hs:strictC (goS P T k c)=true:=by kernel_rfl)(h1:aop P T (goS P T k c).s.tm (opC (goS P T k c)) (goS P T k c).s.H=val (bif i.blt len then some v else none) (goS P T k c).s.H:=by kernel_rfl):SD P T X Q c:=sd_run k (sd_ix t v i len ho hs h1 hi hk)
theorem zL{α:Type}{enc:α→List Value}{s:Nat}(k t:Nat)(v:Value)(ty:TypeId)(b j:Nat)(e:TypeId)(ro:Bool)(hs:∀a,(enc a).length=s){l:List α}{i:Nat}{a:α}(ha:l[i]? = some a)(hk:SD P T X Q ((goS P T k c).put t v (goS P T k c).s.H))(g:(goS P T k c).s.H.get b=some ⟨tab enc l,e,ro⟩:=by kernel_rfl)(hr:cellB T ty=true:=by kernel_rfl)(hz:T.size ty=some 1:=by kernel_rfl)(hj:(enc a)[j]? = some v:=by rfl)(ho:okOp (goS P T k c) t=true:=by kernel_rfl)(h2:strictC (goS P T k c)=true:=by kernel_rfl)(h1:ldOf (goS P T k c)=some (ty,.pointer (some ⟨b,0+i*s+j,none⟩)):=by kernel_rfl):SD P T X Q c:=sd_run k (sd_ld t v ty _ ho h2 h1 (ld_cell hs g hr hz ha hj) hk)
theorem zM{α:Type}{enc:α→List Value}{s:Nat}(k t:Nat)(ty:TypeId)(b:Nat)(e:TypeId)(ro:Bool)(hs:∀a,(enc a).length=s){l:List α}{i:Nat}{a:α}(ha:l[i]? = some a)(hk:SD P T X Q ((goS P T k c).put t (.agg (enc a).toArray) (goS P T k c).s.H))(g:(goS P T k c).s.H.get b=some ⟨tab enc l,e,ro⟩:=by kernel_rfl)(hr:rowB T ty=true:=by kernel_rfl)(hz:T.size ty=some s:=by kernel_rfl)(ho:okOp (goS P T k c) t=true:=by kernel_rfl)(h2:strictC (goS P T k c)=true:=by kernel_rfl)(h1:ldOf (goS P T k c)=some (ty,.pointer (some ⟨b,0+i*s,none⟩)):=by kernel_rfl):SD P T X Q c:=sd_run k (sd_ld t _ ty _ ho h2 h1 (ld_row hs g hr hz ha) hk)
end
theorem zR{α:Type}(l:List α)(k:Nat)(h:k<l.length:=by first|omega|(simp;done)|(simp;omega)):∃x,l[k]? = some x:=⟨_,ac h⟩
section
variable {P:Program}{T:Tab}{X:Cx}{Q:Xt→St→Prop}{c:Cf}
theorem zC(t:Nat)(f:FuncId)(args:Array Value){R:Value→Heap→Prop}{args0:Array Value}{obs:List (Option Ob)}(hc:SCall P T f args0 (hq obs) R)(l:List (Option Nat))(hk:HN (emOf l) (hq obs) c.s.H→∀v k1,R v k1→∃w h1,Glue (emOf l) (hq obs) k1 c.s.H h1∧RN ((emOf l).ext (hq obs).n c.s.H.n) v w∧SD P T X Q (c.put t w h1))(hb:Blks (emOf l) c.s.H obs l:=by repeat (first|exact True.intro|(refine⟨by first|exact iiC_b|exact inC_b|exact boC_b|exact uC_b|exact ivC_b|exact hhC_b|exact rfl|exact brn,?_⟩)))(ho:okOp c t=true:=by kernel_rfl)(hs:strictC c=true:=by kernel_rfl)(ha:aop P T c.s.tm (opC c) c.s.H=some (.enter f args,c.s.H):=by kernel_rfl)(hl:subGo 0 c.s.H.n 0 l []=true:=by kernel_rfl)(hr:rnG (rn2 (emOf l)) args0.toList=some args.toList:=by kernel_rfl):SD P T X Q c:=sdC t f args hc l hb hk ho hs ha hl hr
theorem zD(t:Nat)(f:FuncId)(args:Array Value){R:Value→Heap→Prop}{args0:Array Value}{obs:List (Option Ob)}(hc:SCall P T f args0 (hq obs) R)(l:List (Option Nat))(hk:∀v k1,R v k1→∃w h1,Glue (emOf l) (hq obs) k1 c.s.H h1∧RN ((emOf l).ext (hq obs).n c.s.H.n) v w∧SD P T X Q (c.put t w h1))(hb:Blks (emOf l) c.s.H obs l:=by repeat (first|exact True.intro|(refine⟨by first|exact iiC_b|exact inC_b|exact boC_b|exact uC_b|exact ivC_b|exact hhC_b|exact rfl|exact brn,?_⟩)))(ho:okOp c t=true:=by kernel_rfl)(hs:strictC c=true:=by kernel_rfl)(ha:aop P T c.s.tm (opC c) c.s.H=some (.enter f args,c.s.H):=by kernel_rfl)(hl:subGo 0 c.s.H.n 0 l []=true:=by kernel_rfl)(hr:rnG (rn2 (emOf l)) args0.toList=some args.toList:=by kernel_rfl):SD P T X Q c:=sdD t f args hc l hb hk ho hs ha hl hr
theorem zG(t:Nat)(f:FuncId)(args:Array Value){R:Value→Heap→Prop}{args0:Array Value}{obs:List (Option Ob)}(hc:SCall P T f args0 (hq obs) R)(l:List (Option Nat))(hk:∀v k1,R v k1→k1=hq obs∧∃w,rn2 ((emOf l).ext obs.length c.s.H.n) v=some w∧SD P T X Q (c.put t w c.s.H))(hb:Blks (emOf l) c.s.H obs l:=by repeat (first|exact True.intro|(refine⟨by first|exact iiC_b|exact inC_b|exact boC_b|exact uC_b|exact ivC_b|exact hhC_b|exact rfl|exact brn,?_⟩)))(ho:okOp c t=true:=by kernel_rfl)(hs:strictC c=true:=by kernel_rfl)(ha:aop P T c.s.tm (opC c) c.s.H=some (.enter f args,c.s.H):=by kernel_rfl)(hl:subGo 0 c.s.H.n 0 l []=true:=by kernel_rfl)(hr:rnG (rn2 (emOf l)) args0.toList=some args.toList:=by kernel_rfl):SD P T X Q c:=sdCp t f args hc l hb hk ho hs ha hl hr
theorem zZ{rs:Array ResultVar}{R:Value→Heap→Prop}(v:Value){n0:Nat}(h0:X.h0.n=n0)(w:Value){obs:List (Option Ob)}(l:List (Option Nat))(hr:R w (hq obs))(hb:Blks (emOf l) c.s.H obs l:=by repeat (first|exact True.intro|(refine⟨by first|exact iiC_b|exact inC_b|exact boC_b|exact uC_b|exact ivC_b|exact hhC_b|exact rfl|exact brn,?_⟩)))(he:atEnd c=true:=by kernel_rfl)(hp:rs.toList.all (presR c.s.tm)=true:=by kernel_rfl)(hv:aresults T c.s.tm c.s.H rs=some v:=by kernel_rfl)(hl:subG n0 c.s.H obs 0 obs l []=true:=by kernel_rfl)(hle:n0.ble l.length=true:=by kernel_rfl)(hw:rn2 (emOf l) w=some v:=by kernel_rfl):SD P T X (QF T X rs R) c:=sdZ v h0 w obs l hb hr he hp hv hl hle hw
theorem zY{rs:Array ResultVar}{R:Value→Heap→Prop}(v:Value){n0:Nat}(h0:X.h0.n=n0){obs:List (Option Ob)}(l:List (Option Nat))(hr:R v (hq obs))(hb:Blks (emOf l) c.s.H obs l:=by repeat (first|exact True.intro|(refine⟨by first|exact iiC_b|exact inC_b|exact boC_b|exact uC_b|exact ivC_b|exact hhC_b|exact rfl|exact brn,?_⟩)))(he:atEnd c=true:=by kernel_rfl)(hp:rs.toList.all (presR c.s.tm)=true:=by kernel_rfl)(hv:aresults T c.s.tm c.s.H rs=some v:=by kernel_rfl)(hl:subG n0 c.s.H obs 0 obs l []=true:=by kernel_rfl)(hle:n0.ble l.length=true:=by kernel_rfl)(hw:rn2 (emOf l) v=some v:=by kernel_rfl):SD P T X (QF T X rs R) c:=sdZ v h0 v obs l hb hr he hp hv hl hle hw
end
theorem zs{l:List (Option Nat)}{obs:List (Option Ob)}{h:Heap}{n0:Nat}(hl:subG n0 h obs 0 obs l []=true:=by kernel_rfl)(hle:n0.ble l.length=true:=by kernel_rfl)(hb:Blks (emOf l) h obs l:=by repeat (first|exact True.intro|(refine⟨by first|exact iiC_b|exact inC_b|exact boC_b|exact uC_b|exact ivC_b|exact hhC_b|exact rfl|exact brn,?_⟩))):Sub n0 (emOf l) (hq obs) h:=sub_of hl hle hb
theorem zt{f:Em}{L:List (Nat × Value)}{tm:Tr Value}(h1:L.map (fun p=>rn2 f p.2)=L.map (fun p=>tm.get p.1):=by kernel_rfl)(h2:L.all (fun p=>(rn2 f p.2).isSome)=true:=by kernel_rfl):TE f (tmL L) tm:=te_of h1 h2

abbrev nS:Value:=.slice none 0 0
abbrev oB(t:Nat)(l:List Value):Option Ob:=some ⟨l,t,false⟩
abbrev jN(n:Nat):Value:=.int .i64 n
abbrev eM(l:List Nat):List (Option Nat):=l.map fun|0=>none|n+1=>some n
theorem zS{P:Program}{T:Tab}[OrcDat T]{f:FuncId}{args:Array Value}{h:Heap}{R:Value→Heap→Prop}(fn:Func)(b:Code)(n n0:Nat)(hd:∀X:Cx,X.h0.n=n0→SD P T X (QF T X fn.results R) ⟨n,.code b,[],⟨initTm 0 args,h⟩⟩)(ho:T.orc f args.toList=none:=by kernel_rfl)(hf:T.fn f=some fn:=by kernel_rfl)(hb:fn.body=some b:=by kernel_rfl)(hn:args.size+(fn.ntmps-args.size)=n:=by rfl)(hh:h.n=n0:=by rfl):SCall P T f args h R:=scall_sd n _ n0 ho hf hb hn rfl hh hd
abbrev iiF(l:List (Int × Int × Int × Int × Int)):Option Ob:=iiCo l false
abbrev inF(l:List (Int)):Option Ob:=inCo l false
abbrev uF(l:List (Int)):Option Ob:=uCo l false
abbrev boF(l:List (Bool)):Option Ob:=boCo l false
abbrev ivF(l:List (Int × Int × Int)):Option Ob:=ivCo l false
abbrev hhF(l:List (Int × Int × Int × Int × Int)):Option Ob:=hhCo l false
theorem inC_ones:∀x,(inC x).all Ev.one=true:=fun _=>rfl
abbrev II:=Int × Int × Int × Int × Int
def valB(n k:Int):Bool:=decide (0≤n)&&decide (n<k)
def madeB(nd nr:Int)(x:II)(k:Int):Bool :=
 decide (x.2.1=k)&&(if x.1=0 then decide (x.2.2.1=0)&&decide (x.2.2.2.1=0)
  else if x.1=1 then(decide (x.2.2.1=0)&&decide (x.2.2.2.1=0))&&decide (x.2.2.2.2<nd)
  else if x.1=2 then(decide (x.2.2.1=0)&&decide (x.2.2.2.1=0))&&decide (x.2.2.2.2<nr)
  else if x.1=3 then(valB x.2.2.1 k&&valB x.2.2.2.1 k)&&(decide (16≤x.2.2.2.2)&&decide (x.2.2.2.2≤23))
  else if x.1=4 then(valB x.2.2.1 k&&valB x.2.2.2.1 k)&&((decide (16≤x.2.2.2.2)&&decide (x.2.2.2.2≤23)) || decide (x.2.2.2.2=25))
  else false)
structure RightP(c:List II)(od rd:List Int)(nd nr hd hr fl tg br ct vs:Int):Prop where
 vs_:vs=c.length
 len:c.length≤64
 nd_:0≤nd∧nd≤16
 nr_:0≤nr∧nr≤16
 hd_:0≤hd∧hd≤16
 hr_:0≤hr∧hr≤16
 ct_:1≤ct∧ct≤8
 code:∀(k:Nat) (x:II),c[k]? = some x→madeB nd nr x k=true
 od_:∀(k:Nat) (x:Int),od[k]? = some x→valB x vs=true
 rd_:∀(k:Nat) (x:Int),rd[k]? = some x→valB x vs=true
 fl_:fl = -1∨valB fl vs=true
 tg_:tg = -1∨valB tg vs=true
 br_:br=0∨(33≤br∧br≤37∧tg = -1)
noncomputable instance (c:List II)(od rd:List Int)(nd nr hd hr fl tg br ct vs:Int):Decidable (RightP c od rd nd nr hd hr fl tg br ct vs):=Classical.propDecidable _
noncomputable def f94b:Code:=Tryz.f94.body.getD .skip
theorem value_s(a k:Int):SCall Tryz.prog T3 94 #[jI a,jI k] (hq []) fun v h=>v=.bool (valB a k)∧h=hq []:=by
 refine zS Tryz.f94 f94b 12 0 fun X hX=>?_
 refine zB 10 7 (decide ((a:Int)≥0)) (fun hc1=>?_) fun hc1=>?_
 ·refine sd_run 8 ?_;simp only[bd]at hc1;refine zY (.bool (decide ((a:Int)<k))) hX [] ⟨(by unfold valB;congr 1;simp[*]),rfl⟩
 ·refine sd_run 8 ?_;simp only[bd]at hc1;refine zY (.bool false) hX [] ⟨(by unfold valB;congr 1;simp;omega),rfl⟩
def sp94:List Value→Option Value
 | [.int .i64 a,.int .i64 k]=>some (.bool (valB a k))
 |_=>none
noncomputable def T4:Tab:={ T3 with orc:=addOrc T3.orc 94 sp94 }
theorem ok_T4[Bs]:ProgOk Tryz.prog T4:=ok_T3.know 94 sp94 fun args v h=>by
 unfold sp94 at h;split at h
 ·rename_i a k;cases h;exact⟨rfl,rfl,SCall.data (value_s a k) rfl rfl⟩
 ·cases h
instance:OrcDat T4:=orcDat_add inferInstance 94 sp94 fun l v h=>by
 unfold sp94 at h;split at h
 ·cases h;exact⟨rfl,rfl⟩
 ·cases h
def namedB(op:Int):Bool:=(decide (0≤op)&&decide (op≤8)) || (decide (16≤op)&&decide (op≤25)) || (decide (32≤op)&&decide (op≤40)) || (decide (48≤op)&&decide (op≤53)) || (decide (64≤op)&&decide (op≤69))
def sizeZ(op:Int):Int:=if op=1∨(32≤op∧op≤38)∨op=66∨op=67 then 2 else if op=2 then 5 else if namedB op=true then 1 else 0
def rightI(op n:Int):Bool:=decide (sizeZ op≠0)&&((!decide (sizeZ op=1) || decide (n=0))&&(!decide (sizeZ op=2) || decide (n≤255)))
def endsB(op:Int):Bool:=(decide (32≤op)&&decide (op≤40)) || (decide (64≤op)&&decide (op≤69))
def plainB(op:Int):Bool:=(decide (0≤op)&&decide (op≤8)) || (decide (32≤op)&&decide (op≤40)) || (decide (16≤op)&&(decide (op≤25)&&decide (op≠24)))
def signZ(n:Int):Int:=IntKind.u32.wrap (IntKind.i32.wrap (IntKind.i8.wrap n))
theorem sizeZ_in(op:Int):sizeZ op=0∨sizeZ op=1∨sizeZ op=2∨sizeZ op=5:=by unfold sizeZ;split<;>(try split)<;>(try split)<;>simp
theorem sizeZ_wrap(op:Int):IntKind.u32.wrap (sizeZ op)=sizeZ op:=by rcases sizeZ_in op with h|h|h|h<;>rw[h]<;>rfl
theorem named1(op:Int):(op<0∨(9≤op∧op≤15)∨(26≤op∧op≤31)∨(41≤op∧op≤47)∨(54≤op∧op≤63)∨70≤op)∨op=0∨op=1∨op=2∨op=3∨op=4∨op=5∨op=6∨op=7∨op=8∨op=16∨op=17∨op=18∨op=19∨op=20∨op=21∨op=22∨op=23∨op=24∨op=25∨op=32∨op=33∨op=34∨op=35∨op=36∨op=37∨op=38∨op=39∨op=40∨op=48∨op=49∨op=50∨op=51∨op=52∨op=53∨op=64∨op=65∨op=66∨op=67∨op=68∨op=69:=by omega
theorem named_cases(op:Int):op<0∨(9≤op∧op≤15)∨(26≤op∧op≤31)∨(41≤op∧op≤47)∨(54≤op∧op≤63)∨70≤op∨op=0∨op=1∨op=2∨op=3∨op=4∨op=5∨op=6∨op=7∨op=8∨op=16∨op=17∨op=18∨op=19∨op=20∨op=21∨op=22∨op=23∨op=24∨op=25∨op=32∨op=33∨op=34∨op=35∨op=36∨op=37∨op=38∨op=39∨op=40∨op=48∨op=49∨op=50∨op=51∨op=52∨op=53∨op=64∨op=65∨op=66∨op=67∨op=68∨op=69:=by omega
theorem size_gap{op:Int}(h:op<0∨(9≤op∧op≤15)∨(26≤op∧op≤31)∨(41≤op∧op≤47)∨(54≤op∧op≤63)∨70≤op):sizeZ op=0:=by
 unfold sizeZ namedB;rw[if_neg (by omega),if_neg (by omega),if_neg (by simp;omega)]
noncomputable def f53b:Code:=Tryz.f53.body.getD .skip
theorem f53_body:Tryz.f53.body=some f53b:=by kernel_rfl
theorem f53_fn:T4.fn 53=some Tryz.f53:=by kernel_rfl
theorem lit53{x:Int}(n:Nat)(v:Value)(he:atEnd (goS Tryz.prog T4 n ⟨20,.code f53b,[],⟨initTm 0 #[jI x],hq []⟩⟩)=true:=by kernel_rfl)(hp:Tryz.f53.results.toList.all (presR (goS Tryz.prog T4 n ⟨20,.code f53b,[],⟨initTm 0 #[jI x],hq []⟩⟩).s.tm)=true:=by kernel_rfl)(hv:aresults T4 (goS Tryz.prog T4 n ⟨20,.code f53b,[],⟨initTm 0 #[jI x],hq []⟩⟩).s.tm (goS Tryz.prog T4 n ⟨20,.code f53b,[],⟨initTm 0 #[jI x],hq []⟩⟩).s.H Tryz.f53.results=some v:=by kernel_rfl)(hl:subG 0 (goS Tryz.prog T4 n ⟨20,.code f53b,[],⟨initTm 0 #[jI x],hq []⟩⟩).s.H [] 0 [] [] []=true:=by kernel_rfl)(hw:rn2 (emOf []) v=some v:=by kernel_rfl)(ho:T4.orc 53 #[jI x].toList=none:=by kernel_rfl):SCall Tryz.prog T4 53 #[jI x] (hq []) fun r h=>r=v∧h=hq []:=by
 refine scall_sd 20 _ 0 ho f53_fn f53_body rfl rfl rfl fun X hX=>?_
 exact sd_run n (sdY v hX [] [] True.intro ⟨rfl,rfl⟩ he hp hv hl rfl hw)
set_option maxHeartbeats 1000000 in
theorem size_s(op:Int):SCall Tryz.prog T4 53 #[jI op] (hq []) fun v h=>v=jI (sizeZ op)∧h=hq []:=by
 rcases named1 op with h|rfl|rfl|rfl|rfl|rfl|rfl|rfl|rfl|rfl|rfl|rfl|rfl|rfl|rfl|rfl|rfl|rfl|rfl|rfl|rfl|rfl|rfl|rfl|rfl|rfl|rfl|rfl|rfl|rfl|rfl|rfl|rfl|rfl|rfl|rfl|rfl|rfl|rfl|rfl|rfl
 ·refine zS Tryz.f53 f53b 20 0 fun X hX=>(zN 16 5 (op:Int) 1 (zN 7 6 (op:Int) 32 (zN 7 7 (op:Int) 33 (zN 7 8 (op:Int) 34 (zN 7 9 (op:Int) 35 (zN 7 10 (op:Int) 36 (zN 7 11 (op:Int) 37 (zN 7 12 (op:Int) 38 (zN 7 13 (op:Int) 66 (zN 6 14 (op:Int) 67 (zN 7 16 (op:Int) 2 (zN 27 5 (op:Int) 0 (zN 7 7 (op:Int) 1 (zN 7 9 (op:Int) 2 (zN 7 11 (op:Int) 3 (zN 7 13 (op:Int) 4 (zN 7 15 (op:Int) 5 (zN 7 17 (op:Int) 6 (zN 7 19 (op:Int) 7 (zN 7 21 (op:Int) 8 (zN 7 23 (op:Int) 32 (zN 7 25 (op:Int) 33 (zN 7 27 (op:Int) 34 (zN 7 29 (op:Int) 35 (zN 7 31 (op:Int) 36 (zN 7 33 (op:Int) 37 (zN 7 35 (op:Int) 38 (zN 7 37 (op:Int) 39 (zN 7 39 (op:Int) 40 (zN 26 5 (op:Int) 16 (zN 7 7 (op:Int) 17 (zN 7 9 (op:Int) 18 (zN 7 11 (op:Int) 19 (zN 7 13 (op:Int) 20 (zN 7 15 (op:Int) 21 (zN 7 17 (op:Int) 22 (zN 7 19 (op:Int) 23 (zN 7 21 (op:Int) 24 (zN 7 23 (op:Int) 25 (zN 7 25 (op:Int) 48 (zN 7 27 (op:Int) 49 (zN 7 29 (op:Int) 50 (zN 7 31 (op:Int) 51 (zN 7 33 (op:Int) 52 (zN 7 35 (op:Int) 53 (zN 7 37 (op:Int) 64 (zN 7 39 (op:Int) 65 (zN 7 41 (op:Int) 66 ?_))))))))))))))))))))))))))))))))))))))))))))))))
  refine zN 7 43 (op:Int) 67 (zN 7 45 (op:Int) 68 (zN 7 47 (op:Int) 69 (sd_run 30 ?_)));refine zY (jI 0) hX [] ⟨(congrArg _ (size_gap zo).symm),rfl⟩
 ·exact lit53 137 (.int .i64 1)
 ·exact lit53 31 (.int .i64 2)
 ·exact lit53 97 (.int .i64 5)
 ·exact lit53 158 (.int .i64 1)
 ·exact lit53 165 (.int .i64 1)
 ·exact lit53 172 (.int .i64 1)
 ·exact lit53 179 (.int .i64 1)
 ·exact lit53 186 (.int .i64 1)
 ·exact lit53 193 (.int .i64 1)
 ·exact lit53 287 (.int .i64 1)
 ·exact lit53 294 (.int .i64 1)
 ·exact lit53 301 (.int .i64 1)
 ·exact lit53 308 (.int .i64 1)
 ·exact lit53 315 (.int .i64 1)
 ·exact lit53 322 (.int .i64 1)
 ·exact lit53 329 (.int .i64 1)
 ·exact lit53 336 (.int .i64 1)
 ·exact lit53 343 (.int .i64 1)
 ·exact lit53 350 (.int .i64 1)
 ·exact lit53 38 (.int .i64 2)
 ·exact lit53 45 (.int .i64 2)
 ·exact lit53 52 (.int .i64 2)
 ·exact lit53 59 (.int .i64 2)
 ·exact lit53 66 (.int .i64 2)
 ·exact lit53 73 (.int .i64 2)
 ·exact lit53 80 (.int .i64 2)
 ·exact lit53 249 (.int .i64 1)
 ·exact lit53 256 (.int .i64 1)
 ·exact lit53 357 (.int .i64 1)
 ·exact lit53 364 (.int .i64 1)
 ·exact lit53 371 (.int .i64 1)
 ·exact lit53 378 (.int .i64 1)
 ·exact lit53 385 (.int .i64 1)
 ·exact lit53 392 (.int .i64 1)
 ·exact lit53 399 (.int .i64 1)
 ·exact lit53 406 (.int .i64 1)
 ·exact lit53 87 (.int .i64 2)
 ·exact lit53 90 (.int .i64 2)
 ·exact lit53 427 (.int .i64 1)
 ·exact lit53 434 (.int .i64 1)
def sp53:List Value→Option Value
 | [.int .i64 op]=>some (.int .i64 (sizeZ op))
 |_=>none
noncomputable def T5:Tab:={ T4 with orc:=addOrc T4.orc 53 sp53 }
theorem ok_T5[Bs]:ProgOk Tryz.prog T5:=ok_T4.know 53 sp53 fun args v h=>by
 unfold sp53 at h;split at h
 ·rename_i op;cases h;exact⟨rfl,rfl,SCall.data (size_s op) rfl rfl⟩
 ·cases h
instance:OrcDat T5:=orcDat_add inferInstance 53 sp53 fun l v h=>by
 unfold sp53 at h;split at h
 ·cases h;exact⟨rfl,rfl⟩
 ·cases h
noncomputable def f50b:Code:=Tryz.f50.body.getD .skip
theorem rightI_s(op n:Int):SCall Tryz.prog T5 50 #[.agg #[jI op,jU n]] (hq []) fun v h=>v=.bool (rightI op n)∧h=hq []:=by
 refine zS Tryz.f50 f50b 18 0 fun X hX=>(sd_run 11 (sd_ask 5 (jI (sizeZ op)) 53 #[jI op] kr kr kr rfl (sd_run 9 ?_)))
 refine zB 0 6 (((sizeZ op):Int) == 0) (fun hc1=>?_) fun hc1=>?_
 ·refine sd_run 9 ?_;simp only[bd]at hc1;refine zY (.bool false) hX [] ⟨(by congr 1;unfold rightI;simp[*];try (rw[ag];simp)),rfl⟩
 ·refine zB 7 8 (((sizeZ op):Int) == 1) (fun hc2=>?_) fun hc2=>?_
  ·refine sd_run 12 ?_;simp only[bd]at hc1 hc2;refine zY (.bool ((n:Int) == 0)) hX [] ⟨(by congr 1;unfold rightI;simp[*];try (rw[ag];simp)),rfl⟩
  ·refine zB 7 13 (((sizeZ op):Int) == 2) (fun hc3=>?_) fun hc3=>?_
   ·refine sd_run 12 ?_;simp only[bd]at hc1 hc2 hc3;refine zY (.bool (decide ((n:Int)≤255))) hX [] ⟨(by congr 1;unfold rightI;simp[*];try (rw[ag];simp)),rfl⟩
   ·refine sd_run 10 ?_;simp only[bd]at hc1 hc2 hc3;refine zY (.bool true) hX [] ⟨(by congr 1;unfold rightI;simp[*];try (rw[ag];simp)),rfl⟩
def sp50:List Value→Option Value
 | [.agg ⟨[.int .i64 op,.int .u32 n]⟩]=>some (.bool (rightI op n))
 |_=>none
noncomputable def T6:Tab:={ T5 with orc:=addOrc T5.orc 50 sp50 }
theorem ok_T6[Bs]:ProgOk Tryz.prog T6:=ok_T5.know 50 sp50 fun args v h=>by
 unfold sp50 at h;split at h
 ·rename_i op n;cases h;exact⟨rfl,rfl,SCall.data (rightI_s op n) rfl rfl⟩
 ·cases h
instance:OrcDat T6:=orcDat_add inferInstance 50 sp50 fun l v h=>by
 unfold sp50 at h;split at h
 ·cases h;exact⟨rfl,rfl⟩
 ·cases h
noncomputable def f51b:Code:=Tryz.f51.body.getD .skip
theorem plainB_s(op:Int):SCall Tryz.prog T6 51 #[jI op] (hq []) fun v h=>v=.bool (plainB op)∧h=hq []:=by
 refine zS Tryz.f51 f51b 26 0 fun X hX=>?_
 refine zB 13 6 (decide ((op:Int)≥0)) (fun hc1=>?_) fun hc1=>?_
 ·refine zB 6 3 (decide ((op:Int)≤8)) (fun hc2=>?_) fun hc2=>?_
  ·refine sd_run 12 ?_;simp only[bd]at hc1 hc2;refine zY (.bool true) hX [] ⟨(by congr 1;unfold plainB;rw[ag];simp;omega),rfl⟩
  ·refine zB 5 12 (decide ((op:Int)≥32)) (fun hc3=>?_) fun hc3=>?_
   ·refine zB 6 3 (decide ((op:Int)≤40)) (fun hc4=>?_) fun hc4=>?_
    ·refine sd_run 9 ?_;simp only[bd]at hc1 hc2 hc3 hc4;refine zY (.bool true) hX [] ⟨(by congr 1;unfold plainB;rw[ag];simp;omega),rfl⟩
    ·refine zB 9 18 (decide ((op:Int)≥16)) (fun hc5=>?_) fun hc5=>?_
     ·refine zB 4 22 (decide ((op:Int)≤25)) (fun hc6=>?_) fun hc6=>?_
      ·refine zB 7 2 ((op:Int) != 24) (fun hc7=>?_) fun hc7=>?_
       ·simp only[bd]at hc1 hc2 hc3 hc4 hc5 hc6 hc7;refine zY (.bool true) hX [] ⟨(by congr 1;unfold plainB;rw[ag];simp;omega),rfl⟩
       ·simp only[bd]at hc1 hc2 hc3 hc4 hc5 hc6 hc7;refine zY (.bool false) hX [] ⟨(by congr 1;unfold plainB;rw[ag];simp;omega),rfl⟩
      ·refine sd_run 7 ?_;simp only[bd]at hc1 hc2 hc3 hc4 hc5 hc6;refine zY (.bool false) hX [] ⟨(by congr 1;unfold plainB;rw[ag];simp;omega),rfl⟩
     ·refine sd_run 11 ?_;simp only[bd]at hc1 hc2 hc3 hc4 hc5;refine zY (.bool false) hX [] ⟨(by congr 1;unfold plainB;rw[ag];simp;omega),rfl⟩
   ·refine zB 15 18 (decide ((op:Int)≥16)) (fun hc8=>?_) fun hc8=>?_
    ·refine zB 4 22 (decide ((op:Int)≤25)) (fun hc9=>?_) fun hc9=>?_
     ·refine zB 7 2 ((op:Int) != 24) (fun hc10=>?_) fun hc10=>?_
      ·simp only[bd]at hc1 hc2 hc3 hc8 hc9 hc10;refine zY (.bool true) hX [] ⟨(by congr 1;unfold plainB;rw[ag];simp;omega),rfl⟩
      ·simp only[bd]at hc1 hc2 hc3 hc8 hc9 hc10;refine zY (.bool false) hX [] ⟨(by congr 1;unfold plainB;rw[ag];simp;omega),rfl⟩
     ·refine sd_run 7 ?_;simp only[bd]at hc1 hc2 hc3 hc8 hc9;refine zY (.bool false) hX [] ⟨(by congr 1;unfold plainB;rw[ag];simp;omega),rfl⟩
    ·refine sd_run 11 ?_;simp only[bd]at hc1 hc2 hc3 hc8;refine zY (.bool false) hX [] ⟨(by congr 1;unfold plainB;rw[ag];simp;omega),rfl⟩
 ·refine zB 11 12 (decide ((op:Int)≥32)) (fun hc11=>?_) fun hc11=>?_
  ·refine zB 6 3 (decide ((op:Int)≤40)) (fun hc12=>?_) fun hc12=>?_
   ·refine sd_run 9 ?_;simp only[bd]at hc1 hc11 hc12;refine zY (.bool true) hX [] ⟨(by congr 1;unfold plainB;rw[ag];simp;omega),rfl⟩
   ·refine zB 9 18 (decide ((op:Int)≥16)) (fun hc13=>?_) fun hc13=>?_
    ·refine zB 4 22 (decide ((op:Int)≤25)) (fun hc14=>?_) fun hc14=>?_
     ·refine zB 7 2 ((op:Int) != 24) (fun hc15=>?_) fun hc15=>?_
      ·simp only[bd]at hc1 hc11 hc12 hc13 hc14 hc15;refine zY (.bool true) hX [] ⟨(by congr 1;unfold plainB;rw[ag];simp;omega),rfl⟩
      ·simp only[bd]at hc1 hc11 hc12 hc13 hc14 hc15;refine zY (.bool false) hX [] ⟨(by congr 1;unfold plainB;rw[ag];simp;omega),rfl⟩
     ·refine sd_run 7 ?_;simp only[bd]at hc1 hc11 hc12 hc13 hc14;refine zY (.bool false) hX [] ⟨(by congr 1;unfold plainB;rw[ag];simp;omega),rfl⟩
    ·refine sd_run 11 ?_;simp only[bd]at hc1 hc11 hc12 hc13;refine zY (.bool false) hX [] ⟨(by congr 1;unfold plainB;rw[ag];simp;omega),rfl⟩
  ·refine zB 15 18 (decide ((op:Int)≥16)) (fun hc16=>?_) fun hc16=>?_
   ·refine zB 4 22 (decide ((op:Int)≤25)) (fun hc17=>?_) fun hc17=>?_
    ·refine zB 7 2 ((op:Int) != 24) (fun hc18=>?_) fun hc18=>?_
     ·simp only[bd]at hc1 hc11 hc16 hc17 hc18;refine zY (.bool true) hX [] ⟨(by congr 1;unfold plainB;rw[ag];simp;omega),rfl⟩
     ·simp only[bd]at hc1 hc11 hc16 hc17 hc18;refine zY (.bool false) hX [] ⟨(by congr 1;unfold plainB;rw[ag];simp;omega),rfl⟩
    ·refine sd_run 7 ?_;simp only[bd]at hc1 hc11 hc16 hc17;refine zY (.bool false) hX [] ⟨(by congr 1;unfold plainB;rw[ag];simp;omega),rfl⟩
   ·refine sd_run 11 ?_;simp only[bd]at hc1 hc11 hc16;refine zY (.bool false) hX [] ⟨(by congr 1;unfold plainB;rw[ag];simp;omega),rfl⟩
def sp51:List Value→Option Value
 | [.int .i64 op]=>some (.bool (plainB op))
 |_=>none
noncomputable def T7:Tab:={ T6 with orc:=addOrc T6.orc 51 sp51 }
theorem ok_T7[Bs]:ProgOk Tryz.prog T7:=ok_T6.know 51 sp51 fun args v h=>by
 unfold sp51 at h;split at h
 ·rename_i op;cases h;exact⟨rfl,rfl,SCall.data (plainB_s op) rfl rfl⟩
 ·cases h
instance:OrcDat T7:=orcDat_add inferInstance 51 sp51 fun l v h=>by
 unfold sp51 at h;split at h
 ·cases h;exact⟨rfl,rfl⟩
 ·cases h
noncomputable def f52b:Code:=Tryz.f52.body.getD .skip
theorem endsB_s(op:Int):SCall Tryz.prog T7 52 #[jI op] (hq []) fun v h=>v=.bool (endsB op)∧h=hq []:=by
 refine zS Tryz.f52 f52b 17 0 fun X hX=>?_
 refine zB 10 5 (decide ((op:Int)≥32)) (fun hc1=>?_) fun hc1=>?_
 ·refine zB 4 9 (decide ((op:Int)≤40)) (fun hc2=>?_) fun hc2=>?_
  ·refine sd_run 11 ?_;simp only[bd]at hc1 hc2;refine zY (.bool true) hX [] ⟨(by congr 1;unfold endsB;rw[ag];simp;omega),rfl⟩
  ·refine zB 3 12 (decide ((op:Int)≥64)) (fun hc3=>?_) fun hc3=>?_
   ·refine zB 8 2 (decide ((op:Int)≤69)) (fun hc4=>?_) fun hc4=>?_
    ·simp only[bd]at hc1 hc2 hc3 hc4;refine zY (.bool true) hX [] ⟨(by congr 1;unfold endsB;rw[ag];simp;omega),rfl⟩
    ·simp only[bd]at hc1 hc2 hc3 hc4;refine zY (.bool false) hX [] ⟨(by congr 1;unfold endsB;rw[ag];simp;omega),rfl⟩
   ·refine sd_run 8 ?_;simp only[bd]at hc1 hc2 hc3;refine zY (.bool false) hX [] ⟨(by congr 1;unfold endsB;rw[ag];simp;omega),rfl⟩
 ·refine zB 7 12 (decide ((op:Int)≥64)) (fun hc5=>?_) fun hc5=>?_
  ·refine zB 8 2 (decide ((op:Int)≤69)) (fun hc6=>?_) fun hc6=>?_
   ·simp only[bd]at hc1 hc5 hc6;refine zY (.bool true) hX [] ⟨(by congr 1;unfold endsB;rw[ag];simp;omega),rfl⟩
   ·simp only[bd]at hc1 hc5 hc6;refine zY (.bool false) hX [] ⟨(by congr 1;unfold endsB;rw[ag];simp;omega),rfl⟩
  ·refine sd_run 8 ?_;simp only[bd]at hc1 hc5;refine zY (.bool false) hX [] ⟨(by congr 1;unfold endsB;rw[ag];simp;omega),rfl⟩
def sp52:List Value→Option Value
 | [.int .i64 op]=>some (.bool (endsB op))
 |_=>none
noncomputable def T8:Tab:={ T7 with orc:=addOrc T7.orc 52 sp52 }
theorem ok_T8[Bs]:ProgOk Tryz.prog T8:=ok_T7.know 52 sp52 fun args v h=>by
 unfold sp52 at h;split at h
 ·rename_i op;cases h;exact⟨rfl,rfl,SCall.data (endsB_s op) rfl rfl⟩
 ·cases h
instance:OrcDat T8:=orcDat_add inferInstance 52 sp52 fun l v h=>by
 unfold sp52 at h;split at h
 ·cases h;exact⟨rfl,rfl⟩
 ·cases h
noncomputable def f55b:Code:=Tryz.f55.body.getD .skip
theorem sign_s(n:Int):SCall Tryz.prog T8 55 #[jU n] (hq []) fun v h=>v=jU (signZ n)∧h=hq []:=by
 refine zS Tryz.f55 f55b 7 0 fun X hX=>(sd_run 15 ?_)
 refine zY (jU (IntKind.u32.wrap (IntKind.i32.wrap (IntKind.i8.wrap n)))) hX [] ⟨rfl,rfl⟩
def sp55:List Value→Option Value
 | [.int .u32 n]=>some (.int .u32 (signZ n))
 |_=>none
noncomputable def T9:Tab:={ T8 with orc:=addOrc T8.orc 55 sp55 }
theorem ok_T9[Bs]:ProgOk Tryz.prog T9:=ok_T8.know 55 sp55 fun args v h=>by
 unfold sp55 at h;split at h
 ·rename_i n;cases h;exact⟨rfl,rfl,SCall.data (sign_s n) rfl rfl⟩
 ·cases h
instance:OrcDat T9:=orcDat_add inferInstance 55 sp55 fun l v h=>by
 unfold sp55 at h;split at h
 ·cases h;exact⟨rfl,rfl⟩
 ·cases h
noncomputable def f84b:Code:=Tryz.f84.body.getD .skip
theorem f84_body:Tryz.f84.body=some f84b:=by kernel_rfl
theorem f84_fn:T9.fn 84=some Tryz.f84:=by kernel_rfl
theorem lit84{x:Int}(n:Nat)(v:Value)(he:atEnd (goS Tryz.prog T9 n ⟨64,.code f84b,[],⟨initTm 0 #[jI x],hq []⟩⟩)=true:=by kernel_rfl)(hp:Tryz.f84.results.toList.all (presR (goS Tryz.prog T9 n ⟨64,.code f84b,[],⟨initTm 0 #[jI x],hq []⟩⟩).s.tm)=true:=by kernel_rfl)(hv:aresults T9 (goS Tryz.prog T9 n ⟨64,.code f84b,[],⟨initTm 0 #[jI x],hq []⟩⟩).s.tm (goS Tryz.prog T9 n ⟨64,.code f84b,[],⟨initTm 0 #[jI x],hq []⟩⟩).s.H Tryz.f84.results=some v:=by kernel_rfl)(hl:subG 0 (goS Tryz.prog T9 n ⟨64,.code f84b,[],⟨initTm 0 #[jI x],hq []⟩⟩).s.H [] 0 [] [] []=true:=by kernel_rfl)(hw:rn2 (emOf []) v=some v:=by kernel_rfl)(ho:T9.orc 84 #[jI x].toList=none:=by kernel_rfl):SCall Tryz.prog T9 84 #[jI x] (hq []) fun r h=>r=v∧h=hq []:=by
 refine scall_sd 64 _ 0 ho f84_fn f84_body rfl rfl rfl fun X hX=>?_
 exact sd_run n (sdY v hX [] [] True.intro ⟨rfl,rfl⟩ he hp hv hl rfl hw)
set_option maxHeartbeats 1000000 in
theorem size2_s(op:Int):SCall Tryz.prog T9 84 #[jI op] (hq []) fun v h=>v=jI (sizeZ op)∧h=hq []:=by
 rcases named_cases op with h|h|h|h|h|h|rfl|rfl|rfl|rfl|rfl|rfl|rfl|rfl|rfl|rfl|rfl|rfl|rfl|rfl|rfl|rfl|rfl|rfl|rfl|rfl|rfl|rfl|rfl|rfl|rfl|rfl|rfl|rfl|rfl|rfl|rfl|rfl|rfl|rfl|rfl|rfl|rfl|rfl|rfl|rfl
 ·refine zS Tryz.f84 f84b 64 0 fun X hX=>(zN 11 5 (op:Int) 2 (zN 8 8 (op:Int) 1 (zF 3 11 ((op:Int)≥32) (zN 8 19 (op:Int) 66 (zN 4 23 (op:Int) 67 (zF 9 27 ((op:Int)≥0) (zF 7 34 ((op:Int)≥16) (zN 8 42 (op:Int) 39 (zN 4 46 (op:Int) 40 (zF 4 50 ((op:Int)≥48) (zF 8 58 ((op:Int)≥64) (sd_run 18 ?_))))))))))))
  refine zY (jI 0) hX [] ⟨(congrArg _ (size_gap zo).symm),rfl⟩
 ·refine zS Tryz.f84 f84b 64 0 fun X hX=>(zN 11 5 (op:Int) 2 (zN 8 8 (op:Int) 1 (zF 3 11 ((op:Int)≥32) (zN 8 19 (op:Int) 66 (zN 4 23 (op:Int) 67 (zT 9 27 ((op:Int)≥0) (zF 3 30 ((op:Int)≤8) (zF 4 34 ((op:Int)≥16) (zN 8 42 (op:Int) 39 (zN 4 46 (op:Int) 40 (zF 4 50 ((op:Int)≥48) (zF 8 58 ((op:Int)≥64) (sd_run 18 ?_)))))))))))))
  refine zY (jI 0) hX [] ⟨(congrArg _ (size_gap zo).symm),rfl⟩
 ·refine zS Tryz.f84 f84b 64 0 fun X hX=>(zN 11 5 (op:Int) 2 (zN 8 8 (op:Int) 1 (zF 3 11 ((op:Int)≥32) (zN 8 19 (op:Int) 66 (zN 4 23 (op:Int) 67 (zT 9 27 ((op:Int)≥0) (zF 3 30 ((op:Int)≤8) (zT 4 34 ((op:Int)≥16) (zF 3 37 ((op:Int)≤25) (zN 5 42 (op:Int) 39 (zN 4 46 (op:Int) 40 (zF 4 50 ((op:Int)≥48) (zF 8 58 ((op:Int)≥64) (sd_run 18 ?_))))))))))))))
  refine zY (jI 0) hX [] ⟨(congrArg _ (size_gap zo).symm),rfl⟩
 ·refine zS Tryz.f84 f84b 64 0 fun X hX=>(zN 11 5 (op:Int) 2 (zN 8 8 (op:Int) 1 (zT 3 11 ((op:Int)≥32) (zF 3 14 ((op:Int)≤38) (zN 5 19 (op:Int) 66 (zN 4 23 (op:Int) 67 (zT 9 27 ((op:Int)≥0) (zF 3 30 ((op:Int)≤8) (zT 4 34 ((op:Int)≥16) (zF 3 37 ((op:Int)≤25) (zN 5 42 (op:Int) 39 (zN 4 46 (op:Int) 40 (zF 4 50 ((op:Int)≥48) (zF 8 58 ((op:Int)≥64) (sd_run 18 ?_)))))))))))))))
  refine zY (jI 0) hX [] ⟨(congrArg _ (size_gap zo).symm),rfl⟩
 ·refine zS Tryz.f84 f84b 64 0 fun X hX=>(zN 11 5 (op:Int) 2 (zN 8 8 (op:Int) 1 (zT 3 11 ((op:Int)≥32) (zF 3 14 ((op:Int)≤38) (zN 5 19 (op:Int) 66 (zN 4 23 (op:Int) 67 (zT 9 27 ((op:Int)≥0) (zF 3 30 ((op:Int)≤8) (zT 4 34 ((op:Int)≥16) (zF 3 37 ((op:Int)≤25) (zN 5 42 (op:Int) 39 (zN 4 46 (op:Int) 40 (zT 4 50 ((op:Int)≥48) (zF 3 53 ((op:Int)≤53) (zF 5 58 ((op:Int)≥64) (sd_run 18 ?_))))))))))))))))
  refine zY (jI 0) hX [] ⟨(congrArg _ (size_gap zo).symm),rfl⟩
 ·refine zS Tryz.f84 f84b 64 0 fun X hX=>(zN 11 5 (op:Int) 2 (zN 8 8 (op:Int) 1 (zT 3 11 ((op:Int)≥32) (zF 3 14 ((op:Int)≤38) (zN 5 19 (op:Int) 66 (zN 4 23 (op:Int) 67 (zT 9 27 ((op:Int)≥0) (zF 3 30 ((op:Int)≤8) (zT 4 34 ((op:Int)≥16) (zF 3 37 ((op:Int)≤25) (zN 5 42 (op:Int) 39 (zN 4 46 (op:Int) 40 (zT 4 50 ((op:Int)≥48) (zF 3 53 ((op:Int)≤53) (zT 5 58 ((op:Int)≥64) (zF 3 61 ((op:Int)≤69) (sd_run 15 ?_)))))))))))))))))
  refine zY (jI 0) hX [] ⟨(congrArg _ (size_gap zo).symm),rfl⟩
 ·exact lit84 91 (.int .i64 1)
 ·exact lit84 47 (.int .i64 2)
 ·exact lit84 23 (.int .i64 5)
 ·exact lit84 91 (.int .i64 1)
 ·exact lit84 91 (.int .i64 1)
 ·exact lit84 91 (.int .i64 1)
 ·exact lit84 91 (.int .i64 1)
 ·exact lit84 91 (.int .i64 1)
 ·exact lit84 91 (.int .i64 1)
 ·exact lit84 91 (.int .i64 1)
 ·exact lit84 91 (.int .i64 1)
 ·exact lit84 91 (.int .i64 1)
 ·exact lit84 91 (.int .i64 1)
 ·exact lit84 91 (.int .i64 1)
 ·exact lit84 91 (.int .i64 1)
 ·exact lit84 91 (.int .i64 1)
 ·exact lit84 91 (.int .i64 1)
 ·exact lit84 91 (.int .i64 1)
 ·exact lit84 91 (.int .i64 1)
 ·exact lit84 47 (.int .i64 2)
 ·exact lit84 47 (.int .i64 2)
 ·exact lit84 47 (.int .i64 2)
 ·exact lit84 47 (.int .i64 2)
 ·exact lit84 47 (.int .i64 2)
 ·exact lit84 47 (.int .i64 2)
 ·exact lit84 47 (.int .i64 2)
 ·exact lit84 91 (.int .i64 1)
 ·exact lit84 91 (.int .i64 1)
 ·exact lit84 91 (.int .i64 1)
 ·exact lit84 91 (.int .i64 1)
 ·exact lit84 91 (.int .i64 1)
 ·exact lit84 91 (.int .i64 1)
 ·exact lit84 91 (.int .i64 1)
 ·exact lit84 91 (.int .i64 1)
 ·exact lit84 91 (.int .i64 1)
 ·exact lit84 91 (.int .i64 1)
 ·exact lit84 47 (.int .i64 2)
 ·exact lit84 47 (.int .i64 2)
 ·exact lit84 91 (.int .i64 1)
 ·exact lit84 91 (.int .i64 1)
def sp84:List Value→Option Value
 | [.int .i64 op]=>some (.int .i64 (sizeZ op))
 |_=>none
noncomputable def T10:Tab:={ T9 with orc:=addOrc T9.orc 84 sp84 }
theorem ok_T10[Bs]:ProgOk Tryz.prog T10:=ok_T9.know 84 sp84 fun args v h=>by
 unfold sp84 at h;split at h
 ·rename_i op;cases h;exact⟨rfl,rfl,SCall.data (size2_s op) rfl rfl⟩
 ·cases h
instance:OrcDat T10:=orcDat_add inferInstance 84 sp84 fun l v h=>by
 unfold sp84 at h;split at h
 ·cases h;exact⟨rfl,rfl⟩
 ·cases h
noncomputable def f48b:Code:=Tryz.f48.body.getD .skip
theorem plainB2_s(op:Int):SCall Tryz.prog T10 48 #[jI op] (hq []) fun v h=>v=.bool (plainB op)∧h=hq []:=by
 refine zS Tryz.f48 f48b 29 0 fun X hX=>?_
 refine zB 10 5 (decide ((op:Int)≥0)) (fun hc1=>?_) fun hc1=>?_
 ·refine zB 4 9 (decide ((op:Int)≤8)) (fun hc2=>?_) fun hc2=>?_
  ·refine sd_run 23 ?_;simp only[bd]at hc1 hc2;refine zY (.bool true) hX [] ⟨(by congr 1;unfold plainB;rw[ag];simp;omega),rfl⟩
  ·refine zB 3 12 (decide ((op:Int)≥16)) (fun hc3=>?_) fun hc3=>?_
   ·refine zB 4 16 (decide ((op:Int)≤25)) (fun hc4=>?_) fun hc4=>?_
    ·refine zB 5 21 ((op:Int) != 24) (fun hc5=>?_) fun hc5=>?_
     ·refine sd_run 11 ?_;simp only[bd]at hc1 hc2 hc3 hc4 hc5;refine zY (.bool true) hX [] ⟨(by congr 1;unfold plainB;rw[ag];simp;omega),rfl⟩
     ·refine zB 3 24 (decide ((op:Int)≥32)) (fun hc6=>?_) fun hc6=>?_
      ·refine zB 8 2 (decide ((op:Int)≤40)) (fun hc7=>?_) fun hc7=>?_
       ·simp only[bd]at hc1 hc2 hc3 hc4 hc5 hc6 hc7;refine zY (.bool true) hX [] ⟨(by congr 1;unfold plainB;rw[ag];simp;omega),rfl⟩
       ·simp only[bd]at hc1 hc2 hc3 hc4 hc5 hc6 hc7;refine zY (.bool false) hX [] ⟨(by congr 1;unfold plainB;rw[ag];simp;omega),rfl⟩
      ·refine sd_run 8 ?_;simp only[bd]at hc1 hc2 hc3 hc4 hc5 hc6;refine zY (.bool false) hX [] ⟨(by congr 1;unfold plainB;rw[ag];simp;omega),rfl⟩
    ·refine zB 8 24 (decide ((op:Int)≥32)) (fun hc8=>?_) fun hc8=>?_
     ·refine zB 8 2 (decide ((op:Int)≤40)) (fun hc9=>?_) fun hc9=>?_
      ·simp only[bd]at hc1 hc2 hc3 hc4 hc8 hc9;refine zY (.bool true) hX [] ⟨(by congr 1;unfold plainB;rw[ag];simp;omega),rfl⟩
      ·simp only[bd]at hc1 hc2 hc3 hc4 hc8 hc9;refine zY (.bool false) hX [] ⟨(by congr 1;unfold plainB;rw[ag];simp;omega),rfl⟩
     ·refine sd_run 8 ?_;simp only[bd]at hc1 hc2 hc3 hc4 hc8;refine zY (.bool false) hX [] ⟨(by congr 1;unfold plainB;rw[ag];simp;omega),rfl⟩
   ·refine zB 12 24 (decide ((op:Int)≥32)) (fun hc10=>?_) fun hc10=>?_
    ·refine zB 8 2 (decide ((op:Int)≤40)) (fun hc11=>?_) fun hc11=>?_
     ·simp only[bd]at hc1 hc2 hc3 hc10 hc11;refine zY (.bool true) hX [] ⟨(by congr 1;unfold plainB;rw[ag];simp;omega),rfl⟩
     ·simp only[bd]at hc1 hc2 hc3 hc10 hc11;refine zY (.bool false) hX [] ⟨(by congr 1;unfold plainB;rw[ag];simp;omega),rfl⟩
    ·refine sd_run 8 ?_;simp only[bd]at hc1 hc2 hc3 hc10;refine zY (.bool false) hX [] ⟨(by congr 1;unfold plainB;rw[ag];simp;omega),rfl⟩
 ·refine zB 7 12 (decide ((op:Int)≥16)) (fun hc12=>?_) fun hc12=>?_
  ·refine zB 4 16 (decide ((op:Int)≤25)) (fun hc13=>?_) fun hc13=>?_
   ·refine zB 5 21 ((op:Int) != 24) (fun hc14=>?_) fun hc14=>?_
    ·refine sd_run 11 ?_;simp only[bd]at hc1 hc12 hc13 hc14;refine zY (.bool true) hX [] ⟨(by congr 1;unfold plainB;rw[ag];simp;omega),rfl⟩
    ·refine zB 3 24 (decide ((op:Int)≥32)) (fun hc15=>?_) fun hc15=>?_
     ·refine zB 8 2 (decide ((op:Int)≤40)) (fun hc16=>?_) fun hc16=>?_
      ·simp only[bd]at hc1 hc12 hc13 hc14 hc15 hc16;refine zY (.bool true) hX [] ⟨(by congr 1;unfold plainB;rw[ag];simp;omega),rfl⟩
      ·simp only[bd]at hc1 hc12 hc13 hc14 hc15 hc16;refine zY (.bool false) hX [] ⟨(by congr 1;unfold plainB;rw[ag];simp;omega),rfl⟩
     ·refine sd_run 8 ?_;simp only[bd]at hc1 hc12 hc13 hc14 hc15;refine zY (.bool false) hX [] ⟨(by congr 1;unfold plainB;rw[ag];simp;omega),rfl⟩
   ·refine zB 8 24 (decide ((op:Int)≥32)) (fun hc17=>?_) fun hc17=>?_
    ·refine zB 8 2 (decide ((op:Int)≤40)) (fun hc18=>?_) fun hc18=>?_
     ·simp only[bd]at hc1 hc12 hc13 hc17 hc18;refine zY (.bool true) hX [] ⟨(by congr 1;unfold plainB;rw[ag];simp;omega),rfl⟩
     ·simp only[bd]at hc1 hc12 hc13 hc17 hc18;refine zY (.bool false) hX [] ⟨(by congr 1;unfold plainB;rw[ag];simp;omega),rfl⟩
    ·refine sd_run 8 ?_;simp only[bd]at hc1 hc12 hc13 hc17;refine zY (.bool false) hX [] ⟨(by congr 1;unfold plainB;rw[ag];simp;omega),rfl⟩
  ·refine zB 12 24 (decide ((op:Int)≥32)) (fun hc19=>?_) fun hc19=>?_
   ·refine zB 8 2 (decide ((op:Int)≤40)) (fun hc20=>?_) fun hc20=>?_
    ·simp only[bd]at hc1 hc12 hc19 hc20;refine zY (.bool true) hX [] ⟨(by congr 1;unfold plainB;rw[ag];simp;omega),rfl⟩
    ·simp only[bd]at hc1 hc12 hc19 hc20;refine zY (.bool false) hX [] ⟨(by congr 1;unfold plainB;rw[ag];simp;omega),rfl⟩
   ·refine sd_run 8 ?_;simp only[bd]at hc1 hc12 hc19;refine zY (.bool false) hX [] ⟨(by congr 1;unfold plainB;rw[ag];simp;omega),rfl⟩
def sp48:List Value→Option Value
 | [.int .i64 op]=>some (.bool (plainB op))
 |_=>none
noncomputable def T11:Tab:={ T10 with orc:=addOrc T10.orc 48 sp48 }
theorem ok_T11[Bs]:ProgOk Tryz.prog T11:=ok_T10.know 48 sp48 fun args v h=>by
 unfold sp48 at h;split at h
 ·rename_i op;cases h;exact⟨rfl,rfl,SCall.data (plainB2_s op) rfl rfl⟩
 ·cases h
instance:OrcDat T11:=orcDat_add inferInstance 48 sp48 fun l v h=>by
 unfold sp48 at h;split at h
 ·cases h;exact⟨rfl,rfl⟩
 ·cases h
noncomputable def f49b:Code:=Tryz.f49.body.getD .skip
theorem endsB2_s(op:Int):SCall Tryz.prog T11 49 #[jI op] (hq []) fun v h=>v=.bool (endsB op)∧h=hq []:=by
 refine zS Tryz.f49 f49b 17 0 fun X hX=>?_
 refine zB 10 5 (decide ((op:Int)≥32)) (fun hc1=>?_) fun hc1=>?_
 ·refine zB 4 9 (decide ((op:Int)≤40)) (fun hc2=>?_) fun hc2=>?_
  ·refine sd_run 11 ?_;simp only[bd]at hc1 hc2;refine zY (.bool true) hX [] ⟨(by congr 1;unfold endsB;rw[ag];simp;omega),rfl⟩
  ·refine zB 3 12 (decide ((op:Int)≥64)) (fun hc3=>?_) fun hc3=>?_
   ·refine zB 8 2 (decide ((op:Int)≤69)) (fun hc4=>?_) fun hc4=>?_
    ·simp only[bd]at hc1 hc2 hc3 hc4;refine zY (.bool true) hX [] ⟨(by congr 1;unfold endsB;rw[ag];simp;omega),rfl⟩
    ·simp only[bd]at hc1 hc2 hc3 hc4;refine zY (.bool false) hX [] ⟨(by congr 1;unfold endsB;rw[ag];simp;omega),rfl⟩
   ·refine sd_run 8 ?_;simp only[bd]at hc1 hc2 hc3;refine zY (.bool false) hX [] ⟨(by congr 1;unfold endsB;rw[ag];simp;omega),rfl⟩
 ·refine zB 7 12 (decide ((op:Int)≥64)) (fun hc5=>?_) fun hc5=>?_
  ·refine zB 8 2 (decide ((op:Int)≤69)) (fun hc6=>?_) fun hc6=>?_
   ·simp only[bd]at hc1 hc5 hc6;refine zY (.bool true) hX [] ⟨(by congr 1;unfold endsB;rw[ag];simp;omega),rfl⟩
   ·simp only[bd]at hc1 hc5 hc6;refine zY (.bool false) hX [] ⟨(by congr 1;unfold endsB;rw[ag];simp;omega),rfl⟩
  ·refine sd_run 8 ?_;simp only[bd]at hc1 hc5;refine zY (.bool false) hX [] ⟨(by congr 1;unfold endsB;rw[ag];simp;omega),rfl⟩
def sp49:List Value→Option Value
 | [.int .i64 op]=>some (.bool (endsB op))
 |_=>none
noncomputable def T12:Tab:={ T11 with orc:=addOrc T11.orc 49 sp49 }
theorem ok_T12[Bs]:ProgOk Tryz.prog T12:=ok_T11.know 49 sp49 fun args v h=>by
 unfold sp49 at h;split at h
 ·rename_i op;cases h;exact⟨rfl,rfl,SCall.data (endsB2_s op) rfl rfl⟩
 ·cases h
instance:OrcDat T12:=orcDat_add inferInstance 49 sp49 fun l v h=>by
 unfold sp49 at h;split at h
 ·cases h;exact⟨rfl,rfl⟩
 ·cases h
def regB(n:Int):Bool:=decide (0≤n)&&decide (n<16)
def hrB(op rd ra rb im:Int):Bool :=
 (if op=0 then decide (rd=0∧ra=0∧rb=0∧im=0)else if op=1 then decide (ra=0∧rb=0)else if op=2 then decide (rb=0∧im=0)else if 3≤op∧op≤13 then decide (im=0)
  else if op=14 then decide (rb=0)else if op=15 then decide (rd=0)else if op=16∨op=17 then decide (rd=0∧rb=0)else if op=18∨op=19 then decide (rd=0∧ra=0∧rb=0)else false)&&(regB rd&&(regB ra&&regB rb))
noncomputable def f102b:Code:=Tryz.f102.body.getD .skip
theorem regB_s(n:Int):SCall Tryz.prog T12 102 #[jI n] (hq []) fun v h=>v=.bool (regB n)∧h=hq []:=by
 refine zS Tryz.f102 f102b 9 0 fun X hX=>?_
 refine zB 10 5 (decide ((n:Int)≥0)) (fun hc1=>?_) fun hc1=>?_
 ·refine zB 7 2 (decide ((n:Int)<16)) (fun hc2=>?_) fun hc2=>?_
  ·simp only[bd]at hc1 hc2;refine zY (.bool true) hX [] ⟨(by congr 1;unfold regB;rw[ag];simp;omega),rfl⟩
  ·simp only[bd]at hc1 hc2;refine zY (.bool false) hX [] ⟨(by congr 1;unfold regB;rw[ag];simp;omega),rfl⟩
 ·refine sd_run 7 ?_;simp only[bd]at hc1;refine zY (.bool false) hX [] ⟨(by congr 1;unfold regB;rw[ag];simp;omega),rfl⟩
def sp102:List Value→Option Value
 | [.int .i64 n]=>some (.bool (regB n))
 |_=>none
noncomputable def T13:Tab:={ T12 with orc:=addOrc T12.orc 102 sp102 }
theorem ok_T13[Bs]:ProgOk Tryz.prog T13:=ok_T12.know 102 sp102 fun args v h=>by
 unfold sp102 at h;split at h
 ·rename_i n;cases h;exact⟨rfl,rfl,SCall.data (regB_s n) rfl rfl⟩
 ·cases h
instance:OrcDat T13:=orcDat_add inferInstance 102 sp102 fun l v h=>by
 unfold sp102 at h;split at h
 ·cases h;exact⟨rfl,rfl⟩
 ·cases h
theorem hr_cases{op rd ra rb im:Int}(h:hrB op rd ra rb im=true):(regB rd=true∧regB ra=true∧regB rb=true)∧((op=0∧rd=0∧ra=0∧rb=0∧im=0)∨(op=1∧ra=0∧rb=0)∨(op=2∧rb=0∧im=0)∨((3≤op∧op≤13)∧im=0)∨(op=14∧rb=0)∨(op=15∧rd=0)∨(op=16∧rd=0∧rb=0)∨(op=17∧rd=0∧rb=0)∨(op=18∧rd=0∧ra=0∧rb=0)∨(op=19∧rd=0∧ra=0∧rb=0)):=by
 unfold hrB at h;rw[ab,ab,ab]at h;refine⟨h.2,?_⟩;replace h:=h.1
 by_cases e0:op=0
 ·rw[if_pos e0,ap]at h;exact .inl ⟨e0,h⟩
 rw[if_neg e0]at h
 by_cases e1:op=1
 ·rw[if_pos e1,ap]at h;exact .inr (.inl ⟨e1,h⟩)
 rw[if_neg e1]at h
 by_cases e2:op=2
 ·rw[if_pos e2,ap]at h;exact .inr (.inr (.inl ⟨e2,h⟩))
 rw[if_neg e2]at h
 by_cases e3:3≤op∧op≤13
 ·rw[if_pos e3,ap]at h;exact .inr (.inr (.inr (.inl ⟨e3,h⟩)))
 rw[if_neg e3]at h
 by_cases e4:op=14
 ·rw[if_pos e4,ap]at h;exact .inr (.inr (.inr (.inr (.inl ⟨e4,h⟩))))
 rw[if_neg e4]at h
 by_cases e5:op=15
 ·rw[if_pos e5,ap]at h;exact .inr (.inr (.inr (.inr (.inr (.inl ⟨e5,h⟩)))))
 rw[if_neg e5]at h
 by_cases e6:op=16∨op=17
 ·rw[if_pos e6,ap]at h;exact .inr (.inr (.inr (.inr (.inr (.inr (e6.elim (fun q=>.inl ⟨q,h⟩) fun q=>.inr (.inl ⟨q,h⟩)))))))
 rw[if_neg e6]at h
 by_cases e7:op=18∨op=19
 ·rw[if_pos e7,ap]at h;exact .inr (.inr (.inr (.inr (.inr (.inr (.inr (.inr (e7.elim (fun q=>.inl ⟨q,h⟩) fun q=>.inr ⟨q,h⟩))))))))
 rw[if_neg e7]at h;cases h
noncomputable def f74b:Code:=Tryz.f74.body.getD .skip
theorem hr_s(op rd ra rb im:Int)(h:hrB op rd ra rb im=true):SCall Tryz.prog T13 74 #[(c5A op rd ra rb im)] (hq []) fun v h=>v=.bool true∧h=hq []:=by
 obtain⟨⟨g1,g2,g3⟩,h⟩:=hr_cases h;rcases h with⟨rfl,rfl,rfl,rfl,rfl⟩|⟨rfl,rfl,rfl⟩|⟨rfl,rfl,rfl⟩|⟨ho,rfl⟩|⟨rfl,rfl⟩|⟨rfl,rfl⟩|⟨rfl,rfl,rfl⟩|⟨rfl,rfl,rfl⟩|⟨rfl,rfl,rfl,rfl⟩|⟨rfl,rfl,rfl,rfl⟩
 ·refine zS Tryz.f74 f74b 31 0 fun X hX=>(sd_run 68 (sd_ask 19 (.bool (regB 0)) 102 #[jI 0] kr kr kr rfl (sd_see 19 (.bool true) (see_bool kr rfl) (sd_run 4 (sd_ask 24 (.bool (regB 0)) 102 #[jI 0] kr kr kr rfl (sd_see 24 (.bool true) (see_bool kr rfl) (sd_run 4 (sd_ask 29 (.bool (regB 0)) 102 #[jI 0] kr kr kr rfl (sd_see 29 (.bool true) (see_bool kr rfl) (sd_run 5 ?_))))))))))
  refine zY (.bool true) hX [] ⟨rfl,rfl⟩
 ·refine zS Tryz.f74 f74b 31 0 fun X hX=>(sd_run 46 (sd_drawQ [(3,5)] kr kr ?_))
  refine sq_run 3 ?_;refine sq_rd 20 (jU im) (pT 1 4) 25 kr kr kr kr (veq_int _ _) kr ?_;refine sq_run 1 ?_;refine sq_sto (hq [oB 81 (c5L 1 rd 0 0 im),oB 81 (c5L 1 rd 0 0 im),oB 81 (c5L 0 0 0 0 0),oB 81 (c5L 1 rd 0 0 0)]) kr kr kr kr kr ⟨kr,kr,kr⟩ ?_;refine sq_run 2 ?_;refine sq_end kr ?_;refine sd_run 26 (sd_see 14 (.bool true) (see_bool (x:=(((1:Int) == 1)&&(((rd:Int) == rd)&&(((0:Int) == 0)&&(((0:Int) == 0)&&(((im:Int) == im)&&true)))))) kr (by simp)) (sd_run 4 (sd_ask 19 (.bool (regB rd)) 102 #[jI rd] kr kr kr rfl (sd_see 19 (.bool true) (see_bool kr g1) (sd_run 4 (sd_ask 24 (.bool (regB 0)) 102 #[jI 0] kr kr kr rfl (sd_see 24 (.bool true) (see_bool kr rfl) (sd_run 4 (sd_ask 29 (.bool (regB 0)) 102 #[jI 0] kr kr kr rfl (sd_see 29 (.bool true) (see_bool kr rfl) (sd_run 5 ?_)))))))))));refine zY (.bool true) hX [] ⟨rfl,rfl⟩
 ·refine zS Tryz.f74 f74b 31 0 fun X hX=>(sd_run 55 (sd_drawQ [(3,5)] kr kr ?_))
  refine sq_run 3 ?_;refine sq_rd 30 (jI ra) (pT 1 2) 3 kr kr kr kr (veq_int _ _) kr ?_;refine sq_run 1 ?_;refine sq_sto (hq [oB 81 (c5L 2 rd ra 0 0),oB 81 (c5L 2 rd ra 0 0),oB 81 (c5L 0 0 0 0 0),oB 81 (c5L 2 rd 0 0 0)]) kr kr kr kr kr ⟨kr,kr,kr⟩ ?_;refine sq_run 2 ?_;refine sq_end kr ?_;refine sd_run 26 (sd_see 14 (.bool true) (see_bool (x:=(((2:Int) == 2)&&(((rd:Int) == rd)&&(((ra:Int) == ra)&&(((0:Int) == 0)&&(((0:Int) == 0)&&true)))))) kr (by simp)) (sd_run 4 (sd_ask 19 (.bool (regB rd)) 102 #[jI rd] kr kr kr rfl (sd_see 19 (.bool true) (see_bool kr g1) (sd_run 4 (sd_ask 24 (.bool (regB ra)) 102 #[jI ra] kr kr kr rfl (sd_see 24 (.bool true) (see_bool kr g2) (sd_run 4 (sd_ask 29 (.bool (regB 0)) 102 #[jI 0] kr kr kr rfl (sd_see 29 (.bool true) (see_bool kr rfl) (sd_run 5 ?_)))))))))));refine zY (.bool true) hX [] ⟨rfl,rfl⟩
 ·refine zS Tryz.f74 f74b 31 0 fun X hX=>(zN 33 12 (op:Int) 0 (zN 9 16 (op:Int) 1 (zN 9 26 (op:Int) 2 (zT 9 36 ((op:Int)≥3) (zT 4 40 ((op:Int)≤13) (sd_run 5 (sd_drawQ [(3,7),(5,7),(5,9)] kr kr ?_)))))))
  refine sq_run 3 ?_;refine sq_rd 45 (jI ra) (pT 1 2) 3 kr kr kr kr (veq_int _ _) kr ?_;refine sq_run 1 ?_;refine sq_rd 47 (jI rb) (pT 1 3) 3 kr kr kr kr (veq_int _ _) kr ?_;refine sq_run 1 ?_;refine sq_sto (hq [oB 81 (c5L op rd ra rb 0),oB 81 (c5L op rd ra rb 0),oB 81 (c5L 0 0 0 0 0),oB 81 (c5L op rd 0 0 0)]) kr kr kr kr kr ⟨kr,kr,kr⟩ ?_;refine sq_run 1 ?_;refine sq_sto (hq [oB 81 (c5L op rd ra rb 0),oB 81 (c5L op rd ra rb 0),oB 81 (c5L 0 0 0 0 0),oB 81 (c5L op rd ra 0 0)]) kr kr kr kr kr ⟨kr,kr,kr⟩ ?_;refine sq_run 2 ?_;refine sq_end kr ?_;refine sd_run 26 (sd_see 14 (.bool true) (see_bool (x:=(((op:Int) == op)&&(((rd:Int) == rd)&&(((ra:Int) == ra)&&(((rb:Int) == rb)&&(((0:Int) == 0)&&true)))))) kr (by simp)) (sd_run 4 (sd_ask 19 (.bool (regB rd)) 102 #[jI rd] kr kr kr rfl (sd_see 19 (.bool true) (see_bool kr g1) (sd_run 4 (sd_ask 24 (.bool (regB ra)) 102 #[jI ra] kr kr kr rfl (sd_see 24 (.bool true) (see_bool kr g2) (sd_run 4 (sd_ask 29 (.bool (regB rb)) 102 #[jI rb] kr kr kr rfl (sd_see 29 (.bool true) (see_bool kr g3) (sd_run 5 ?_)))))))))));refine zY (.bool true) hX [] ⟨rfl,rfl⟩
 ·refine zS Tryz.f74 f74b 31 0 fun X hX=>(sd_run 78 (sd_drawQ [(3,7),(5,7),(5,9)] kr kr ?_))
  refine sq_run 3 ?_;refine sq_rd 58 (jI ra) (pT 1 2) 3 kr kr kr kr (veq_int _ _) kr ?_;refine sq_run 1 ?_;refine sq_rd 60 (jU im) (pT 1 4) 25 kr kr kr kr (veq_int _ _) kr ?_;refine sq_run 1 ?_;refine sq_sto (hq [oB 81 (c5L 14 rd ra 0 im),oB 81 (c5L 14 rd ra 0 im),oB 81 (c5L 0 0 0 0 0),oB 81 (c5L 14 rd 0 0 0)]) kr kr kr kr kr ⟨kr,kr,kr⟩ ?_;refine sq_run 1 ?_;refine sq_sto (hq [oB 81 (c5L 14 rd ra 0 im),oB 81 (c5L 14 rd ra 0 im),oB 81 (c5L 0 0 0 0 0),oB 81 (c5L 14 rd ra 0 0)]) kr kr kr kr kr ⟨kr,kr,kr⟩ ?_;refine sq_run 2 ?_;refine sq_end kr ?_;refine sd_run 26 (sd_see 14 (.bool true) (see_bool (x:=(((14:Int) == 14)&&(((rd:Int) == rd)&&(((ra:Int) == ra)&&(((0:Int) == 0)&&(((im:Int) == im)&&true)))))) kr (by simp)) (sd_run 4 (sd_ask 19 (.bool (regB rd)) 102 #[jI rd] kr kr kr rfl (sd_see 19 (.bool true) (see_bool kr g1) (sd_run 4 (sd_ask 24 (.bool (regB ra)) 102 #[jI ra] kr kr kr rfl (sd_see 24 (.bool true) (see_bool kr g2) (sd_run 4 (sd_ask 29 (.bool (regB 0)) 102 #[jI 0] kr kr kr rfl (sd_see 29 (.bool true) (see_bool kr rfl) (sd_run 5 ?_)))))))))));refine zY (.bool true) hX [] ⟨rfl,rfl⟩
 ·refine zS Tryz.f74 f74b 31 0 fun X hX=>(sd_run 87 (sd_drawQ [(3,7),(5,7),(5,9)] kr kr ?_))
  refine sq_run 3 ?_;refine sq_rd 71 (jI rb) (pT 1 3) 3 kr kr kr kr (veq_int _ _) kr ?_;refine sq_run 1 ?_;refine sq_rd 73 (jU im) (pT 1 4) 25 kr kr kr kr (veq_int _ _) kr ?_;refine sq_run 1 ?_;refine sq_sto (hq [oB 81 (c5L 15 0 ra rb im),oB 81 (c5L 15 0 ra rb im),oB 81 (c5L 0 0 0 0 0),oB 81 (c5L 15 0 ra 0 0)]) kr kr kr kr kr ⟨kr,kr,kr⟩ ?_;refine sq_run 1 ?_;refine sq_sto (hq [oB 81 (c5L 15 0 ra rb im),oB 81 (c5L 15 0 ra rb im),oB 81 (c5L 0 0 0 0 0),oB 81 (c5L 15 0 ra rb 0)]) kr kr kr kr kr ⟨kr,kr,kr⟩ ?_;refine sq_run 2 ?_;refine sq_end kr ?_;refine sd_run 26 (sd_see 14 (.bool true) (see_bool (x:=(((15:Int) == 15)&&(((0:Int) == 0)&&(((ra:Int) == ra)&&(((rb:Int) == rb)&&(((im:Int) == im)&&true)))))) kr (by simp)) (sd_run 4 (sd_ask 19 (.bool (regB 0)) 102 #[jI 0] kr kr kr rfl (sd_see 19 (.bool true) (see_bool kr rfl) (sd_run 4 (sd_ask 24 (.bool (regB ra)) 102 #[jI ra] kr kr kr rfl (sd_see 24 (.bool true) (see_bool kr g2) (sd_run 4 (sd_ask 29 (.bool (regB rb)) 102 #[jI rb] kr kr kr rfl (sd_see 29 (.bool true) (see_bool kr g3) (sd_run 5 ?_)))))))))));refine zY (.bool true) hX [] ⟨rfl,rfl⟩
 ·refine zS Tryz.f74 f74b 31 0 fun X hX=>(sd_run 101 (sd_drawQ [(3,5)] kr kr ?_))
  refine sq_run 3 ?_;refine sq_rd 89 (jU im) (pT 1 4) 25 kr kr kr kr (veq_int _ _) kr ?_;refine sq_run 1 ?_;refine sq_sto (hq [oB 81 (c5L 16 0 ra 0 im),oB 81 (c5L 16 0 ra 0 im),oB 81 (c5L 0 0 0 0 0),oB 81 (c5L 16 0 ra 0 0)]) kr kr kr kr kr ⟨kr,kr,kr⟩ ?_;refine sq_run 2 ?_;refine sq_end kr ?_;refine sd_run 26 (sd_see 14 (.bool true) (see_bool (x:=(((16:Int) == 16)&&(((0:Int) == 0)&&(((ra:Int) == ra)&&(((0:Int) == 0)&&(((im:Int) == im)&&true)))))) kr (by simp)) (sd_run 4 (sd_ask 19 (.bool (regB 0)) 102 #[jI 0] kr kr kr rfl (sd_see 19 (.bool true) (see_bool kr rfl) (sd_run 4 (sd_ask 24 (.bool (regB ra)) 102 #[jI ra] kr kr kr rfl (sd_see 24 (.bool true) (see_bool kr g2) (sd_run 4 (sd_ask 29 (.bool (regB 0)) 102 #[jI 0] kr kr kr rfl (sd_see 29 (.bool true) (see_bool kr rfl) (sd_run 5 ?_)))))))))));refine zY (.bool true) hX [] ⟨rfl,rfl⟩
 ·refine zS Tryz.f74 f74b 31 0 fun X hX=>(sd_run 101 (sd_drawQ [(3,5)] kr kr ?_))
  refine sq_run 3 ?_;refine sq_rd 89 (jU im) (pT 1 4) 25 kr kr kr kr (veq_int _ _) kr ?_;refine sq_run 1 ?_;refine sq_sto (hq [oB 81 (c5L 17 0 ra 0 im),oB 81 (c5L 17 0 ra 0 im),oB 81 (c5L 0 0 0 0 0),oB 81 (c5L 17 0 ra 0 0)]) kr kr kr kr kr ⟨kr,kr,kr⟩ ?_;refine sq_run 2 ?_;refine sq_end kr ?_;refine sd_run 26 (sd_see 14 (.bool true) (see_bool (x:=(((17:Int) == 17)&&(((0:Int) == 0)&&(((ra:Int) == ra)&&(((0:Int) == 0)&&(((im:Int) == im)&&true)))))) kr (by simp)) (sd_run 4 (sd_ask 19 (.bool (regB 0)) 102 #[jI 0] kr kr kr rfl (sd_see 19 (.bool true) (see_bool kr rfl) (sd_run 4 (sd_ask 24 (.bool (regB ra)) 102 #[jI ra] kr kr kr rfl (sd_see 24 (.bool true) (see_bool kr g2) (sd_run 4 (sd_ask 29 (.bool (regB 0)) 102 #[jI 0] kr kr kr rfl (sd_see 29 (.bool true) (see_bool kr rfl) (sd_run 5 ?_)))))))))));refine zY (.bool true) hX [] ⟨rfl,rfl⟩
 ·refine zS Tryz.f74 f74b 31 0 fun X hX=>(sd_run 147 (sd_see 14 (.bool true) (see_bool (x:=(((18:Int) == 18)&&(((0:Int) == 0)&&(((0:Int) == 0)&&(((0:Int) == 0)&&(((im:Int) == im)&&true)))))) kr (by simp)) (sd_run 4 (sd_ask 19 (.bool (regB 0)) 102 #[jI 0] kr kr kr rfl (sd_see 19 (.bool true) (see_bool kr rfl) (sd_run 4 (sd_ask 24 (.bool (regB 0)) 102 #[jI 0] kr kr kr rfl (sd_see 24 (.bool true) (see_bool kr rfl) (sd_run 4 (sd_ask 29 (.bool (regB 0)) 102 #[jI 0] kr kr kr rfl (sd_see 29 (.bool true) (see_bool kr rfl) (sd_run 5 ?_))))))))))))
  refine zY (.bool true) hX [] ⟨rfl,rfl⟩
 ·refine zS Tryz.f74 f74b 31 0 fun X hX=>(sd_run 147 (sd_see 14 (.bool true) (see_bool (x:=(((19:Int) == 19)&&(((0:Int) == 0)&&(((0:Int) == 0)&&(((0:Int) == 0)&&(((im:Int) == im)&&true)))))) kr (by simp)) (sd_run 4 (sd_ask 19 (.bool (regB 0)) 102 #[jI 0] kr kr kr rfl (sd_see 19 (.bool true) (see_bool kr rfl) (sd_run 4 (sd_ask 24 (.bool (regB 0)) 102 #[jI 0] kr kr kr rfl (sd_see 24 (.bool true) (see_bool kr rfl) (sd_run 4 (sd_ask 29 (.bool (regB 0)) 102 #[jI 0] kr kr kr rfl (sd_see 29 (.bool true) (see_bool kr rfl) (sd_run 5 ?_))))))))))))
  refine zY (.bool true) hX [] ⟨rfl,rfl⟩
def sp74:List Value→Option Value
 | [.agg ⟨[.int .i64 op,.int .i64 rd,.int .i64 ra,.int .i64 rb,.int .u32 im]⟩]=>bif hrB op rd ra rb im then some (.bool true)else none
 |_=>none
noncomputable def T14:Tab:={ T13 with orc:=addOrc T13.orc 74 sp74 }
theorem ok_T14[Bs]:ProgOk Tryz.prog T14:=ok_T13.know 74 sp74 fun args v h=>by
 unfold sp74 at h;split at h
 ·rename_i op rd ra rb im;cases hb:(hrB op rd ra rb im)
  ·rw[hb]at h;cases h
  ·rw[hb]at h;cases h;exact⟨rfl,rfl,SCall.data (hr_s op rd ra rb im hb) rfl rfl⟩
 ·cases h
instance:OrcDat T14:=orcDat_add inferInstance 74 sp74 fun l v h=>by
 unfold sp74 at h;split at h
 ·rename_i op rd ra rb im;cases hb:(hrB op rd ra rb im)<;>rw[hb]at h<;>cases h
  exact⟨rfl,rfl⟩
 ·cases h
theorem orc74{op rd ra rb im:Int}(h:hrB op rd ra rb im=true):sp74 [.agg ⟨[.int .i64 op,.int .i64 rd,.int .i64 ra,.int .i64 rb,.int .u32 im]⟩]=some (.bool true):=by
 show(bif hrB op rd ra rb im then _ else _)=_;rw[h];rfl
theorem known_run:answers (.bool true) (evCall Tryz.prog T14 200000 8 #[] ⟨.lf,0⟩)=true:=by kernel_rfl
def sp8:List Value→Option Value
 | []=>some (.bool true)
 |_=>none
noncomputable def T15:Tab:={ T14 with orc:=addOrc T14.orc 8 sp8 }
theorem ok_T15[Bs]:ProgOk Tryz.prog T15:=ok_T14.know 8 sp8 fun args v h=>by
 unfold sp8 at h;split at h
 ·cases h;exact⟨rfl,rfl,acall_answers known_run⟩
 ·cases h
instance:OrcDat T15:=orcDat_add inferInstance 8 sp8 fun l v h=>by
 unfold sp8 at h;split at h
 ·cases h;exact⟨rfl,rfl⟩
 ·cases h
end Ls
end Go.Proofs.YtihacfclecanjaaGreat
