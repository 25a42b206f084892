/- Chapter 22: arguments that come in. -/
import Derived.Test.YtihacfclecanjaaGreatJc
import Derived.SizedLaws
set_option linter.unusedVariables false
set_option linter.unusedSimpArgs false
namespace Go.Proofs.YtihacfclecanjaaGreat
open Go Go.Ev Go.RowKit Go.ChangeShapes Go.WideShapes Go.ChangeAt
set_option maxRecDepth 100000
namespace Ls
theorem own:ownKnob Tryz.prog.godebug=none:=by kernel_rfl
theorem laidOut:laidOutB Tryz.prog=true:=by kernel_rfl
theorem in_ints_w{P:Program}{H:Type}{enc:TypeId × Value→H}{W:World}{r:Reach}{b0:Nat}{t e:TypeId}{kd:IntKind}(ht:P.underlying t=some (.slice e))(he:P.underlying e=some (.int kd))(h1:P.cellsOf e=1){ec:Int→List Value}(hec:∀x,ec x=[.int kd x]){v:Value}{d:DataW H}{ps:List MemPlace}(hv:Value.okWide P W r b0 t v)(h:DataW.Trod enc P W 0 (fun _=>true) true t v d ps):
    ∃l:List Int,InRow W v (tab ec l) l.length∧(∀x∈l,(Lit.int kd x).wf=true)∧((∀n∈d.weights P t,n≤reachBytes)→l.length*P.bytesOf e≤reachBytes):=by
 have hec2:ec=fun x=>[.int kd x]:=funext hec
 subst hec2
 have key:∀(A:Option Addr) (cap:Nat) (l:List Int),v=.slice A l.length cap→RowW W A (l.map (Value.int kd))→l.length≤cap→cap≤maxLen→(A=none→cap=0)→InRow W v (tab (fun x=>[.int kd x]) l) l.length:=fun A cap l e q hl hm hc=>by
  refine⟨A,cap,e,hc,by rw[tab_map];exact q,fun hA=>?_,hl,hm⟩;have:=hc hA;omega
 obtain⟨a0,len,cap,rfl⟩:=okWide_slice ht hv;obtain⟨fuel,hf⟩:=h;rcases open_ints ht he h1 hf with⟨hcs,hx⟩|⟨a,len',cap',zs,hcs,_,hl,hm,hz,hx,hcell,hwz⟩
 ·simp[Value.cells]at hcs;obtain⟨rfl,rfl,rfl⟩:=hcs;exact⟨[],key none 0 [] rfl ⟨.inl ⟨rfl,rfl⟩⟩ (by simp) (by unfold maxLen;omega) (fun _=>rfl),fun _ h=>(by cases h),fun _=>by simp⟩
 ·simp[Value.cells]at hcs;obtain⟨rfl,rfl,rfl⟩:=hcs;simp only[if_true]at hz;have hlen:(zs.take len).length=len:=by simp;omega
  obtain⟨hspot,hb⟩:=has_block ht hv;refine⟨zs.take len,key (some a) cap (zs.take len) (by rw[hlen]) (RowW.of_cells hspot hb fun i x hx=>?_) (by rw[hlen];exact hl) hm (fun h=>by cases h),fun x hx=>hwz x (List.mem_of_mem_take hx),fun hs=>?_⟩
  ·rw[iI,aW]at hx;split at hx
   ·rename_i hi;have hc:=hcell i (by omega);rw[hc,aj];cases hz2:zs[i]? with
    |none=>rw[hz2]at hx;cases hx
    |some y=>rw[hz2]at hx;exact hx
   ·cases hx
  ·injection hx with hd _;subst hd;have:=hs (((lits (H:=H) kd (zs.take len)).length+(lits (H:=H) kd (zs.drop len)).length)*P.bytesOf e) (by simp[DataW.weights,ht]);refine aA (eT _ ?_) this;simp[lits]
theorem in_int{P:Program}{H:Type}{enc:TypeId × Value→H}{W:World}{r:Reach}{b0:Nat}{t:TypeId}{k:IntKind}(ht:P.underlying t=some (.int k)){v:Value}{d:DataW H}{ps:List MemPlace}(hv:Value.okWide P W r b0 t v)(h:DataW.Trod enc P W 0 (fun _=>true) true t v d ps):∃n,v=.int k n∧(Lit.int k n).wf=true:=by
 obtain⟨fuel,hf⟩:=h;obtain⟨n,e,_,w⟩:=DataW.trod_int ht hf;simp only[Value.okWide,ht]at hv;cases v with
 |int k' m=>simp[Value.cells]at e;obtain⟨rfl,rfl⟩:=e;exact⟨_,rfl,w⟩
 |agg cs=>simp[Cell.okWide,Cell.ok,ht]at hv
 |_=>simp[Value.cells]at e
theorem i64_of{l:List Int}(h:∀x∈l,(Lit.int .i64 x).wf=true):∀x∈l,i64B x=true:=fun x hx=>by
 have:=wf_i64 (h x hx);simp[i64B];omega
theorem V32_of{l:List Int}(h:∀x∈l,(Lit.int .u32 x).wf=true):∀x∈l,0≤x∧x<4294967296:=fun x hx=>wf_u32 (h x hx)
theorem wf_u64'{n:Int}(h:(Lit.int .u64 n).wf=true):0≤n∧n<18446744073709551616:=by
 simp[Lit.wf,IntKind.min,IntKind.max,IntKind.signed,IntKind.bits]at h;omega
theorem len_max{W:World}{v:Value}{cs:List Value}{n:Nat}(h:InRow W v cs n):n≤9223372036854775807:=by have:=h.len;unfold maxLen at this;omega
theorem weight_of{H:Type}{P:Program}{ts:List TypeId}{ds:List (DataW H)}(h:(DataW.weightsEach P ts ds).all (· ≤ reachBytes)=true){j:Nat}{t:TypeId}{d:DataW H}(ht:ts[j]? = some t)(hd:ds[j]? = some d):∀n∈d.weights P t,n≤reachBytes:=fun n hn=>by
 have:=ao.1 h _ (DataW.weights_mem_each ht hd n hn);simpa using this
theorem bytes4{n b:Nat}(h:n*b≤reachBytes)(hb:b=4):n*4≤140737488355328:=by
 subst hb;unfold reachBytes at h;omega
theorem mem24{H:Type}{ys:List (DataW H × List MemPlace)}(i:Nat)(hy:ys.length=4){f:TypeId}{h:i<ys.length}(n:Nat)(hn:n∈(ys[i]'h).1.weights Tryz.prog f)(hf:[22,22,22,3][i]? = some f:=by rfl):n∈(DataW.agg (ys.map (·.1))).weights Tryz.prog 24:=by
 unfold DataW.weights;rw[Tryz.underlying24];exact DataW.weights_mem_each (j:=i) hf (by rw[iI,ac h];rfl) n hn
theorem ctypes24:Tryz.prog.cellTypes Tryz.prog.depth 24=some [22,22,22,3]:=by kernel_rfl
theorem open_T24{H:Type}{enc:TypeId × Value→H}{W:World}{r:Reach}{b0:Nat}{v:Value}{d:DataW H}{ps:List MemPlace}(hv:Value.okWide Tryz.prog W r b0 24 v)(h:DataW.Trod enc Tryz.prog W 0 (fun _=>true) true 24 v d ps):
    ∃(u0:Value) (l0:List Int) (u1:Value) (l1:List Int) (u2:Value) (l2:List Int) (o3:Int),v=.agg #[u0,u1,u2,.int .i64 o3]∧InRow W u0 (tab inC l0) l0.length∧(∀x∈l0,(Lit.int .i64 x).wf=true)∧((∀n∈d.weights Tryz.prog 24,n≤reachBytes)→l0.length*Tryz.prog.bytesOf 3≤reachBytes)∧InRow W u1 (tab inC l1) l1.length∧(∀x∈l1,(Lit.int .i64 x).wf=true)∧((∀n∈d.weights Tryz.prog 24,n≤reachBytes)→l1.length*Tryz.prog.bytesOf 3≤reachBytes)∧InRow W u2 (tab inC l2) l2.length∧(∀x∈l2,(Lit.int .i64 x).wf=true)∧((∀n∈d.weights Tryz.prog 24,n≤reachBytes)→l2.length*Tryz.prog.bytesOf 3≤reachBytes)∧(Lit.int .i64 o3).wf=true:=by
 obtain⟨cs,rfl,hsz⟩:=okWide_struct Tryz.underlying24 hv
 have hrow:Row.okWide Tryz.prog W r b0 24 cs:=by
  have h2:=hv;simp only[Value.okWide,Tryz.underlying24]at h2;obtain⟨cs',e,_,h3⟩:=h2;injection e with e;subst e;exact h3
 obtain⟨ts,hts,_,hc⟩:=hrow;rw[ctypes24]at hts;injection hts with hts;subst hts;have hszn:cs.size=4:=hsz.trans (by kernel_rfl);obtain⟨fuel,hf⟩:=h;obtain⟨ys,n',_,hxe,_,hyl,hfl⟩:=DataW.trod_struct Tryz.underlying24 hf;injection hxe with hd9 _;subst hd9;obtain⟨l⟩:=cs
 obtain⟨x0,x1,x2,x3,rfl⟩:∃a0 a1 a2 a3,l=[a0,a1,a2,a3]:=by
  match l,hszn with
  | [a0,a1,a2,a3],_=>exact⟨a0,a1,a2,a3,rfl⟩
 have hyln:ys.length=4:=hyl;obtain⟨u0_,e0,k0⟩:=hc 0 x0 rfl;obtain⟨u1_,e1,k1⟩:=hc 1 x1 rfl;obtain⟨u2_,e2,k2⟩:=hc 2 x2 rfl;obtain⟨u3_,e3,k3⟩:=hc 3 x3 rfl;cases e0;cases e1;cases e2;cases e3;have w0:Value.okWide Tryz.prog W r b0 22 x0:=by simp only[Value.okWide,Tryz.underlying22];exact k0
 have w1:Value.okWide Tryz.prog W r b0 22 x1:=by simp only[Value.okWide,Tryz.underlying22];exact k1
 have w2:Value.okWide Tryz.prog W r b0 22 x2:=by simp only[Value.okWide,Tryz.underlying22];exact k2
 have w3:Value.okWide Tryz.prog W r b0 3 x3:=by simp only[Value.okWide,Tryz.underlying3];exact k3
 obtain⟨aa0,qq0,mm0,rfl⟩:=okWide_slice Tryz.underlying22 w0;obtain⟨aa1,qq1,mm1,rfl⟩:=okWide_slice Tryz.underlying22 w1;obtain⟨aa2,qq2,mm2,rfl⟩:=okWide_slice Tryz.underlying22 w2;obtain⟨l0,r0,wf0,sz0⟩:=in_ints_w Tryz.underlying22 Tryz.underlying3 (by kernel_rfl) (ec:=inC) (fun _=>rfl) (d:=(ys[0]'(by omega)).1) (ps:=(ys[0]'(by omega)).2) w0 ⟨n',(hfl 0 _ rfl).trans (ac (by omega))⟩;obtain⟨l1,r1,wf1,sz1⟩:=in_ints_w Tryz.underlying22 Tryz.underlying3 (by kernel_rfl) (ec:=inC) (fun _=>rfl) (d:=(ys[1]'(by omega)).1) (ps:=(ys[1]'(by omega)).2) w1 ⟨n',(hfl 1 _ rfl).trans (ac (by omega))⟩;obtain⟨l2,r2,wf2,sz2⟩:=in_ints_w Tryz.underlying22 Tryz.underlying3 (by kernel_rfl) (ec:=inC) (fun _=>rfl) (d:=(ys[2]'(by omega)).1) (ps:=(ys[2]'(by omega)).2) w2 ⟨n',(hfl 2 _ rfl).trans (ac (by omega))⟩;obtain⟨o3,z3,_,wf3⟩:=DataW.trod_int (cs:=[x3]) (x:=ys[3]'(by omega)) Tryz.underlying3 ((hfl 3 _ rfl).trans (ac (by omega)));injection z3 with z3;exact⟨_,l0,_,l1,_,l2,o3,by rw[z3],r0,wf0,fun hs=>sz0 fun n hn=>hs n (mem24 0 hyl n hn),r1,wf1,fun hs=>sz1 fun n hn=>hs n (mem24 1 hyl n hn),r2,wf2,fun hs=>sz2 fun n hn=>hs n (mem24 2 hyl n hn),wf3⟩
theorem mem29{H:Type}{ys:List (DataW H × List MemPlace)}(i:Nat)(hy:ys.length=16){f:TypeId}{h:i<ys.length}(n:Nat)(hn:n∈(ys[i]'h).1.weights Tryz.prog f)(hf:[25,26,26,25,4,4,4,25,25,25,25,25,4,4,27,4][i]? = some f:=by rfl):n∈(DataW.agg (ys.map (·.1))).weights Tryz.prog 29:=by
 unfold DataW.weights;rw[Tryz.underlying29];exact DataW.weights_mem_each (j:=i) hf (by rw[iI,ac h];rfl) n hn
theorem ctypes29:Tryz.prog.cellTypes Tryz.prog.depth 29=some [25,26,26,25,4,4,4,25,25,25,25,25,4,4,27,4]:=by kernel_rfl
theorem open_T29{H:Type}{enc:TypeId × Value→H}{W:World}{r:Reach}{b0:Nat}{v:Value}{d:DataW H}{ps:List MemPlace}(hv:Value.okWide Tryz.prog W r b0 29 v)(h:DataW.Trod enc Tryz.prog W 0 (fun _=>true) true 29 v d ps):
    ∃(o0:Int) (u1:Value) (l1:List Int) (u2:Value) (l2:List Int) (o3:Int) (o4:Bool) (o5:Bool) (o6:Bool) (o7:Int) (o8:Int) (o9:Int) (o10:Int) (o11:Int) (o12:Bool) (o13:Bool) (o14:Int) (o15:Bool),v=.agg #[.int .u32 o0,u1,u2,.int .u32 o3,.bool o4,.bool o5,.bool o6,.int .u32 o7,.int .u32 o8,.int .u32 o9,.int .u32 o10,.int .u32 o11,.bool o12,.bool o13,.int .u64 o14,.bool o15]∧(Lit.int .u32 o0).wf=true∧InRow W u1 (tab uC l1) l1.length∧(∀x∈l1,(Lit.int .u32 x).wf=true)∧((∀n∈d.weights Tryz.prog 29,n≤reachBytes)→l1.length*Tryz.prog.bytesOf 25≤reachBytes)∧InRow W u2 (tab uC l2) l2.length∧(∀x∈l2,(Lit.int .u32 x).wf=true)∧((∀n∈d.weights Tryz.prog 29,n≤reachBytes)→l2.length*Tryz.prog.bytesOf 25≤reachBytes)∧(Lit.int .u32 o3).wf=true∧(Lit.int .u32 o7).wf=true∧(Lit.int .u32 o8).wf=true∧(Lit.int .u32 o9).wf=true∧(Lit.int .u32 o10).wf=true∧(Lit.int .u32 o11).wf=true∧(Lit.int .u64 o14).wf=true:=by
 obtain⟨cs,rfl,hsz⟩:=okWide_struct Tryz.underlying29 hv
 have hrow:Row.okWide Tryz.prog W r b0 29 cs:=by
  have h2:=hv;simp only[Value.okWide,Tryz.underlying29]at h2;obtain⟨cs',e,_,h3⟩:=h2;injection e with e;subst e;exact h3
 obtain⟨ts,hts,_,hc⟩:=hrow;rw[ctypes29]at hts;injection hts with hts;subst hts;have hszn:cs.size=16:=hsz.trans (by kernel_rfl);obtain⟨fuel,hf⟩:=h;obtain⟨ys,n',_,hxe,_,hyl,hfl⟩:=DataW.trod_struct Tryz.underlying29 hf;injection hxe with hd9 _;subst hd9;obtain⟨l⟩:=cs
 obtain⟨x0,x1,x2,x3,x4,x5,x6,x7,x8,x9,x10,x11,x12,x13,x14,x15,rfl⟩:∃a0 a1 a2 a3 a4 a5 a6 a7 a8 a9 a10 a11 a12 a13 a14 a15,l=[a0,a1,a2,a3,a4,a5,a6,a7,a8,a9,a10,a11,a12,a13,a14,a15]:=by
  match l,hszn with
  | [a0,a1,a2,a3,a4,a5,a6,a7,a8,a9,a10,a11,a12,a13,a14,a15],_=>exact⟨a0,a1,a2,a3,a4,a5,a6,a7,a8,a9,a10,a11,a12,a13,a14,a15,rfl⟩
 have hyln:ys.length=16:=hyl;obtain⟨u0_,e0,k0⟩:=hc 0 x0 rfl;obtain⟨u1_,e1,k1⟩:=hc 1 x1 rfl;obtain⟨u2_,e2,k2⟩:=hc 2 x2 rfl;obtain⟨u3_,e3,k3⟩:=hc 3 x3 rfl;obtain⟨u4_,e4,k4⟩:=hc 4 x4 rfl;obtain⟨u5_,e5,k5⟩:=hc 5 x5 rfl;obtain⟨u6_,e6,k6⟩:=hc 6 x6 rfl;obtain⟨u7_,e7,k7⟩:=hc 7 x7 rfl;obtain⟨u8_,e8,k8⟩:=hc 8 x8 rfl;obtain⟨u9_,e9,k9⟩:=hc 9 x9 rfl;obtain⟨u10_,e10,k10⟩:=hc 10 x10 rfl;obtain⟨u11_,e11,k11⟩:=hc 11 x11 rfl;obtain⟨u12_,e12,k12⟩:=hc 12 x12 rfl;obtain⟨u13_,e13,k13⟩:=hc 13 x13 rfl;obtain⟨u14_,e14,k14⟩:=hc 14 x14 rfl;obtain⟨u15_,e15,k15⟩:=hc 15 x15 rfl;cases e0;cases e1;cases e2;cases e3;cases e4;cases e5;cases e6;cases e7;cases e8;cases e9;cases e10;cases e11;cases e12;cases e13;cases e14;cases e15;have w0:Value.okWide Tryz.prog W r b0 25 x0:=by simp only[Value.okWide,Tryz.underlying25];exact k0
 have w1:Value.okWide Tryz.prog W r b0 26 x1:=by simp only[Value.okWide,Tryz.underlying26];exact k1
 have w2:Value.okWide Tryz.prog W r b0 26 x2:=by simp only[Value.okWide,Tryz.underlying26];exact k2
 have w3:Value.okWide Tryz.prog W r b0 25 x3:=by simp only[Value.okWide,Tryz.underlying25];exact k3
 have w4:Value.okWide Tryz.prog W r b0 4 x4:=by simp only[Value.okWide,Tryz.underlying4];exact k4
 have w5:Value.okWide Tryz.prog W r b0 4 x5:=by simp only[Value.okWide,Tryz.underlying4];exact k5
 have w6:Value.okWide Tryz.prog W r b0 4 x6:=by simp only[Value.okWide,Tryz.underlying4];exact k6
 have w7:Value.okWide Tryz.prog W r b0 25 x7:=by simp only[Value.okWide,Tryz.underlying25];exact k7
 have w8:Value.okWide Tryz.prog W r b0 25 x8:=by simp only[Value.okWide,Tryz.underlying25];exact k8
 have w9:Value.okWide Tryz.prog W r b0 25 x9:=by simp only[Value.okWide,Tryz.underlying25];exact k9
 have w10:Value.okWide Tryz.prog W r b0 25 x10:=by simp only[Value.okWide,Tryz.underlying25];exact k10
 have w11:Value.okWide Tryz.prog W r b0 25 x11:=by simp only[Value.okWide,Tryz.underlying25];exact k11
 have w12:Value.okWide Tryz.prog W r b0 4 x12:=by simp only[Value.okWide,Tryz.underlying4];exact k12
 have w13:Value.okWide Tryz.prog W r b0 4 x13:=by simp only[Value.okWide,Tryz.underlying4];exact k13
 have w14:Value.okWide Tryz.prog W r b0 27 x14:=by simp only[Value.okWide,Tryz.underlying27];exact k14
 have w15:Value.okWide Tryz.prog W r b0 4 x15:=by simp only[Value.okWide,Tryz.underlying4];exact k15
 obtain⟨aa1,qq1,mm1,rfl⟩:=okWide_slice Tryz.underlying26 w1;obtain⟨aa2,qq2,mm2,rfl⟩:=okWide_slice Tryz.underlying26 w2;obtain⟨o0,z0,_,wf0⟩:=DataW.trod_int (cs:=[x0]) (x:=ys[0]'(by omega)) Tryz.underlying25 ((hfl 0 _ rfl).trans (ac (by omega)));injection z0 with z0;obtain⟨l1,r1,wf1,sz1⟩:=in_ints_w Tryz.underlying26 Tryz.underlying25 (by kernel_rfl) (ec:=uC) (fun _=>rfl) (d:=(ys[1]'(by omega)).1) (ps:=(ys[1]'(by omega)).2) w1 ⟨n',(hfl 1 _ rfl).trans (ac (by omega))⟩;obtain⟨l2,r2,wf2,sz2⟩:=in_ints_w Tryz.underlying26 Tryz.underlying25 (by kernel_rfl) (ec:=uC) (fun _=>rfl) (d:=(ys[2]'(by omega)).1) (ps:=(ys[2]'(by omega)).2) w2 ⟨n',(hfl 2 _ rfl).trans (ac (by omega))⟩;obtain⟨o3,z3,_,wf3⟩:=DataW.trod_int (cs:=[x3]) (x:=ys[3]'(by omega)) Tryz.underlying25 ((hfl 3 _ rfl).trans (ac (by omega)));injection z3 with z3;obtain⟨o4,z4,_⟩:=DataW.trod_bool (cs:=[x4]) (x:=ys[4]'(by omega)) Tryz.underlying4 ((hfl 4 _ rfl).trans (ac (by omega)));injection z4 with z4;obtain⟨o5,z5,_⟩:=DataW.trod_bool (cs:=[x5]) (x:=ys[5]'(by omega)) Tryz.underlying4 ((hfl 5 _ rfl).trans (ac (by omega)));injection z5 with z5;obtain⟨o6,z6,_⟩:=DataW.trod_bool (cs:=[x6]) (x:=ys[6]'(by omega)) Tryz.underlying4 ((hfl 6 _ rfl).trans (ac (by omega)));injection z6 with z6;obtain⟨o7,z7,_,wf7⟩:=DataW.trod_int (cs:=[x7]) (x:=ys[7]'(by omega)) Tryz.underlying25 ((hfl 7 _ rfl).trans (ac (by omega)));injection z7 with z7
 obtain⟨o8,z8,_,wf8⟩:=DataW.trod_int (cs:=[x8]) (x:=ys[8]'(by omega)) Tryz.underlying25 ((hfl 8 _ rfl).trans (ac (by omega)));injection z8 with z8;obtain⟨o9,z9,_,wf9⟩:=DataW.trod_int (cs:=[x9]) (x:=ys[9]'(by omega)) Tryz.underlying25 ((hfl 9 _ rfl).trans (ac (by omega)));injection z9 with z9;obtain⟨o10,z10,_,wf10⟩:=DataW.trod_int (cs:=[x10]) (x:=ys[10]'(by omega)) Tryz.underlying25 ((hfl 10 _ rfl).trans (ac (by omega)));injection z10 with z10;obtain⟨o11,z11,_,wf11⟩:=DataW.trod_int (cs:=[x11]) (x:=ys[11]'(by omega)) Tryz.underlying25 ((hfl 11 _ rfl).trans (ac (by omega)));injection z11 with z11;obtain⟨o12,z12,_⟩:=DataW.trod_bool (cs:=[x12]) (x:=ys[12]'(by omega)) Tryz.underlying4 ((hfl 12 _ rfl).trans (ac (by omega)));injection z12 with z12;obtain⟨o13,z13,_⟩:=DataW.trod_bool (cs:=[x13]) (x:=ys[13]'(by omega)) Tryz.underlying4 ((hfl 13 _ rfl).trans (ac (by omega)));injection z13 with z13;obtain⟨o14,z14,_,wf14⟩:=DataW.trod_int (cs:=[x14]) (x:=ys[14]'(by omega)) Tryz.underlying27 ((hfl 14 _ rfl).trans (ac (by omega)));injection z14 with z14;obtain⟨o15,z15,_⟩:=DataW.trod_bool (cs:=[x15]) (x:=ys[15]'(by omega)) Tryz.underlying4 ((hfl 15 _ rfl).trans (ac (by omega)));injection z15 with z15
 exact⟨o0,_,l1,_,l2,o3,o4,o5,o6,o7,o8,o9,o10,o11,o12,o13,o14,o15,by rw[z0,z3,z4,z5,z6,z7,z8,z9,z10,z11,z12,z13,z14,z15],wf0,r1,wf1,fun hs=>sz1 fun n hn=>hs n (mem29 1 hyl n hn),r2,wf2,fun hs=>sz2 fun n hn=>hs n (mem29 2 hyl n hn),wf3,wf7,wf8,wf9,wf10,wf11,wf14⟩
end Ls
end Go.Proofs.YtihacfclecanjaaGreat
