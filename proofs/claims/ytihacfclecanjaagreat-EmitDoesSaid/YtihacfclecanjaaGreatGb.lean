/- Chapter 22: walks and laws. -/
import Derived.Test.YtihacfclecanjaaGreatJc
set_option linter.unusedVariables false
set_option linter.unusedSimpArgs false
namespace Go.Proofs.YtihacfclecanjaaGreat
open Go Go.Ev Go.RowKit
set_option maxRecDepth 100000
namespace Ls
noncomputable def f93b:Code:=Tryz.f93.body.getD .skip
set_option maxHeartbeats 1000000 in
theorem irmade_s{c:List II}{od rd:List Int}{nd nr hd hr fl nx tg br tk ct vs:Int}{k:Nat}{x:II}(hx:c[k]? = some x)(hi:0≤x.2.2.2.2∧x.2.2.2.2<4294967296)(hk:c.length<1000000)(hnd:0≤nd∧nd≤16)(hnr:0≤nr∧nr≤16):SCall Tryz.prog T15 93 #[(pgV (s5 0 c.length) nd nr hd hr (s1 1 od.length) (s1 2 rd.length) fl nx tg br tk ct vs),jI (k:Int)] (hq [(iiF c),(inF od),(inF rd)]) fun v h=>v=.bool (madeB nd nr x (k:Int))∧h=hq [(iiF c),(inF od),(inF rd)]:=by
 have hkl:=(ae.1 hx).1;refine zS Tryz.f93 f93b 95 3 fun X hX=>(zX 11 11 (pT 0 (0+k*5)) k c.length (zM 0 12 62 0 62 false iiC_len hx (sd_run 13 ?_)))
 refine zB 0 16 ((x.2.1:Int) != (k:Int)) (fun hc1=>?_) fun hc1=>?_
 ·refine sd_run 8 ?_;refine zY (.bool false) hX i3_ ⟨(by congr 1;(try simp at hc1);unfold madeB;simp[hc1]<;>(first|rfl|omega|(intros;omega)|(rw[ag];simp;omega)|(intros;simp_all;done)|(simp_all;done))),rfl⟩
 ·refine sd_run 4 (sd_mid 95 (cl (cr (cr (cr f93b)))) [.next (cr (cr (cr (cr f93b))))] kr kr kr (fun s9=>s9=⟨tmL [(1,jI (k:Int)),(2,pT 3 0),(5,pT 4 0),(6,.bool (valB x.2.2.1 (k:Int)&&valB x.2.2.2.1 (k:Int)))],hq [(iiF c),(inF od),(inF rd),oB 34 (pgL (s5 0 c.length) nd nr hd hr (s1 1 od.length) (s1 2 rd.length) fl nx tg br tk ct vs),oB 62 (c5L x.1 x.2.1 x.2.2.1 x.2.2.2.1 x.2.2.2.2)]⟩) hX ?_ ?_)
  ·intro R1_ hR1_;refine zB 6 21 (valB x.2.2.1 (k:Int)) (fun hc2=>?_) fun hc2=>?_
   ·refine sd_run 7 (sd_see 6 (.bool (valB x.2.2.1 (k:Int)&&valB x.2.2.2.1 (k:Int))) (see_bool (x:=(valB x.2.2.2.1 (k:Int))) kr (by(try simp at hc2);simp[hc2]<;>rfl)) ?_);refine sd_inv R1_ kr (hR1_ _ _ e5_ rfl ⟨zs,zt⟩ kr)
   ·refine sd_run 7 (sd_see 6 (.bool (valB x.2.2.1 (k:Int)&&valB x.2.2.2.1 (k:Int))) (see_bool (x:=false) kr (by(try simp at hc2);simp[hc2]<;>rfl)) ?_);refine sd_inv R1_ kr (hR1_ _ _ e5_ rfl ⟨zs,zt⟩ kr)
  ·rintro s9 rfl;refine sd_run 2 (sd_mid 95 (cl (cr (cr (cr (cr f93b))))) [.next (cr (cr (cr (cr (cr f93b)))))] kr kr kr (fun s9=>s9=⟨tmL [(2,pT 3 0),(5,pT 4 0),(6,.bool (valB x.2.2.1 (k:Int)&&valB x.2.2.2.1 (k:Int))),(7,.bool (decide (x.2.2.1=0)&&decide (x.2.2.2.1=0)))],hq [(iiF c),(inF od),(inF rd),oB 34 (pgL (s5 0 c.length) nd nr hd hr (s1 1 od.length) (s1 2 rd.length) fl nx tg br tk ct vs),oB 62 (c5L x.1 x.2.1 x.2.2.1 x.2.2.2.1 x.2.2.2.2)]⟩) hX ?_ ?_)
   ·intro R2_ hR2_;refine zB 5 30 ((x.2.2.1:Int) == 0) (fun hc3=>?_) fun hc3=>?_
    ·refine sd_run 6 (sd_see 7 (.bool (decide (x.2.2.1=0)&&decide (x.2.2.2.1=0))) (see_bool (x:=((x.2.2.2.1:Int) == 0)) kr (by(try simp at hc3);simp[hc3]<;>rfl)) ?_);refine sd_inv R2_ kr (hR2_ _ _ e5_ rfl ⟨zs,zt⟩ kr)
    ·refine sd_run 6 (sd_see 7 (.bool (decide (x.2.2.1=0)&&decide (x.2.2.2.1=0))) (see_bool (x:=false) kr (by(try simp at hc3);simp[hc3]<;>rfl)) ?_);refine sd_inv R2_ kr (hR2_ _ _ e5_ rfl ⟨zs,zt⟩ kr)
   ·rintro s9 rfl;refine zB 15 37 ((x.1:Int) == 0) (fun hc4=>?_) fun hc4=>?_
    ·refine sd_run 10 ?_;refine zY (.bool (decide (x.2.2.1=0)&&decide (x.2.2.2.1=0))) hX i3_ ⟨(by congr 1;(try simp at hc1 hc4);unfold madeB;simp[hc1,hc4]<;>(first|rfl|omega|(intros;omega)|(rw[ag];simp;omega)|(intros;simp_all;done)|(simp_all;done))),rfl⟩
    ·refine zB 7 40 ((x.1:Int) == 1) (fun hc5=>?_) fun hc5=>?_
     ·refine zB 5 43 (decide (x.2.2.1=0)&&decide (x.2.2.2.1=0)) (fun hc6=>?_) fun hc6=>?_
      ·refine zI 3 46 .u64 x.2.2.2.2 (IntKind.u64.wrap x.2.2.2.2) (zI 3 49 .u64 nd (IntKind.u64.wrap nd) (sd_run 8 ?_));refine zY (.bool (decide ((x.2.2.2.2:Int)<nd))) hX i3_ ⟨(by congr 1;(try simp at hc1 hc4 hc5 hc6);unfold madeB;simp[hc1,hc4,hc5,hc6]<;>(first|rfl|omega|(intros;omega)|(rw[ag];simp;omega)|(intros;simp_all;done)|(simp_all;done))),rfl⟩
      ·refine sd_run 14 ?_;refine zY (.bool false) hX i3_ ⟨(by congr 1;(try simp at hc1 hc4 hc5 hc6);unfold madeB;simp[hc1,hc4,hc5,hc6]<;>(first|rfl|omega|(intros;omega)|(rw[ag];simp;omega)|(intros;simp_all;done)|(simp_all;done))),rfl⟩
     ·refine zB 7 52 ((x.1:Int) == 2) (fun hc7=>?_) fun hc7=>?_
      ·refine zB 5 55 (decide (x.2.2.1=0)&&decide (x.2.2.2.1=0)) (fun hc8=>?_) fun hc8=>?_
       ·refine zI 3 58 .u64 x.2.2.2.2 (IntKind.u64.wrap x.2.2.2.2) (zI 3 61 .u64 nr (IntKind.u64.wrap nr) (sd_run 8 ?_));refine zY (.bool (decide ((x.2.2.2.2:Int)<nr))) hX i3_ ⟨(by congr 1;(try simp at hc1 hc4 hc5 hc7 hc8);unfold madeB;simp[hc1,hc4,hc5,hc7,hc8]<;>(first|rfl|omega|(intros;omega)|(rw[ag];simp;omega)|(intros;simp_all;done)|(simp_all;done))),rfl⟩
       ·refine sd_run 14 ?_;refine zY (.bool false) hX i3_ ⟨(by congr 1;(try simp at hc1 hc4 hc5 hc7 hc8);unfold madeB;simp[hc1,hc4,hc5,hc7,hc8]<;>(first|rfl|omega|(intros;omega)|(rw[ag];simp;omega)|(intros;simp_all;done)|(simp_all;done))),rfl⟩
      ·refine zB 7 64 ((x.1:Int) == 3) (fun hc9=>?_) fun hc9=>?_
       ·refine zB 5 67 (valB x.2.2.1 (k:Int)&&valB x.2.2.2.1 (k:Int)) (fun hc10=>?_) fun hc10=>?_
        ·refine zB 5 72 (decide ((x.2.2.2.2:Int)≥16)) (fun hc11=>?_) fun hc11=>?_
         ·refine sd_run 10 ?_;refine zY (.bool (decide ((x.2.2.2.2:Int)≤23))) hX i3_ ⟨(by congr 1;(try simp at hc1 hc4 hc5 hc7 hc9 hc10 hc11);unfold madeB;simp[hc1,hc4,hc5,hc7,hc9,hc10,hc11]<;>(first|rfl|omega|(intros;omega)|(rw[ag];simp;omega)|(intros;simp_all;done)|(simp_all;done))),rfl⟩
         ·refine sd_run 10 ?_;refine zY (.bool false) hX i3_ ⟨(by congr 1;(try simp at hc1 hc4 hc5 hc7 hc9 hc10 hc11);unfold madeB;simp[hc1,hc4,hc5,hc7,hc9,hc10,hc11]<;>(first|rfl|omega|(intros;omega)|(rw[ag];simp;omega)|(intros;simp_all;done)|(simp_all;done))),rfl⟩
        ·refine sd_run 15 ?_;refine zY (.bool false) hX i3_ ⟨(by congr 1;(try simp at hc1 hc4 hc5 hc7 hc9 hc10);unfold madeB;simp[hc1,hc4,hc5,hc7,hc9,hc10]<;>(first|rfl|omega|(intros;omega)|(rw[ag];simp;omega)|(intros;simp_all;done)|(simp_all;done))),rfl⟩
       ·refine zB 7 77 ((x.1:Int) == 4) (fun hc12=>?_) fun hc12=>?_
        ·refine zB 5 80 (valB x.2.2.1 (k:Int)&&valB x.2.2.2.1 (k:Int)) (fun hc13=>?_) fun hc13=>?_
         ·refine zB 4 84 (decide ((x.2.2.2.2:Int)≥16)) (fun hc14=>?_) fun hc14=>?_
          ·refine zB 5 89 (decide ((x.2.2.2.2:Int)≤23)) (fun hc15=>?_) fun hc15=>?_
           ·refine sd_run 11 ?_;refine zY (.bool true) hX i3_ ⟨(by congr 1;(try simp at hc1 hc4 hc5 hc7 hc9 hc12 hc13 hc14 hc15);unfold madeB;simp[hc1,hc4,hc5,hc7,hc9,hc12,hc13,hc14,hc15]<;>(first|rfl|omega|(intros;omega)|(rw[ag];simp;omega)|(intros;simp_all;done)|(simp_all;done))),rfl⟩
           ·refine sd_run 11 ?_;refine zY (.bool ((x.2.2.2.2:Int) == 25)) hX i3_ ⟨(by congr 1;(try simp at hc1 hc4 hc5 hc7 hc9 hc12 hc13 hc14 hc15);unfold madeB;simp[hc1,hc4,hc5,hc7,hc9,hc12,hc13,hc14,hc15]<;>(first|rfl|omega|(intros;omega)|(rw[ag];simp;omega)|(intros;simp_all;done)|(simp_all;done))),rfl⟩
          ·refine sd_run 16 ?_;refine zY (.bool ((x.2.2.2.2:Int) == 25)) hX i3_ ⟨(by congr 1;(try simp at hc1 hc4 hc5 hc7 hc9 hc12 hc13 hc14);unfold madeB;simp[hc1,hc4,hc5,hc7,hc9,hc12,hc13,hc14]<;>(first|rfl|omega|(intros;omega)|(rw[ag];simp;omega)|(intros;simp_all;done)|(simp_all;done))),rfl⟩
         ·refine sd_run 20 ?_;refine zY (.bool false) hX i3_ ⟨(by congr 1;(try simp at hc1 hc4 hc5 hc7 hc9 hc12 hc13);unfold madeB;simp[hc1,hc4,hc5,hc7,hc9,hc12,hc13]<;>(first|rfl|omega|(intros;omega)|(rw[ag];simp;omega)|(intros;simp_all;done)|(simp_all;done))),rfl⟩
        ·refine sd_run 10 ?_;refine zY (.bool false) hX i3_ ⟨(by congr 1;(try simp at hc1 hc4 hc5 hc7 hc9 hc12);unfold madeB;simp[hc1,hc4,hc5,hc7,hc9,hc12]<;>(first|rfl|omega|(intros;omega)|(rw[ag];simp;omega)|(intros;simp_all;done)|(simp_all;done))),rfl⟩
noncomputable def f57b:Code:=Tryz.f57.body.getD .skip
theorem valB_iff{n k:Int}:valB n k=true↔0≤n∧n<k:=by simp[valB]
theorem right_s{c:List II}{od rd:List Int}{nd nr hd hr fl nx tg br tk ct vs:Int}(hR:RightP c od rd nd nr hd hr fl tg br ct vs)(hcl:c.length<1099511627776)(hol:od.length<1099511627776)(hrl:rd.length<1099511627776)(hi:∀x∈c,0≤x.2.2.2.2∧x.2.2.2.2<4294967296):SCall Tryz.prog T15 57 #[(pgV (s5 0 c.length) nd nr hd hr (s1 1 od.length) (s1 2 rd.length) fl nx tg br tk ct vs)] (hq [(iiF c),(inF od),(inF rd)]) fun v h=>v=.bool true∧h=hq [(iiF c),(inF od),(inF rd)]:=by
 have q0:=hR.vs_;have q1:=hR.len;have q2:=hR.nd_;have q3:=hR.nr_;have q4:=hR.hd_;have q5:=hR.hr_;have q6:=hR.ct_;refine zS Tryz.f57 f57b 118 3 fun X hX=>(zQ 15 13 (vs:Int) (c.length:Int) (zF 4 17 ((vs:Int)>64) (zF 49 12 ((nd:Int)<0) (zF 3 15 ((nd:Int)>16) (zF 35 12 ((nr:Int)<0) (zF 3 15 ((nr:Int)>16) (zF 35 12 ((hd:Int)<0) (zF 3 15 ((hd:Int)>16) (zF 35 12 ((hr:Int)<0) (zF 3 15 ((hr:Int)>16) (zF 38 35 ((ct:Int)<1) (zF 5 40 ((ct:Int)>8) (sd_run 16 (sd_loop 118 (cl (cl (cr (cl (cr (cr f57b)))))) [.blk 0,.next (cr (cr (cr f57b)))] kr kr kr (fun m9 s9=>∃(k:Nat),m9=c.length-k∧(k≤c.length)∧s9=⟨tmL [(1,pT 3 0),(44,jN c.length),(45,jI (k:Int))],hq [(iiF c),(inF od),(inF rd),oB 34 (pgL (s5 0 c.length) nd nr hd hr (s1 1 od.length) (s1 2 rd.length) fl nx tg br tk ct vs)]⟩) (c.length-0) _ e4_ hX ⟨0,rfl,zo,rfl⟩ ⟨zs,zt⟩ kr ?_))))))))))))))
 rintro m9 s9 ⟨k,rfl,i1_0,rfl⟩ R1_ hR1_
 by_cases hlt:k<c.length
 ·obtain⟨a1,ha1⟩:=zR c k;have ia1:=hi _ (ah ha1);refine zT 3 46 ((k:Int)<(c.length:Int)) (sd_run 18 (zG 50 93 #[(pgV (s5 0 c.length) nd nr hd hr (s1 1 od.length) (s1 2 rd.length) fl nx tg br tk ct vs),jI (k:Int)] (@irmade_s c od rd nd nr hd hr fl nx tg br tk ct vs k a1 ha1 ia1 zo zo zo) i3_ ?_));rintro v9 k9 ⟨rfl,rfl⟩;refine⟨rfl,.bool (madeB nd nr a1 (k:Int)),kr,?_⟩;refine sd_see 50 (.bool true) (see_bool kr (hR.code k a1 ha1)) (zI 9 52 .i64 ((k+1:Nat):Int) (IntKind.i64.wrap ((k:Int)+1)) (sd_run 2 ?_));refine sd_inv R1_ kr (hR1_ _ (c.length-(k+1)) _ e4_ zo ⟨k+1,rfl,zo,rfl⟩ ⟨zs,zt⟩ kr)
 ·obtain rfl:k=c.length:=by omega
  refine zF 3 46 ((c.length:Int)<(c.length:Int)) (sd_run 49 (sd_loop 118 (cl (cl (cr (cr (cl (cl (cr (cr (cl (cl (cr (cl (cr (cr (cr f57b))))))))))))))) [.blk 4,.blk 3,.next (cr (cr (cr (cl (cl (cr (cl (cr (cr (cr f57b)))))))))),.loop (cl (cl (cr (cl (cr (cr (cr f57b))))))),.blk 2,.next (cr (cr (cr (cr f57b))))] kr kr kr (fun m9 s9=>∃(j:Nat),m9=od.length-j∧(j≤od.length)∧s9=⟨tmL [(1,pT 3 0),(57,sK 4 2 2),(58,jI 2),(59,jI 0),(63,(s1 1 od.length)),(64,jN od.length),(65,jI (j:Int))],hq [(iiF c),(inF od),(inF rd),oB 34 (pgL (s5 0 c.length) nd nr hd hr (s1 1 od.length) (s1 2 rd.length) fl nx tg br tk ct vs),oB 22 [(s1 1 od.length),(s1 2 rd.length)]]⟩) (od.length-0) _ e5_ hX ⟨0,rfl,zo,rfl⟩ ⟨zs,zt⟩ kr ?_));rintro m9 s9 ⟨j,rfl,i2_0,rfl⟩ R2_ hR2_
  by_cases hlt_od:j<od.length
  ·obtain⟨a2,ha2⟩:=zR od j;refine zT 3 66 ((j:Int)<(od.length:Int)) (zX 10 67 (pT 1 (0+j*1)) j od.length (zL 0 68 (jI a2) 3 1 0 3 false inC_len ha2 (sd_run 9 (sd_see 72 (.bool true) (see_bool (x:=(valB a2 vs)) kr (hR.od_ j a2 ha2)) (sd_run 9 (zI 0 74 .i64 ((j+1:Nat):Int) (IntKind.i64.wrap ((j:Int)+1)) (sd_run 2 ?_)))))));refine sd_inv R2_ kr (hR2_ _ (od.length-(j+1)) _ e5_ zo ⟨j+1,rfl,zo,rfl⟩ ⟨zs,zt⟩ kr)
  ·obtain rfl:j=od.length:=by omega
   refine zF 3 66 ((od.length:Int)<(od.length:Int)) (sd_run 42 (sd_loop 118 (cl (cl (cr (cr (cl (cl (cr (cr (cl (cl (cr (cl (cr (cr (cr f57b))))))))))))))) [.blk 4,.blk 3,.next (cr (cr (cr (cl (cl (cr (cl (cr (cr (cr f57b)))))))))),.loop (cl (cl (cr (cl (cr (cr (cr f57b))))))),.blk 2,.next (cr (cr (cr (cr f57b))))] kr kr kr (fun m9 s9=>∃(j:Nat),m9=rd.length-j∧(j≤rd.length)∧s9=⟨tmL [(1,pT 3 0),(57,sK 4 2 2),(58,jI 2),(59,jI 1),(63,(s1 2 rd.length)),(64,jN rd.length),(65,jI (j:Int))],hq [(iiF c),(inF od),(inF rd),oB 34 (pgL (s5 0 c.length) nd nr hd hr (s1 1 od.length) (s1 2 rd.length) fl nx tg br tk ct vs),oB 22 [(s1 1 od.length),(s1 2 rd.length)]]⟩) (rd.length-0) _ e5_ hX ⟨0,rfl,zo,rfl⟩ ⟨zs,zt⟩ kr ?_));rintro m9 s9 ⟨j,rfl,i3_0,rfl⟩ R3_ hR3_
   by_cases hlt_rd:j<rd.length
   ·obtain⟨a3,ha3⟩:=zR rd j;refine zT 3 66 ((j:Int)<(rd.length:Int)) (zX 10 67 (pT 2 (0+j*1)) j rd.length (zL 0 68 (jI a3) 3 2 0 3 false inC_len ha3 (sd_run 9 (sd_see 72 (.bool true) (see_bool (x:=(valB a3 vs)) kr (hR.rd_ j a3 ha3)) (sd_run 9 (zI 0 74 .i64 ((j+1:Nat):Int) (IntKind.i64.wrap ((j:Int)+1)) (sd_run 2 ?_)))))));refine sd_inv R3_ kr (hR3_ _ (rd.length-(j+1)) _ e5_ zo ⟨j+1,rfl,zo,rfl⟩ ⟨zs,zt⟩ kr)
   ·obtain rfl:j=rd.length:=by omega
    refine zF 3 66 ((rd.length:Int)<(rd.length:Int)) (sd_run 30 (sd_mid 118 (cl (cl (cr (cr (cr (cr f57b)))))) [.next (cr (cl (cr (cr (cr (cr f57b)))))),.next (cr (cr (cr (cr (cr f57b)))))] kr kr kr (fun s9=>s9=⟨tmL [(1,pT 3 0),(99,.bool false)],hq [(iiF c),(inF od),(inF rd),oB 34 (pgL (s5 0 c.length) nd nr hd hr (s1 1 od.length) (s1 2 rd.length) fl nx tg br tk ct vs)]⟩) hX ?_ ?_))
    ·intro R4_ hR4_;rcases hR.fl_ with g1|g1<;>rcases hR.tg_ with g2|g2
     ·refine sd_run 4 (sd_see 78 (.bool false) (see_bool (x:=((fl:Int) != (-1))) kr (eb.2 g1)) (sd_run 12 (sd_see 90 (.bool false) (see_bool (x:=((tg:Int) != (-1))) kr (eb.2 g2)) (sd_run 10 ?_))));refine sd_inv R4_ kr (hR4_ _ _ e4_ rfl ⟨zs,zt⟩ kr)
     ·refine sd_run 4 (sd_see 78 (.bool false) (see_bool (x:=((fl:Int) != (-1))) kr (eb.2 g1)) (sd_run 12 (sd_see 90 (.bool true) (see_bool (x:=((tg:Int) != (-1))) kr (eW.2 (by have:=valB_iff.1 g2;omega))) (sd_run 6 (sd_see 96 (.bool true) (see_bool (x:=(valB tg vs)) kr g2) (sd_run 4 ?_))))));refine sd_inv R4_ kr (hR4_ _ _ e4_ rfl ⟨zs,zt⟩ kr)
     ·refine sd_run 4 (sd_see 78 (.bool true) (see_bool (x:=((fl:Int) != (-1))) kr (eW.2 (by have:=valB_iff.1 g1;omega))) (sd_run 6 (sd_see 84 (.bool true) (see_bool (x:=(valB fl vs)) kr g1) (sd_run 6 (sd_see 90 (.bool false) (see_bool (x:=((tg:Int) != (-1))) kr (eb.2 g2)) (sd_run 10 ?_))))));refine sd_inv R4_ kr (hR4_ _ _ e4_ rfl ⟨zs,zt⟩ kr)
     ·refine sd_run 4 (sd_see 78 (.bool true) (see_bool (x:=((fl:Int) != (-1))) kr (eW.2 (by have:=valB_iff.1 g1;omega))) (sd_run 6 (sd_see 84 (.bool true) (see_bool (x:=(valB fl vs)) kr g1) (sd_run 6 (sd_see 90 (.bool true) (see_bool (x:=((tg:Int) != (-1))) kr (eW.2 (by have:=valB_iff.1 g2;omega))) (sd_run 6 (sd_see 96 (.bool true) (see_bool (x:=(valB tg vs)) kr g2) (sd_run 4 ?_))))))));refine sd_inv R4_ kr (hR4_ _ _ e4_ rfl ⟨zs,zt⟩ kr)
    ·rintro s9 rfl;refine sd_run 5 ?_;rcases hR.br_ with q9|⟨q9,q10,q11⟩
     ·refine zE 4 102 (br:Int) 0 (sd_run 19 ?_);refine zY (.bool true) hX i3_ ⟨rfl,rfl⟩
     ·refine zN 4 102 (br:Int) 0 (zT 4 106 ((br:Int)≥33) (zT 4 110 ((br:Int)≤37) (zE 5 115 (tg:Int) (-1) (sd_run 6 ?_))));refine zY (.bool true) hX i3_ ⟨rfl,rfl⟩
abbrev IV:=Int × Int × Int
def usel(t:Int)(l:List IV)(n:Nat):List IV:=match l[n]? with|some a=>l.set n (a.1,a.2.1,max a.2.2 t)|none=>l
def useI(t:Int)(l:List IV)(n:Int):List IV:=if 0≤n then usel t l n.toNat else l
def seedl(n:Nat):List IV:=(List.range n).map fun(i:Nat)=>((i:Int),(i:Int),(i:Int))
def codeL(c:List II):Nat→List IV
 |0=>seedl c.length
 |k+1=>match c[k]? with|some x=>if x.1=3∨x.1=4 then useI k (useI k (codeL c k) x.2.2.1) x.2.2.2.1 else codeL c k|none=>codeL c k
def outL(t:Int)(l:List IV)(xs:List Int):List IV:=xs.foldl (useI t) l
def ofL(c:List II)(od rd:List Int)(fl tg:Int):List IV:=useI c.length (useI c.length (outL c.length (outL c.length (codeL c c.length) od) rd) fl) tg
@[simp] theorem usel_len(t:Int)(l:List IV)(n:Nat):(usel t l n).length=l.length:=by unfold usel;split<;>simp
@[simp] theorem useI_len(t:Int)(l:List IV)(n:Int):(useI t l n).length=l.length:=by unfold useI;split<;>simp
@[simp] theorem seedl_len(n:Nat):(seedl n).length=n:=by simp[seedl]
@[simp] theorem codeL_len(c:List II):∀k,(codeL c k).length=c.length
 |0=>by simp[codeL]
 |k+1=>by unfold codeL;split;(split<;>simp[codeL_len c k]);exact codeL_len c k
@[simp] theorem outL_len(t:Int):∀(xs:List Int) (l:List IV),(outL t l xs).length=l.length
 | [],l=>rfl
 |x::xs,l=>by show(outL t (useI t l x) xs).length=_;rw[outL_len t xs];simp
@[simp] theorem ofL_len(c:List II)(od rd:List Int)(fl tg:Int):(ofL c od rd fl tg).length=c.length:=by simp[ofL]
theorem usel_at{t:Int}{l:List IV}{n:Nat}{a:IV}(h:l[n]? = some a):l.set n (a.1,a.2.1,max a.2.2 t)=usel t l n:=by unfold usel;rw[h]
theorem useI_nat(t:Int)(l:List IV)(n:Nat):useI t l (n:Int)=usel t l n:=by unfold useI;rw[if_pos (by omega)];rfl
theorem useI_no{t:Int}{l:List IV}{n:Int}(h:n<0):useI t l n=l:=by unfold useI;rw[if_neg (by omega)]
theorem seedl_succ(k:Nat):seedl k++[((k:Int),(k:Int),(k:Int))]=seedl (k+1):=by simp[seedl,List.range_succ]
theorem codeL_use{c:List II}{k:Nat}{x:II}(h:c[k]? = some x)(hx:x.1=3∨x.1=4):codeL c (k+1)=useI k (useI k (codeL c k) x.2.2.1) x.2.2.2.1:=by show(match c[k]? with|some x=>_|none=>_)=_;rw[h];exact if_pos hx
theorem codeL_no{c:List II}{k:Nat}{x:II}(h:c[k]? = some x)(hx:¬(x.1=3∨x.1=4)):codeL c (k+1)=codeL c k:=by show(match c[k]? with|some x=>_|none=>_)=_;rw[h];exact if_neg hx
theorem outL_succ{t:Int}{l:List IV}{xs:List Int}{j:Nat}{x:Int}(h:xs[j]? = some x):outL t l (xs.take (j+1))=useI t (outL t l (xs.take j)) x:=by unfold outL;rw[eV,h];simp
theorem made_ab{nd nr:Int}{x:II}{k:Int}(h:madeB nd nr x k=true)(hx:x.1=3∨x.1=4):(0≤x.2.2.1∧x.2.2.1<k)∧(0≤x.2.2.2.1∧x.2.2.2.1<k):=by
 unfold madeB at h;rcases hx with hx|hx<;>simp[hx,valB]at h<;>omega
noncomputable def f96b:Code:=Tryz.f96.body.getD .skip
theorem use_s{l:List IV}{N m:Nat}{t:Int}(hm:m=l.length)(hN:N<m)(hml:m<1099511627776):SCall Tryz.prog T15 96 #[jI (N:Int),jI t,pT 0 0] (hq [oB 115 [sK 1 m (unk+3)],(ivF l)]) fun v h=>v=.tuple #[]∧h=hq [oB 115 [sK 1 m (unk+3)],(ivF (usel t l N))]:=by
 refine zS Tryz.f96 f96b 18 2 fun X hX=>(zT 4 6 ((N:Int)≥0) (zX 8 11 (pT 1 (0+N*3)) N m ?_))
 obtain⟨a1,ha1⟩:=zR l N;refine zL 1 13 (jI a1.2.2) 3 1 2 120 false ivC_len ha1 (sd_run 2 (sd_see 15 (jI (max a1.2.2 t)) (see_int (x:=(if t>a1.2.2 then t else a1.2.2)) kr (by split<;>omega)) (zX 0 16 (pT 1 (0+N*3)) N m (sd_run 1 (sd_st 3 1 (0+N*3+2) (jI (max a1.2.2 t)) (tab ivC ((l).set N (a1.1,a1.2.1,(max a1.2.2 t)))) (cells:=tab ivC l) (e:=120) kr kr kr kr (st_cell (k:=N) (j:=2) (a':=(a1.1,a1.2.1,(max a1.2.2 t))) ivC_len kr kr ha1 kr rfl) (sd_run 1 ?_))))));refine sdY (.tuple #[]) hX [oB 115 [sK 1 m (unk+3)],(ivF (usel t l N))] i2_ ⟨brn,bk_flat (tab ivC ((l).set N (a1.1,a1.2.1,(max a1.2.2 t)))) kr (tab_plain ivC_pl _) (congrArg (tab ivC) (usel_at ha1)),⟨⟩⟩ ⟨rfl,rfl⟩
theorem use_no{l:List IV}{m:Nat}{t:Int}:SCall Tryz.prog T15 96 #[jI (-1),jI t,pT 0 0] (hq [oB 115 [sK 1 m (unk+3)],(ivF l)]) fun v h=>v=.tuple #[]∧h=hq [oB 115 [sK 1 m (unk+3)],(ivF l)]:=by
 refine zS Tryz.f96 f96b 18 2 fun X hX=>(sd_run 8 ?_)
 refine zY (.tuple #[]) hX i2_ ⟨rfl,rfl⟩
noncomputable def f60b:Code:=Tryz.f60.body.getD .skip
set_option maxHeartbeats 4000000 in
theorem of_s{c:List II}{od rd:List Int}{nd nr hd hr fl nx tg br tk ct:Int}(hR:RightP c od rd nd nr hd hr fl tg br ct (c.length:Int))(hol:od.length<1099511627776)(hrl:rd.length<1099511627776)(hi:∀x∈c,0≤x.2.2.2.2∧x.2.2.2.2<4294967296):SCall Tryz.prog T15 60 #[(pgV (s5 0 c.length) nd nr hd hr (s1 1 od.length) (s1 2 rd.length) fl nx tg br tk ct (c.length:Int))] (hq [(iiF c),(inF od),(inF rd)]) fun v h=>v=.slice (some ⟨3,0,none⟩) c.length (unk+3)∧h=hq [(iiF c),(inF od),(inF rd),(ivF (ofL c od rd fl tg))]:=by
 have hlen:=hR.len;refine zS Tryz.f60 f60b 86 3 fun X hX=>(sd_run 10 (zG 13 57 #[(pgV (s5 0 c.length) nd nr hd hr (s1 1 od.length) (s1 2 rd.length) fl nx tg br tk ct (c.length:Int))] (@right_s c od rd nd nr hd hr fl nx tg br tk ct (c.length:Int) hR zo hol hrl hi) i3_ ?_))
 rintro v9 k9 ⟨rfl,rfl⟩;refine⟨rfl,.bool true,kr,?_⟩;refine sd_run 20 (sd_loop 86 (cl (cl (cr (cl (cr (cr (cr f60b))))))) [.blk 0,.next (cr (cr (cr (cr f60b))))] kr kr kr (fun m9 s9=>∃(k:Nat),m9=c.length-k∧(k≤c.length)∧s9=⟨tmL [(1,pT 3 0),(3,pT 4 0),(16,jN c.length),(17,jI (k:Int))],hq [(iiF c),(inF od),(inF rd),oB 34 (pgL (s5 0 c.length) nd nr hd hr (s1 1 od.length) (s1 2 rd.length) fl nx tg br tk ct (c.length:Int)),oB 115 [sK 5 k (unk+3)],(ivF (seedl k))]⟩) (c.length-0) _ (emOf (eM [1,2,3,4,5,0])) hX ⟨0,rfl,zo,rfl⟩ ⟨zs,zt⟩ kr ?_);rintro m9 s9 ⟨k,rfl,i1_0,rfl⟩ R1_ hR1_
 by_cases hlt:k<c.length
 ·refine zT 3 18 ((k:Int)<(c.length:Int)) (sd_run 21 (sd_grow 26 115 115 120 2 23 5 k 1 7 (sK 6 1 1) (tab ivC (seedl k)) [jI (k:Int),jI (k:Int),jI (k:Int)] (tab ivC (seedl k++[((k:Int),(k:Int),(k:Int))])) kr kr kr kr kr ((tab_len ivC_len _).trans (by rw[seedl_len])) kr kr (by decide) kr zo kr (tab_snoc (seedl k) ((k:Int),(k:Int),(k:Int))) (zI 6 27 .i64 ((k+1:Nat):Int) (IntKind.i64.wrap ((k:Int)+1)) (sd_run 2 ?_))));refine sd_inv R1_ kr (hR1_ _ (c.length-(k+1)) _ (emOf (eM [1,2,3,4,5,8])) zo ⟨k+1,rfl,zo,rfl⟩ ⟨sub_of kr kr ⟨iiC_b,inC_b,inC_b,brn,brn,bk_flat (tab ivC (seedl k++[((k:Int),(k:Int),(k:Int))])) kr (tab_plain ivC_pl _) (congrArg (tab ivC) (seedl_succ k)),⟨⟩⟩,zt⟩ kr)
 ·obtain rfl:k=c.length:=by omega
  refine zF 3 18 ((c.length:Int)<(c.length:Int)) (sd_run 25 (sd_loop 86 (cl (cl (cr (cl (cr (cr (cr (cr (cr f60b))))))))) [.blk 2,.next (cr (cr (cr (cr (cr (cr f60b))))))] kr kr kr (fun m9 s9=>∃(k:Nat),m9=c.length-k∧(k≤c.length)∧s9=⟨tmL [(1,pT 3 0),(3,pT 4 0),(5,.func (.func 96) #[] #[pT 4 0]),(30,(s5 0 c.length)),(31,jN c.length),(32,jI (k:Int))],hq [(iiF c),(inF od),(inF rd),oB 34 (pgL (s5 0 c.length) nd nr hd hr (s1 1 od.length) (s1 2 rd.length) fl nx tg br tk ct (c.length:Int)),oB 115 [sK 5 c.length (unk+3)],(ivF (codeL c k))]⟩) (c.length-0) _ e6_ hX ⟨0,rfl,zo,rfl⟩ ⟨sub_of kr kr ⟨iiC_b,inC_b,inC_b,brn,brn,bk_flat (tab ivC (seedl c.length)) kr (tab_plain ivC_pl _) (congrArg (tab ivC) (by rfl)),⟨⟩⟩,zt⟩ kr ?_));rintro m9 s9 ⟨k,rfl,i2_0,rfl⟩ R2_ hR2_
  by_cases hltB:k<c.length
  ·obtain⟨a1,ha1⟩:=zR c k;have hmd:=hR.code k a1 ha1;rcases(by omega:a1.1=3∨a1.1=4∨(a1.1≠3∧a1.1≠4))with hop|hop|hop
   ·obtain⟨⟨qa1,qa2⟩,qb1,qb2⟩:=made_ab hmd (by omega);obtain⟨A,hA⟩:=aa qa1;obtain⟨B,hB⟩:=aa qb1;refine zT 3 33 ((k:Int)<(c.length:Int)) (zX 11 35 (pT 0 (0+k*5)) k c.length (zM 0 36 62 0 62 false iiC_len ha1 (zI 9 38 .i64 3 a1.1 (sd_run 14 (sd_see 47 (jI (A:Int)) (see_int (x:=a1.2.2.1) kr hA) (sd_run 1 (zC 49 96 #[jI (A:Int),jI (k:Int),pT 4 0] (@use_s (codeL c k) A c.length (k:Int) (by simp) zo zo) [some 4,some 5] ?_)))))));rintro Y v9 k9 ⟨rfl,rfl⟩;refine mkG (.tuple #[]) [(iiF c),(inF od),(inF rd),oB 34 (pgL (s5 0 c.length) nd nr hd hr (s1 1 od.length) (s1 2 rd.length) fl nx tg br tk ct (c.length:Int)),oB 115 [sK 5 c.length (unk+3)],(ivF (usel (k:Int) (codeL c k) A)),oB 62 (c5L a1.1 a1.2.1 a1.2.2.1 a1.2.2.2.1 a1.2.2.2.2)] ⟨cvo,cvo,cvo,cvo,cvs 0 Y,ivC_c 1,cvo,⟨⟩⟩ ?_;refine sd_run 6 (sd_see 52 (jI (B:Int)) (see_int (x:=a1.2.2.2.1) kr hB) (sd_run 1 (zC 54 96 #[jI (B:Int),jI (k:Int),pT 4 0] (@use_s (usel (k:Int) (codeL c k) A) B c.length (k:Int) (by simp) zo zo) [some 4,some 5] ?_)));rintro Y v9 k9 ⟨rfl,rfl⟩;refine mkG (.tuple #[]) [(iiF c),(inF od),(inF rd),oB 34 (pgL (s5 0 c.length) nd nr hd hr (s1 1 od.length) (s1 2 rd.length) fl nx tg br tk ct (c.length:Int)),oB 115 [sK 5 c.length (unk+3)],(ivF (usel (k:Int) (usel (k:Int) (codeL c k) A) B)),oB 62 (c5L a1.1 a1.2.1 a1.2.2.1 a1.2.2.2.1 a1.2.2.2.2)] ⟨cvo,cvo,cvo,cvo,cvs 0 Y,ivC_c 1,cvo,⟨⟩⟩ ?_
    refine zI 5 55 .i64 ((k+1:Nat):Int) (IntKind.i64.wrap ((k:Int)+1)) (sd_run 2 ?_);refine sd_inv R2_ kr (hR2_ _ (c.length-(k+1)) _ e6_ zo ⟨k+1,rfl,zo,rfl⟩ ⟨sub_of kr kr ⟨iiC_b,inC_b,inC_b,brn,brn,bk_flat (tab ivC (usel (k:Int) (usel (k:Int) (codeL c k) A) B)) kr (tab_plain ivC_pl _) (congrArg (tab ivC) (by rw[codeL_use ha1 zo,hA,hB,useI_nat,useI_nat])),⟨⟩⟩,zt⟩ kr)
   ·obtain⟨⟨qa1,qa2⟩,qb1,qb2⟩:=made_ab hmd (by omega);obtain⟨A,hA⟩:=aa qa1;obtain⟨B,hB⟩:=aa qb1;refine zT 3 33 ((k:Int)<(c.length:Int)) (zX 11 35 (pT 0 (0+k*5)) k c.length (zM 0 36 62 0 62 false iiC_len ha1 (zI 9 38 .i64 4 a1.1 (sd_run 4 (zI 0 42 .i64 4 a1.1 (sd_run 10 (sd_see 47 (jI (A:Int)) (see_int (x:=a1.2.2.1) kr hA) (sd_run 1 (zC 49 96 #[jI (A:Int),jI (k:Int),pT 4 0] (@use_s (codeL c k) A c.length (k:Int) (by simp) zo zo) [some 4,some 5] ?_)))))))));rintro Y v9 k9 ⟨rfl,rfl⟩;refine mkG (.tuple #[]) [(iiF c),(inF od),(inF rd),oB 34 (pgL (s5 0 c.length) nd nr hd hr (s1 1 od.length) (s1 2 rd.length) fl nx tg br tk ct (c.length:Int)),oB 115 [sK 5 c.length (unk+3)],(ivF (usel (k:Int) (codeL c k) A)),oB 62 (c5L a1.1 a1.2.1 a1.2.2.1 a1.2.2.2.1 a1.2.2.2.2)] ⟨cvo,cvo,cvo,cvo,cvs 0 Y,ivC_c 1,cvo,⟨⟩⟩ ?_;refine sd_run 6 (sd_see 52 (jI (B:Int)) (see_int (x:=a1.2.2.2.1) kr hB) (sd_run 1 (zC 54 96 #[jI (B:Int),jI (k:Int),pT 4 0] (@use_s (usel (k:Int) (codeL c k) A) B c.length (k:Int) (by simp) zo zo) [some 4,some 5] ?_)));rintro Y v9 k9 ⟨rfl,rfl⟩;refine mkG (.tuple #[]) [(iiF c),(inF od),(inF rd),oB 34 (pgL (s5 0 c.length) nd nr hd hr (s1 1 od.length) (s1 2 rd.length) fl nx tg br tk ct (c.length:Int)),oB 115 [sK 5 c.length (unk+3)],(ivF (usel (k:Int) (usel (k:Int) (codeL c k) A) B)),oB 62 (c5L a1.1 a1.2.1 a1.2.2.1 a1.2.2.2.1 a1.2.2.2.2)] ⟨cvo,cvo,cvo,cvo,cvs 0 Y,ivC_c 1,cvo,⟨⟩⟩ ?_
    refine zI 5 55 .i64 ((k+1:Nat):Int) (IntKind.i64.wrap ((k:Int)+1)) (sd_run 2 ?_);refine sd_inv R2_ kr (hR2_ _ (c.length-(k+1)) _ e6_ zo ⟨k+1,rfl,zo,rfl⟩ ⟨sub_of kr kr ⟨iiC_b,inC_b,inC_b,brn,brn,bk_flat (tab ivC (usel (k:Int) (usel (k:Int) (codeL c k) A) B)) kr (tab_plain ivC_pl _) (congrArg (tab ivC) (by rw[codeL_use ha1 zo,hA,hB,useI_nat,useI_nat])),⟨⟩⟩,zt⟩ kr)
   ·refine zT 3 33 ((k:Int)<(c.length:Int)) (zX 11 35 (pT 0 (0+k*5)) k c.length (zM 0 36 62 0 62 false iiC_len ha1 (zN 10 39 (a1.1:Int) 3 (sd_run 4 (zN 0 43 (a1.1:Int) 4 (zI 9 55 .i64 ((k+1:Nat):Int) (IntKind.i64.wrap ((k:Int)+1)) (sd_run 2 ?_)))))));refine sd_inv R2_ kr (hR2_ _ (c.length-(k+1)) _ e6_ zo ⟨k+1,rfl,zo,rfl⟩ ⟨sub_of kr kr ⟨iiC_b,inC_b,inC_b,brn,brn,bk_flat (tab ivC (codeL c k)) kr (tab_plain ivC_pl _) (congrArg (tab ivC) (codeL_no ha1 zo).symm),⟨⟩⟩,zt⟩ kr)
  ·obtain rfl:k=c.length:=by omega
   refine zF 3 33 ((c.length:Int)<(c.length:Int)) (sd_run 54 (sd_loop 86 (cl (cl (cr (cr (cl (cl (cr (cr (cl (cl (cr (cl (cr (cr (cr (cr (cr (cr f60b)))))))))))))))))) [.blk 6,.blk 5,.next (cr (cr (cr (cl (cl (cr (cl (cr (cr (cr (cr (cr (cr f60b))))))))))))),.loop (cl (cl (cr (cl (cr (cr (cr (cr (cr (cr f60b)))))))))),.blk 4,.next (cr (cr (cr (cr (cr (cr (cr f60b)))))))] kr kr kr (fun m9 s9=>∃(j:Nat),m9=od.length-j∧(j≤od.length)∧s9=⟨tmL [(1,pT 3 0),(3,pT 4 0),(5,.func (.func 96) #[] #[pT 4 0]),(65,sK 7 3 3),(66,jI 3),(67,jI 0),(71,(s1 1 od.length)),(72,jN od.length),(73,jI (j:Int))],hq [(iiF c),(inF od),(inF rd),oB 34 (pgL (s5 0 c.length) nd nr hd hr (s1 1 od.length) (s1 2 rd.length) fl nx tg br tk ct (c.length:Int)),oB 115 [sK 5 c.length (unk+3)],(ivF (outL (c.length:Int) (codeL c c.length) (od.take j))),oB 3 [jI fl,jI tg],oB 22 [(s1 1 od.length),(s1 2 rd.length),sK 6 2 2]]⟩) (od.length-0) _ e8_ hX ⟨0,rfl,zo,rfl⟩ ⟨sub_of kr kr ⟨iiC_b,inC_b,inC_b,brn,brn,bk_flat (tab ivC (codeL c c.length)) kr (tab_plain ivC_pl _) (congrArg (tab ivC) (by rfl)),brn,brn,⟨⟩⟩,zt⟩ kr ?_));rintro m9 s9 ⟨j,rfl,i3_0,rfl⟩ R3_ hR3_
   by_cases hlt_od:j<od.length
   ·obtain⟨a2,ha2⟩:=zR od j;obtain⟨qa1,qa2⟩:=valB_iff.1 (hR.od_ j a2 ha2);obtain⟨A,hA⟩:=aa qa1;refine zT 3 74 ((j:Int)<(od.length:Int)) (zX 10 75 (pT 1 (0+j*1)) j od.length (zL 0 76 (jI a2) 3 1 0 3 false inC_len ha2 (sd_see 76 (jI (A:Int)) (see_int (x:=a2) kr hA) (sd_run 9 (zC 82 96 #[jI (A:Int),jN c.length,pT 4 0] (@use_s (outL (c.length:Int) (codeL c c.length) (od.take j)) A c.length (c.length:Int) (by simp) zo zo) [some 4,some 5] ?_)))));rintro Y v9 k9 ⟨rfl,rfl⟩;refine mkG (.tuple #[]) [(iiF c),(inF od),(inF rd),oB 34 (pgL (s5 0 c.length) nd nr hd hr (s1 1 od.length) (s1 2 rd.length) fl nx tg br tk ct (c.length:Int)),oB 115 [sK 5 c.length (unk+3)],(ivF (usel (c.length:Int) (outL (c.length:Int) (codeL c c.length) (od.take j)) A)),oB 3 [jI fl,jI tg],oB 22 [(s1 1 od.length),(s1 2 rd.length),sK 6 2 2]] ⟨cvo,cvo,cvo,cvo,cvs 0 Y,ivC_c 1,cvo,cvo,⟨⟩⟩ ?_;refine zI 5 83 .i64 ((j+1:Nat):Int) (IntKind.i64.wrap ((j:Int)+1)) (sd_run 2 ?_);refine sd_inv R3_ kr (hR3_ _ (od.length-(j+1)) _ e8_ zo ⟨j+1,rfl,zo,rfl⟩ ⟨sub_of kr kr ⟨iiC_b,inC_b,inC_b,brn,brn,bk_flat (tab ivC (usel (c.length:Int) (outL (c.length:Int) (codeL c c.length) (od.take j)) A)) kr (tab_plain ivC_pl _) (congrArg (tab ivC) (by rw[outL_succ ha2,hA,useI_nat])),brn,brn,⟨⟩⟩,zt⟩ kr)
   ·obtain rfl:j=od.length:=by omega
    refine zF 3 74 ((od.length:Int)<(od.length:Int)) (sd_run 42 ?_);refine sd_loop 86 (cl (cl (cr (cr (cl (cl (cr (cr (cl (cl (cr (cl (cr (cr (cr (cr (cr (cr f60b)))))))))))))))))) [.blk 6,.blk 5,.next (cr (cr (cr (cl (cl (cr (cl (cr (cr (cr (cr (cr (cr f60b))))))))))))),.loop (cl (cl (cr (cl (cr (cr (cr (cr (cr (cr f60b)))))))))),.blk 4,.next (cr (cr (cr (cr (cr (cr (cr f60b)))))))] kr kr kr (fun m9 s9=>∃(j:Nat),m9=rd.length-j∧(j≤rd.length)∧s9=⟨tmL [(1,pT 3 0),(3,pT 4 0),(5,.func (.func 96) #[] #[pT 4 0]),(65,sK 7 3 3),(66,jI 3),(67,jI 1),(71,(s1 2 rd.length)),(72,jN rd.length),(73,jI (j:Int))],hq [(iiF c),(inF od),(inF rd),oB 34 (pgL (s5 0 c.length) nd nr hd hr (s1 1 od.length) (s1 2 rd.length) fl nx tg br tk ct (c.length:Int)),oB 115 [sK 5 c.length (unk+3)],(ivF (outL (c.length:Int) (outL (c.length:Int) (codeL c c.length) (od.take od.length)) (rd.take j))),oB 3 [jI fl,jI tg],oB 22 [(s1 1 od.length),(s1 2 rd.length),sK 6 2 2]]⟩) (rd.length-0) _ e8_ hX ⟨0,rfl,zo,rfl⟩ ⟨sub_of kr kr ⟨iiC_b,inC_b,inC_b,brn,brn,bk_flat (tab ivC (outL (c.length:Int) (codeL c c.length) (od.take od.length))) kr (tab_plain ivC_pl _) (congrArg (tab ivC) (by rfl)),brn,brn,⟨⟩⟩,zt⟩ kr ?_;rintro m9 s9 ⟨j,rfl,i4_0,rfl⟩ R4_ hR4_
    by_cases hlt_rd:j<rd.length
    ·obtain⟨a3,ha3⟩:=zR rd j;obtain⟨qa1,qa2⟩:=valB_iff.1 (hR.rd_ j a3 ha3);obtain⟨A,hA⟩:=aa qa1;refine zT 3 74 ((j:Int)<(rd.length:Int)) (zX 10 75 (pT 2 (0+j*1)) j rd.length (zL 0 76 (jI a3) 3 2 0 3 false inC_len ha3 (sd_see 76 (jI (A:Int)) (see_int (x:=a3) kr hA) (sd_run 9 (zC 82 96 #[jI (A:Int),jN c.length,pT 4 0] (@use_s (outL (c.length:Int) (outL (c.length:Int) (codeL c c.length) (od.take od.length)) (rd.take j)) A c.length (c.length:Int) (by simp) zo zo) [some 4,some 5] ?_)))));rintro Y v9 k9 ⟨rfl,rfl⟩;refine mkG (.tuple #[]) [(iiF c),(inF od),(inF rd),oB 34 (pgL (s5 0 c.length) nd nr hd hr (s1 1 od.length) (s1 2 rd.length) fl nx tg br tk ct (c.length:Int)),oB 115 [sK 5 c.length (unk+3)],(ivCo (usel (c.length:Int) (outL (c.length:Int) (outL (c.length:Int) (codeL c c.length) (od.take od.length)) (rd.take j)) A) false),oB 3 [jI fl,jI tg],oB 22 [(s1 1 od.length),(s1 2 rd.length),sK 6 2 2]] ⟨cvo,cvo,cvo,cvo,cvs 0 Y,ivC_c 1,cvo,cvo,⟨⟩⟩ ?_;refine zI 5 83 .i64 ((j+1:Nat):Int) (IntKind.i64.wrap ((j:Int)+1)) (sd_run 2 ?_);refine sd_inv R4_ kr (hR4_ _ (rd.length-(j+1)) _ e8_ zo ⟨j+1,rfl,zo,rfl⟩ ⟨sub_of kr kr ⟨iiC_b,inC_b,inC_b,brn,brn,bk_flat (tab ivC (usel (c.length:Int) (outL (c.length:Int) (outL (c.length:Int) (codeL c c.length) (od.take od.length)) (rd.take j)) A)) kr (tab_plain ivC_pl _) (congrArg (tab ivC) (by rw[outL_succ ha3,hA,useI_nat])),brn,brn,⟨⟩⟩,zt⟩ kr)
    ·obtain rfl:j=rd.length:=by omega
     refine zF 3 74 ((rd.length:Int)<(rd.length:Int)) (sd_run 42 ?_);rcases hR.fl_ with hfl|hfl
     ·subst hfl;rcases hR.tg_ with htg|htg
      ·subst htg;refine sd_run 25 (zG 82 96 #[jI (-1),jN c.length,pT 4 0] (@use_no (outL (c.length:Int) (outL (c.length:Int) (codeL c c.length) (od.take od.length)) (rd.take rd.length)) c.length (c.length:Int) ) [some 4,some 5] ?_);rintro v9 k9 ⟨rfl,rfl⟩;refine⟨rfl,.tuple #[],kr,?_⟩;refine sd_run 8 (sd_run 25 (zG 82 96 #[jI (-1),jN c.length,pT 4 0] (@use_no (outL (c.length:Int) (outL (c.length:Int) (codeL c c.length) (od.take od.length)) (rd.take rd.length)) c.length (c.length:Int) ) [some 4,some 5] ?_));rintro v9 k9 ⟨rfl,rfl⟩;refine⟨rfl,.tuple #[],kr,?_⟩;refine sd_run 8 (sd_run 39 ?_);refine sdZ (sK 5 c.length (unk+3)) hX (sK 3 c.length (unk+3)) [(iiF c),(inF od),(inF rd),(ivF (ofL c od rd (-1) (-1)))] (eM [1,2,3,6]) ⟨iiC_b,inC_b,inC_b,bk_flat (tab ivC (outL (c.length:Int) (outL (c.length:Int) (codeL c c.length) (od.take od.length)) (rd.take rd.length))) kr (tab_plain ivC_pl _) (congrArg (tab ivC) (by unfold ofL;simp only[ep,useI_nat,useI_no (show(-1:Int)<0 by decide)])),⟨⟩⟩ ⟨rfl,rfl⟩
      ·obtain⟨qtg1,qtg2⟩:=valB_iff.1 htg;obtain⟨TG,rfl⟩:=aa qtg1;refine sd_run 25 (zG 82 96 #[jI (-1),jN c.length,pT 4 0] (@use_no (outL (c.length:Int) (outL (c.length:Int) (codeL c c.length) (od.take od.length)) (rd.take rd.length)) c.length (c.length:Int) ) [some 4,some 5] ?_);rintro v9 k9 ⟨rfl,rfl⟩;refine⟨rfl,.tuple #[],kr,?_⟩;refine sd_run 8 (sd_run 25 (zC 82 96 #[jI (TG:Int),jN c.length,pT 4 0] (@use_s (outL (c.length:Int) (outL (c.length:Int) (codeL c c.length) (od.take od.length)) (rd.take rd.length)) TG c.length (c.length:Int) (by simp) zo zo) [some 4,some 5] ?_));rintro Y v9 k9 ⟨rfl,rfl⟩;refine mkG (.tuple #[]) [(iiF c),(inF od),(inF rd),oB 34 (pgL (s5 0 c.length) nd nr hd hr (s1 1 od.length) (s1 2 rd.length) (-1) nx (TG:Int) br tk ct (c.length:Int)),oB 115 [sK 5 c.length (unk+3)],(ivCo (usel (c.length:Int) (outL (c.length:Int) (outL (c.length:Int) (codeL c c.length) (od.take od.length)) (rd.take rd.length)) TG) false),oB 3 [jI (-1),jI (TG:Int)],oB 22 [(s1 1 od.length),(s1 2 rd.length),sK 6 2 2]] ⟨cvo,cvo,cvo,cvo,cvs 0 Y,ivC_c 1,cvo,cvo,⟨⟩⟩ ?_;refine sd_run 8 (sd_run 39 ?_)
       refine sdZ (sK 5 c.length (unk+3)) hX (sK 3 c.length (unk+3)) [(iiF c),(inF od),(inF rd),(ivF (ofL c od rd (-1) (TG:Int)))] (eM [1,2,3,6]) ⟨iiC_b,inC_b,inC_b,bk_flat (tab ivC (usel (c.length:Int) (outL (c.length:Int) (outL (c.length:Int) (codeL c c.length) (od.take od.length)) (rd.take rd.length)) TG)) kr (tab_plain ivC_pl _) (congrArg (tab ivC) (by unfold ofL;simp only[ep,useI_nat,useI_no (show(-1:Int)<0 by decide)])),⟨⟩⟩ ⟨rfl,rfl⟩
     ·obtain⟨qfl1,qfl2⟩:=valB_iff.1 hfl;obtain⟨FL,rfl⟩:=aa qfl1;rcases hR.tg_ with htg|htg
      ·subst htg;refine sd_run 25 (zC 82 96 #[jI (FL:Int),jN c.length,pT 4 0] (@use_s (outL (c.length:Int) (outL (c.length:Int) (codeL c c.length) (od.take od.length)) (rd.take rd.length)) FL c.length (c.length:Int) (by simp) zo zo) [some 4,some 5] ?_);rintro Y v9 k9 ⟨rfl,rfl⟩;refine mkG (.tuple #[]) [(iiF c),(inF od),(inF rd),oB 34 (pgL (s5 0 c.length) nd nr hd hr (s1 1 od.length) (s1 2 rd.length) (FL:Int) nx (-1) br tk ct (c.length:Int)),oB 115 [sK 5 c.length (unk+3)],(ivCo (usel (c.length:Int) (outL (c.length:Int) (outL (c.length:Int) (codeL c c.length) (od.take od.length)) (rd.take rd.length)) FL) false),oB 3 [jI (FL:Int),jI (-1)],oB 22 [(s1 1 od.length),(s1 2 rd.length),sK 6 2 2]] ⟨cvo,cvo,cvo,cvo,cvs 0 Y,ivC_c 1,cvo,cvo,⟨⟩⟩ ?_;refine sd_run 8 (sd_run 25 (zG 82 96 #[jI (-1),jN c.length,pT 4 0] (@use_no (usel (c.length:Int) (outL (c.length:Int) (outL (c.length:Int) (codeL c c.length) (od.take od.length)) (rd.take rd.length)) FL) c.length (c.length:Int) ) [some 4,some 5] ?_));rintro v9 k9 ⟨rfl,rfl⟩;refine⟨rfl,.tuple #[],kr,?_⟩;refine sd_run 8 (sd_run 39 ?_)
       refine sdZ (sK 5 c.length (unk+3)) hX (sK 3 c.length (unk+3)) [(iiF c),(inF od),(inF rd),(ivF (ofL c od rd (FL:Int) (-1)))] (eM [1,2,3,6]) ⟨iiC_b,inC_b,inC_b,bk_flat (tab ivC (usel (c.length:Int) (outL (c.length:Int) (outL (c.length:Int) (codeL c c.length) (od.take od.length)) (rd.take rd.length)) FL)) kr (tab_plain ivC_pl _) (congrArg (tab ivC) (by unfold ofL;simp only[ep,useI_nat,useI_no (show(-1:Int)<0 by decide)])),⟨⟩⟩ ⟨rfl,rfl⟩
      ·obtain⟨qtg1,qtg2⟩:=valB_iff.1 htg;obtain⟨TG,rfl⟩:=aa qtg1;refine sd_run 25 (zC 82 96 #[jI (FL:Int),jN c.length,pT 4 0] (@use_s (outL (c.length:Int) (outL (c.length:Int) (codeL c c.length) (od.take od.length)) (rd.take rd.length)) FL c.length (c.length:Int) (by simp) zo zo) [some 4,some 5] ?_);rintro Y v9 k9 ⟨rfl,rfl⟩;refine mkG (.tuple #[]) [(iiF c),(inF od),(inF rd),oB 34 (pgL (s5 0 c.length) nd nr hd hr (s1 1 od.length) (s1 2 rd.length) (FL:Int) nx (TG:Int) br tk ct (c.length:Int)),oB 115 [sK 5 c.length (unk+3)],(ivCo (usel (c.length:Int) (outL (c.length:Int) (outL (c.length:Int) (codeL c c.length) (od.take od.length)) (rd.take rd.length)) FL) false),oB 3 [jI (FL:Int),jI (TG:Int)],oB 22 [(s1 1 od.length),(s1 2 rd.length),sK 6 2 2]] ⟨cvo,cvo,cvo,cvo,cvs 0 Y,ivC_c 1,cvo,cvo,⟨⟩⟩ ?_;refine sd_run 8 (sd_run 25 (zC 82 96 #[jI (TG:Int),jN c.length,pT 4 0] (@use_s (usel (c.length:Int) (outL (c.length:Int) (outL (c.length:Int) (codeL c c.length) (od.take od.length)) (rd.take rd.length)) FL) TG c.length (c.length:Int) (by simp) zo zo) [some 4,some 5] ?_));rintro Y v9 k9 ⟨rfl,rfl⟩
       refine mkG (.tuple #[]) [(iiF c),(inF od),(inF rd),oB 34 (pgL (s5 0 c.length) nd nr hd hr (s1 1 od.length) (s1 2 rd.length) (FL:Int) nx (TG:Int) br tk ct (c.length:Int)),oB 115 [sK 5 c.length (unk+3)],(ivCo (usel (c.length:Int) (usel (c.length:Int) (outL (c.length:Int) (outL (c.length:Int) (codeL c c.length) (od.take od.length)) (rd.take rd.length)) FL) TG) false),oB 3 [jI (FL:Int),jI (TG:Int)],oB 22 [(s1 1 od.length),(s1 2 rd.length),sK 6 2 2]] ⟨cvo,cvo,cvo,cvo,cvs 0 Y,ivC_c 1,cvo,cvo,⟨⟩⟩ ?_;refine sd_run 8 (sd_run 39 ?_);refine sdZ (sK 5 c.length (unk+3)) hX (sK 3 c.length (unk+3)) [(iiF c),(inF od),(inF rd),(ivF (ofL c od rd (FL:Int) (TG:Int)))] (eM [1,2,3,6]) ⟨iiC_b,inC_b,inC_b,bk_flat (tab ivC (usel (c.length:Int) (usel (c.length:Int) (outL (c.length:Int) (outL (c.length:Int) (codeL c c.length) (od.take od.length)) (rd.take rd.length)) FL) TG)) kr (tab_plain ivC_pl _) (congrArg (tab ivC) (by unfold ofL;simp only[ep,useI_nat,useI_no (show(-1:Int)<0 by decide)])),⟨⟩⟩ ⟨rfl,rfl⟩
abbrev mkI(a b c d e:Int):II:=(a,b,c,d,e)
abbrev ecL(a p q n:Nat)(o r:Value)(nd nr hd hr fl nx tg br tk ct z:Int)(l f:Value):List Value:=[s5 a n,.int .i64 nd,.int .i64 nr,.int .i64 hd,.int .i64 hr,o,r,.int .i64 fl,.int .u32 nx,.int .i64 tg,.int .i64 br,.int .u32 tk,.int .i64 ct,.int .i64 (n:Int),.slice (some ⟨p,0,none⟩) n n,.slice (some ⟨q,0,none⟩) n n,.int .i64 z,l,f]
abbrev eK(c:List II)(od rd:List Int)(nd nr hd hr fl nx tg br tk ct slots:Int):Value→Value→List Value:=ecL 1 4 5 c.length (s1 2 od.length) (s1 3 rd.length) nd nr hd hr fl nx tg br tk ct slots
abbrev eH(c:List II)(od rd rg sl:List Int)(l:List II)(fix:List Int)(nd nr hd hr fl nx tg br tk ct slots:Int):List (Option Ob):=[oB 75 (eK c od rd nd nr hd hr fl nx tg br tk ct slots (s5 6 l.length) (s1 7 fix.length)),(iiF c),(inF od),(inF rd),(inF rg),(inF sl),(hhF l),(inF fix)]
abbrev eP(c:List II)(od rd rg sl:List Int)(l1:List II)(fix:List Int)(nd nr hd hr fl nx tg br tk ct slots:Int):List (Option Ob):=[oB 75 (eK c od rd nd nr hd hr fl nx tg br tk ct slots (s5 8 l1.length) (s1 7 fix.length)),(iiF c),(inF od),(inF rd),(inF rg),(inF sl),none,(inF fix),(hhF l1)]
abbrev SC:=SCall Tryz.prog T15
noncomputable def f30b:Code:=Tryz.f30.body.getD .skip
noncomputable def f25b:Code:=Tryz.f25.body.getD .skip
noncomputable def f65b:Code:=Tryz.f65.body.getD .skip
noncomputable def f64b:Code:=Tryz.f64.body.getD .skip
noncomputable def f72b:Code:=Tryz.f72.body.getD .skip
theorem e_add_s{c:List II}{od rd rg sl:List Int}{l:List II}{fix:List Int}{nd nr hd hr fl nx tg br tk ct slots:Int}{op r1 r2 r3 im:Int}(hll:l.length<100000):SC 30 #[pT 0 0,sK 8 1 1] (hq [oB 75 (eK c od rd nd nr hd hr fl nx tg br tk ct slots (s5 6 l.length) (s1 7 fix.length)),(iiF c),(inF od),(inF rd),(inF rg),(inF sl),(hhF l),(inF fix),oB 81 (c5L op r1 r2 r3 im)]) fun v h=>∃(l1:List II),l1=l++[(mkI op r1 r2 r3 im)]∧l1.length=l.length+1∧v=.tuple #[]∧h=hq [oB 75 (eK c od rd nd nr hd hr fl nx tg br tk ct slots (s5 9 l1.length) (s1 7 fix.length)),(iiF c),(inF od),(inF rd),(inF rg),(inF sl),none,(inF fix),oB 81 (c5L op r1 r2 r3 im),(hhF l1)]:=by
 refine zS Tryz.f30 f30b 13 9 fun X hX=>(sd_run 7 (sd_grow 10 44 44 81 4 39 6 l.length 1 9 (sK 8 1 1) (tab hhC l) [jI op,jI r1,jI r2,jI r3,jU im] (tab hhC (l++[(mkI op r1 r2 r3 im)])) kr kr kr kr kr ((tab_len hhC_len _).trans (by first|rfl|(simp only[ar,ay,aL,aP]at *;done))) kr kr (by decide) kr zo kr (tab_snoc l (mkI op r1 r2 r3 im)) (sd_see 10 (s5 9 ((l++[(mkI op r1 r2 r3 im)]).length)) (see_len (n:=(l.length+1)) kr (by simp)) (sd_run 4 ?_))))
 refine zY (.tuple #[]) hX i10_ ⟨(l++[(mkI op r1 r2 r3 im)]),rfl,(by simp),rfl,rfl⟩
theorem e_li_s{c:List II}{od rd rg sl:List Int}{l:List II}{fix:List Int}{nd nr hd hr fl nx tg br tk ct slots:Int}{r1 im:Int}(hll:l.length<100000):SC 25 #[pT 0 0,jI r1,jU im] (hq (eH c od rd rg sl l fix nd nr hd hr fl nx tg br tk ct slots)) fun v h=>∃(l1:List II),l1=l++[(mkI 1 r1 0 0 im)]∧l1.length=l.length+1∧v=.tuple #[]∧h=hq (eP c od rd rg sl l1 fix nd nr hd hr fl nx tg br tk ct slots):=by
 refine zS Tryz.f25 f25b 12 8 fun X hX=>(sd_run 6 (zC 11 30 #[pT 0 0,sK 8 1 1] (@e_add_s c od rd rg sl l fix nd nr hd hr fl nx tg br tk ct slots 1 r1 0 0 im hll) i9_ ?_))
 rintro Y v9 k9 ⟨l10_,q1_0,q1_1,rfl,rfl⟩;refine mkG (.tuple #[]) [oB 75 (eK c od rd nd nr hd hr fl nx tg br tk ct slots (s5 9 l10_.length) (s1 7 fix.length)),(iiF c),(inF od),(inF rd),(inF rg),(inF sl),none,(inF fix),oB 81 (c5L 1 r1 0 0 im),(hhF l10_)] ⟨cvr 0,cvs 1 Y,cvs 2 Y,cvs 3 Y,cvs 4 Y,cvs 5 Y,cvs 7 Y,cvs 8 Y,hhC_c 9,⟨⟩⟩ ?_;refine sd_run 1 ?_;refine zY (.tuple #[]) hX (eM [1,2,3,4,5,6,7,8,10]) ⟨l10_,q1_0,q1_1,rfl,rfl⟩
theorem e_op_s{c:List II}{od rd rg sl:List Int}{l:List II}{fix:List Int}{nd nr hd hr fl nx tg br tk ct slots:Int}{op r1 r2 r3:Int}(hll:l.length<100000):SC 65 #[pT 0 0,jI op,jI r1,jI r2,jI r3] (hq (eH c od rd rg sl l fix nd nr hd hr fl nx tg br tk ct slots)) fun v h=>∃(l1:List II),l1=l++[(mkI op r1 r2 r3 0)]∧l1.length=l.length+1∧v=.tuple #[]∧h=hq (eP c od rd rg sl l1 fix nd nr hd hr fl nx tg br tk ct slots):=by
 refine zS Tryz.f65 f65b 18 8 fun X hX=>(sd_run 8 (zC 17 30 #[pT 0 0,sK 8 1 1] (@e_add_s c od rd rg sl l fix nd nr hd hr fl nx tg br tk ct slots op r1 r2 r3 0 hll) i9_ ?_))
 rintro Y v9 k9 ⟨l10_,q1_0,q1_1,rfl,rfl⟩;refine mkG (.tuple #[]) [oB 75 (eK c od rd nd nr hd hr fl nx tg br tk ct slots (s5 9 l10_.length) (s1 7 fix.length)),(iiF c),(inF od),(inF rd),(inF rg),(inF sl),none,(inF fix),oB 81 (c5L op r1 r2 r3 0),(hhF l10_)] ⟨cvr 0,cvs 1 Y,cvs 2 Y,cvs 3 Y,cvs 4 Y,cvs 5 Y,cvs 7 Y,cvs 8 Y,hhC_c 9,⟨⟩⟩ ?_;refine sd_run 1 ?_;refine zY (.tuple #[]) hX (eM [1,2,3,4,5,6,7,8,10]) ⟨l10_,q1_0,q1_1,rfl,rfl⟩
theorem e_ld_s{c:List II}{od rd rg sl:List Int}{l:List II}{fix:List Int}{nd nr hd hr fl nx tg br tk ct slots:Int}{r1 r2 im:Int}(hll:l.length<100000):SC 64 #[pT 0 0,jI r1,jI r2,jU im] (hq (eH c od rd rg sl l fix nd nr hd hr fl nx tg br tk ct slots)) fun v h=>∃(l1:List II),l1=l++[(mkI 14 r1 r2 0 im)]∧l1.length=l.length+1∧v=.tuple #[]∧h=hq (eP c od rd rg sl l1 fix nd nr hd hr fl nx tg br tk ct slots):=by
 refine zS Tryz.f64 f64b 15 8 fun X hX=>(sd_run 7 (zC 14 30 #[pT 0 0,sK 8 1 1] (@e_add_s c od rd rg sl l fix nd nr hd hr fl nx tg br tk ct slots 14 r1 r2 0 im hll) i9_ ?_))
 rintro Y v9 k9 ⟨l10_,q1_0,q1_1,rfl,rfl⟩;refine mkG (.tuple #[]) [oB 75 (eK c od rd nd nr hd hr fl nx tg br tk ct slots (s5 9 l10_.length) (s1 7 fix.length)),(iiF c),(inF od),(inF rd),(inF rg),(inF sl),none,(inF fix),oB 81 (c5L 14 r1 r2 0 im),(hhF l10_)] ⟨cvr 0,cvs 1 Y,cvs 2 Y,cvs 3 Y,cvs 4 Y,cvs 5 Y,cvs 7 Y,cvs 8 Y,hhC_c 9,⟨⟩⟩ ?_;refine sd_run 1 ?_;refine zY (.tuple #[]) hX (eM [1,2,3,4,5,6,7,8,10]) ⟨l10_,q1_0,q1_1,rfl,rfl⟩
theorem e_st_s{c:List II}{od rd rg sl:List Int}{l:List II}{fix:List Int}{nd nr hd hr fl nx tg br tk ct slots:Int}{r2 im r3:Int}(hll:l.length<100000):SC 72 #[pT 0 0,jI r2,jU im,jI r3] (hq (eH c od rd rg sl l fix nd nr hd hr fl nx tg br tk ct slots)) fun v h=>∃(l1:List II),l1=l++[(mkI 15 0 r2 r3 im)]∧l1.length=l.length+1∧v=.tuple #[]∧h=hq (eP c od rd rg sl l1 fix nd nr hd hr fl nx tg br tk ct slots):=by
 refine zS Tryz.f72 f72b 15 8 fun X hX=>(sd_run 7 (zC 14 30 #[pT 0 0,sK 8 1 1] (@e_add_s c od rd rg sl l fix nd nr hd hr fl nx tg br tk ct slots 15 0 r2 r3 im hll) i9_ ?_))
 rintro Y v9 k9 ⟨l10_,q1_0,q1_1,rfl,rfl⟩;refine mkG (.tuple #[]) [oB 75 (eK c od rd nd nr hd hr fl nx tg br tk ct slots (s5 9 l10_.length) (s1 7 fix.length)),(iiF c),(inF od),(inF rd),(inF rg),(inF sl),none,(inF fix),oB 81 (c5L 15 0 r2 r3 im),(hhF l10_)] ⟨cvr 0,cvs 1 Y,cvs 2 Y,cvs 3 Y,cvs 4 Y,cvs 5 Y,cvs 7 Y,cvs 8 Y,hhC_c 9,⟨⟩⟩ ?_;refine sd_run 1 ?_;refine zY (.tuple #[]) hX (eM [1,2,3,4,5,6,7,8,10]) ⟨l10_,q1_0,q1_1,rfl,rfl⟩
theorem e_add_f{c:List II}{od rd rg sl:List Int}{l:List II}{nd nr hd hr fl nx tg br tk ct slots:Int}{op r1 r2 r3 im:Int}(hll:l.length<100000):SC 30 #[pT 0 0,sK 7 1 1] (hq [oB 75 (eK c od rd nd nr hd hr fl nx tg br tk ct slots (s5 6 l.length) nS),(iiF c),(inF od),(inF rd),(inF rg),(inF sl),(hhF l),oB 81 (c5L op r1 r2 r3 im)]) fun v h=>∃(l1:List II),l1=l++[(mkI op r1 r2 r3 im)]∧l1.length=l.length+1∧v=.tuple #[]∧h=hq [oB 75 (eK c od rd nd nr hd hr fl nx tg br tk ct slots (s5 8 l1.length) nS),(iiF c),(inF od),(inF rd),(inF rg),(inF sl),none,oB 81 (c5L op r1 r2 r3 im),(hhF l1)]:=by
 refine zS Tryz.f30 f30b 13 8 fun X hX=>(sd_run 7 (sd_grow 10 44 44 81 4 39 6 l.length 1 8 (sK 7 1 1) (tab hhC l) [jI op,jI r1,jI r2,jI r3,jU im] (tab hhC (l++[(mkI op r1 r2 r3 im)])) kr kr kr kr kr ((tab_len hhC_len _).trans (by first|rfl|(simp only[ar,ay,aL,aP]at *;done))) kr kr (by decide) kr zo kr (tab_snoc l (mkI op r1 r2 r3 im)) (sd_see 10 (s5 8 ((l++[(mkI op r1 r2 r3 im)]).length)) (see_len (n:=(l.length+1)) kr (by simp)) (sd_run 4 ?_))))
 refine zY (.tuple #[]) hX i9_ ⟨(l++[(mkI op r1 r2 r3 im)]),rfl,(by simp),rfl,rfl⟩
theorem e_li_f{c:List II}{od rd rg sl:List Int}{l:List II}{nd nr hd hr fl nx tg br tk ct slots:Int}{r1 im:Int}(hll:l.length<100000):SC 25 #[pT 0 0,jI r1,jU im] (hq [oB 75 (eK c od rd nd nr hd hr fl nx tg br tk ct slots (s5 6 l.length) nS),(iiF c),(inF od),(inF rd),(inF rg),(inF sl),(hhF l)]) fun v h=>∃(l1:List II),l1=l++[(mkI 1 r1 0 0 im)]∧l1.length=l.length+1∧v=.tuple #[]∧h=hq [oB 75 (eK c od rd nd nr hd hr fl nx tg br tk ct slots (s5 7 l1.length) nS),(iiF c),(inF od),(inF rd),(inF rg),(inF sl),none,(hhF l1)]:=by
 refine zS Tryz.f25 f25b 12 7 fun X hX=>(sd_run 6 (zC 11 30 #[pT 0 0,sK 7 1 1] (@e_add_f c od rd rg sl l nd nr hd hr fl nx tg br tk ct slots 1 r1 0 0 im hll) i8_ ?_))
 rintro Y v9 k9 ⟨l10_,q1_0,q1_1,rfl,rfl⟩;refine mkG (.tuple #[]) [oB 75 (eK c od rd nd nr hd hr fl nx tg br tk ct slots (s5 8 l10_.length) nS),(iiF c),(inF od),(inF rd),(inF rg),(inF sl),none,oB 81 (c5L 1 r1 0 0 im),(hhF l10_)] ⟨cvr 0,cvs 1 Y,cvs 2 Y,cvs 3 Y,cvs 4 Y,cvs 5 Y,cvs 7 Y,hhC_c 8,⟨⟩⟩ ?_;refine sd_run 1 ?_;refine zY (.tuple #[]) hX (eM [1,2,3,4,5,6,7,9]) ⟨l10_,q1_0,q1_1,rfl,rfl⟩
theorem e_op_f{c:List II}{od rd rg sl:List Int}{l:List II}{nd nr hd hr fl nx tg br tk ct slots:Int}{op r1 r2 r3:Int}(hll:l.length<100000):SC 65 #[pT 0 0,jI op,jI r1,jI r2,jI r3] (hq [oB 75 (eK c od rd nd nr hd hr fl nx tg br tk ct slots (s5 6 l.length) nS),(iiF c),(inF od),(inF rd),(inF rg),(inF sl),(hhF l)]) fun v h=>∃(l1:List II),l1=l++[(mkI op r1 r2 r3 0)]∧l1.length=l.length+1∧v=.tuple #[]∧h=hq [oB 75 (eK c od rd nd nr hd hr fl nx tg br tk ct slots (s5 7 l1.length) nS),(iiF c),(inF od),(inF rd),(inF rg),(inF sl),none,(hhF l1)]:=by
 refine zS Tryz.f65 f65b 18 7 fun X hX=>(sd_run 8 (zC 17 30 #[pT 0 0,sK 7 1 1] (@e_add_f c od rd rg sl l nd nr hd hr fl nx tg br tk ct slots op r1 r2 r3 0 hll) i8_ ?_))
 rintro Y v9 k9 ⟨l10_,q1_0,q1_1,rfl,rfl⟩;refine mkG (.tuple #[]) [oB 75 (eK c od rd nd nr hd hr fl nx tg br tk ct slots (s5 8 l10_.length) nS),(iiF c),(inF od),(inF rd),(inF rg),(inF sl),none,oB 81 (c5L op r1 r2 r3 0),(hhF l10_)] ⟨cvr 0,cvs 1 Y,cvs 2 Y,cvs 3 Y,cvs 4 Y,cvs 5 Y,cvs 7 Y,hhC_c 8,⟨⟩⟩ ?_;refine sd_run 1 ?_;refine zY (.tuple #[]) hX (eM [1,2,3,4,5,6,7,9]) ⟨l10_,q1_0,q1_1,rfl,rfl⟩
theorem e_ld_f{c:List II}{od rd rg sl:List Int}{l:List II}{nd nr hd hr fl nx tg br tk ct slots:Int}{r1 r2 im:Int}(hll:l.length<100000):SC 64 #[pT 0 0,jI r1,jI r2,jU im] (hq [oB 75 (eK c od rd nd nr hd hr fl nx tg br tk ct slots (s5 6 l.length) nS),(iiF c),(inF od),(inF rd),(inF rg),(inF sl),(hhF l)]) fun v h=>∃(l1:List II),l1=l++[(mkI 14 r1 r2 0 im)]∧l1.length=l.length+1∧v=.tuple #[]∧h=hq [oB 75 (eK c od rd nd nr hd hr fl nx tg br tk ct slots (s5 7 l1.length) nS),(iiF c),(inF od),(inF rd),(inF rg),(inF sl),none,(hhF l1)]:=by
 refine zS Tryz.f64 f64b 15 7 fun X hX=>(sd_run 7 (zC 14 30 #[pT 0 0,sK 7 1 1] (@e_add_f c od rd rg sl l nd nr hd hr fl nx tg br tk ct slots 14 r1 r2 0 im hll) i8_ ?_))
 rintro Y v9 k9 ⟨l10_,q1_0,q1_1,rfl,rfl⟩;refine mkG (.tuple #[]) [oB 75 (eK c od rd nd nr hd hr fl nx tg br tk ct slots (s5 8 l10_.length) nS),(iiF c),(inF od),(inF rd),(inF rg),(inF sl),none,oB 81 (c5L 14 r1 r2 0 im),(hhF l10_)] ⟨cvr 0,cvs 1 Y,cvs 2 Y,cvs 3 Y,cvs 4 Y,cvs 5 Y,cvs 7 Y,hhC_c 8,⟨⟩⟩ ?_;refine sd_run 1 ?_;refine zY (.tuple #[]) hX (eM [1,2,3,4,5,6,7,9]) ⟨l10_,q1_0,q1_1,rfl,rfl⟩
theorem e_add_n{c:List II}{od rd rg sl:List Int}{nd nr hd hr fl nx tg br tk ct slots:Int}{op r1 r2 r3 im:Int}:SC 30 #[pT 0 0,sK 6 1 1] (hq [oB 75 (eK c od rd nd nr hd hr fl nx tg br tk ct slots nS nS),(iiF c),(inF od),(inF rd),(inF rg),(inF sl),oB 81 (c5L op r1 r2 r3 im)]) fun v h=>v=.tuple #[]∧h=hq [oB 75 (eK c od rd nd nr hd hr fl nx tg br tk ct slots (s5 7 ([(mkI op r1 r2 r3 im)].length)) nS),(iiF c),(inF od),(inF rd),(inF rg),(inF sl),oB 81 (c5L op r1 r2 r3 im),(hhF ([(mkI op r1 r2 r3 im)]))]:=by
 refine zS Tryz.f30 f30b 13 7 fun X hX=>(sd_run 12 ?_)
 refine zY (.tuple #[]) hX i8_ ⟨rfl,rfl⟩
theorem e_li_n{c:List II}{od rd rg sl:List Int}{nd nr hd hr fl nx tg br tk ct slots:Int}{r1 im:Int}:SC 25 #[pT 0 0,jI r1,jU im] (hq [oB 75 (eK c od rd nd nr hd hr fl nx tg br tk ct slots nS nS),(iiF c),(inF od),(inF rd),(inF rg),(inF sl)]) fun v h=>v=.tuple #[]∧h=hq [oB 75 (eK c od rd nd nr hd hr fl nx tg br tk ct slots (s5 6 ([(mkI 1 r1 0 0 im)].length)) nS),(iiF c),(inF od),(inF rd),(inF rg),(inF sl),(hhF ([(mkI 1 r1 0 0 im)]))]:=by
 refine zS Tryz.f25 f25b 12 6 fun X hX=>(sd_run 6 (zC 11 30 #[pT 0 0,sK 6 1 1] (@e_add_n c od rd rg sl nd nr hd hr fl nx tg br tk ct slots 1 r1 0 0 im ) i7_ ?_))
 rintro Y v9 k9 ⟨rfl,rfl⟩;refine mkG (.tuple #[]) [oB 75 (eK c od rd nd nr hd hr fl nx tg br tk ct slots (s5 7 ([(mkI 1 r1 0 0 im)].length)) nS),(iiF c),(inF od),(inF rd),(inF rg),(inF sl),oB 81 (c5L 1 r1 0 0 im),(hhF ([(mkI 1 r1 0 0 im)]))] ⟨cvr 0,cvs 1 Y,cvs 2 Y,cvs 3 Y,cvs 4 Y,cvs 5 Y,cvs 6 Y,hhC_c 7,⟨⟩⟩ ?_;refine sd_run 1 ?_;refine zY (.tuple #[]) hX (eM [1,2,3,4,5,6,8]) ⟨rfl,rfl⟩
theorem asrc_take{α:Type}{enc:α→List Value}{s b n cap:Nat}{l:List α}{H:Heap}{e:TypeId}{ro:Bool}(hs:∀a,(enc a).length=s)(g:H.get b=some ⟨tab enc l,e,ro⟩)(hn:n≤l.length):asrc s (.slice (some ⟨b,0,none⟩) n cap) H=some (n,tab enc (l.take n)):=by
 have e1:(tab enc l).take (n*s)=tab enc (l.take n):=by
  conv=>lhs;rw[show l=l.take n++l.drop n from(eg n l).symm]
  rw[tab_app,ig (by rw[tab_len hs,aO];rw[eD hn];exact ak _),iG (by rw[tab_len hs,aO,eD hn];exact ak _)]
 exact asrc_blk g (by rw[List.drop_zero,e1]) (by rw[tab_len hs,aO,eD hn])
theorem asrc_part{α:Type}{enc:α→List Value}{s b n cap:Nat}{a b_:List α}{H:Heap}{e:TypeId}{ro:Bool}(hs:∀a,(enc a).length=s)(g:H.get b=some ⟨tab enc (a++b_),e,ro⟩)(hn:n=a.length):asrc s (.slice (some ⟨b,0,none⟩) n cap) H=some (n,tab enc a):=by
 rw[asrc_take hs g (by rw[ar];omega),hn,List.take_left]
noncomputable def f9b:Code:=Tryz.f9.body.getD .skip
theorem copy16_s{q:Sx}{d dj r rj:List Int}{ka kb:Nat}{ro:Bool}(hd:d.length*4≤140737488355328)(hr:r.length*4≤140737488355328):SCall Tryz.prog T15 9 #[(stq q q.pc (sK 0 d.length ka) (sK 1 r.length kb) q.fl q.cnt)] (hq [(uCo (d++dj) ro),(uCo (r++rj) ro)]) fun v h=>v=(stq q q.pc (s1 2 d.length) (s1 3 r.length) q.fl q.cnt)∧h=hq [(uCo (d++dj) ro),(uCo (r++rj) ro),(uF d),(uF r)]:=by
 refine zS Tryz.f9 f9b 14 2 fun X hX=>(sd_run 11 (sd_first0N 6 26 26 25 0 3 4 d.length 5 (sK 0 d.length ka) (tab uC d) (tab uC d) kr kr kr kr kr (asrc_part (a:=d) (b_:=dj) (e:=25) (ro:=ro) uC_len kr rfl) kr zo kr rfl kr (sd_run 9 (sd_first0N 11 26 26 25 0 3 6 r.length 7 (sK 1 r.length kb) (tab uC r) (tab uC r) kr kr kr kr kr (asrc_part (a:=r) (b_:=rj) (e:=25) (ro:=ro) uC_len kr rfl) kr zo kr rfl kr (sd_run 11 ?_)))))
 refine zZ (stq q q.pc (s1 5 d.length) (s1 7 r.length) q.fl q.cnt) hX (stq q q.pc (s1 2 d.length) (s1 3 r.length) q.fl q.cnt) (eM [1,2,6,8]) ⟨rfl,rfl⟩
noncomputable def f79b:Code:=Tryz.f79.body.getD .skip
theorem clone_s{l lj:List Int}{ro:Bool}{ka:Nat}(hl:l.length*4≤140737488355328):SCall Tryz.prog T15 79 #[sK 0 l.length ka] (hq [(uCo (l++lj) ro)]) fun v h=>v=(s1 1 l.length)∧h=hq [(uCo (l++lj) ro),(uF l)]:=by
 refine zS Tryz.f79 f79b 8 1 fun X hX=>?_
 refine sd_run 9 (sd_eqnil 4 0 0 l.length ka 26 25 kr kr kr kr kr (fun hz=>?_) ?_)
 ·obtain rfl:l=[]:=aG hz;refine sd_run 10 ?_;refine zZ nS hX (s1 1 (([]:List Int).length)) [some 0,none] ⟨rfl,rfl⟩
 ·refine sd_run 9 (sd_first0N 7 26 26 25 0 3 1 l.length 2 (sK 0 l.length ka) (tab uC l) (tab uC l) kr kr kr kr kr (asrc_part (a:=l) (b_:=lj) (e:=25) (ro:=ro) uC_len kr rfl) kr zo kr rfl kr (sd_run 4 ?_));refine zZ (s1 2 l.length) hX (s1 1 l.length) [some 0,some 2] ⟨rfl,rfl⟩
noncomputable def f37b:Code:=Tryz.f37.body.getD .skip
theorem copy_s{q:Sx}{d dj r rj:List Int}{ka kb:Nat}{ro:Bool}(hd:d.length*4≤140737488355328)(hr:r.length*4≤140737488355328):SCall Tryz.prog T15 37 #[(stq q q.pc (sK 0 d.length ka) (sK 1 r.length kb) q.fl q.cnt)] (hq [(uCo (d++dj) ro),(uCo (r++rj) ro)]) fun v h=>v=(stq q q.pc (s1 2 d.length) (s1 3 r.length) q.fl q.cnt)∧h=hq [(uCo (d++dj) ro),(uCo (r++rj) ro),(uF d),(uF r)]:=by
 refine zS Tryz.f37 f37b 12 2 fun X hX=>(sd_run 7 (sd_drawP kr ?_))
 refine svp_go 2 ?_;refine svp_line ?_;refine sv_call 5 79 #[sK 0 d.length ka] (@clone_s d dj ro ka hd) e1_ kr kr kr (hn_of 0 kr ⟨uC_b,⟨⟩⟩) (rnG_sound rn2_sound _ _ kr) ?_;rintro v9 k9 ⟨rfl,rfl⟩;refine⟨(s1 4 d.length),hq [(uCo (d++dj) ro),(uCo (r++rj) ro),oB 29 (slq q q.pc (sK 0 d.length ka) (sK 1 r.length kb) q.fl q.cnt),oB 29 (slw 0 nS nS 0 false false false 0 0 0 0 0 false false 0 false),(uF d)],glue_of kr kr ⟨cov_same 0 (hn_of 0 kr ⟨uC_b,⟨⟩⟩) kr kr kr kr kr,cvo,cvo,cvo,uC_c 1,⟨⟩⟩,rn2_sound _ _ kr,(fun _=>⟨kr,keep_of (l1:=[(uCo (d++dj) ro),(uCo (r++rj) ro),oB 29 (slq q q.pc (sK 0 d.length ka) (sK 1 r.length kb) q.fl q.cnt),oB 29 (slw 0 nS nS 0 false false false 0 0 0 0 0 false false 0 false)]) kr kr⟩),?_⟩;refine sv_run 1 ?_;refine sv_rd 7 (sK 1 r.length kb) 26 2 2 kr kr kr kr (veq_slice _ _ _) kr ?_;refine sv_call 8 79 #[sK 1 r.length kb] (@clone_s r rj ro kb hr) (emOf [some 1]) kr kr kr (hn_of 0 kr ⟨uC_b,⟨⟩⟩) (rnG_sound rn2_sound _ _ kr) ?_;rintro v9 k9 ⟨rfl,rfl⟩;refine⟨(s1 5 r.length),hq [(uCo (d++dj) ro),(uCo (r++rj) ro),oB 29 (slq q q.pc (sK 0 d.length ka) (sK 1 r.length kb) q.fl q.cnt),oB 29 (slw 0 nS nS 0 false false false 0 0 0 0 0 false false 0 false),(uF d),(uF r)],glue_of kr kr ⟨cvo,cov_same 0 (hn_of 0 kr ⟨uC_b,⟨⟩⟩) kr kr kr kr kr,cvo,cvo,cvo,uC_c 1,⟨⟩⟩,rn2_sound _ _ kr,(calm_no kr),?_⟩;refine sv_run 4 ?_;refine sv_end kr ?_;refine sd_run 8 ?_
 refine zZ (stq q q.pc (s1 4 d.length) (s1 5 r.length) q.fl q.cnt) hX (stq q q.pc (s1 2 d.length) (s1 3 r.length) q.fl q.cnt) (eM [1,2,5,6]) ⟨rfl,rfl⟩
noncomputable def f80b:Code:=Tryz.f80.body.getD .skip
theorem same_t{l lj lk:List Int}{ro ro2:Bool}{ka kb:Nat}(hl:l.length<4611686018427387904):SCall Tryz.prog T15 80 #[sK 0 l.length ka,sK 1 l.length kb] (hq [(uCo (l++lj) ro),(uCo (l++lk) ro2)]) fun v h=>v=.bool true∧h=hq [(uCo (l++lj) ro),(uCo (l++lk) ro2)]:=by
 refine zS Tryz.f80 f80b 26 2 fun X hX=>(zQ 13 10 (l.length:Int) (l.length:Int) (sd_run 12 (sd_loop 26 (cl (cl (cr (cl (cr (cr f80b)))))) [.blk 0,.next (cr (cr (cr f80b)))] kr kr kr (fun m9 s9=>∃(k:Nat),m9=l.length-k∧(k≤l.length)∧s9=⟨tmL [(0,sK 0 l.length ka),(1,sK 1 l.length kb),(5,jI (k:Int))],hq [(uCo (l++lj) ro),(uCo (l++lk) ro2)]⟩) (l.length-0) _ e2_ hX ⟨0,rfl,zo,rfl⟩ ⟨zs,zt⟩ kr ?_)))
 rintro m9 s9 ⟨k,rfl,i1_0,rfl⟩ R1_ hR1_
 by_cases hlt:k<l.length
 ·obtain⟨a1,ha1⟩:=zR l k;refine zT 7 14 ((k:Int)<(l.length:Int)) (zX 11 19 (pT 0 (0+k*1)) k l.length (sd_ld 20 (jU a1) 25 (pT 0 (0+k*1)) kr kr kr (ld_cell (l:=l++lj) (e:=25) (ro:=ro) (k:=k) (j:=0) uC_len kr kr kr (app_at ha1) rfl) (zX 2 23 (pT 1 (0+k*1)) k l.length (sd_ld 24 (jU a1) 25 (pT 1 (0+k*1)) kr kr kr (ld_cell (l:=l++lk) (e:=25) (ro:=ro2) (k:=k) (j:=0) uC_len kr kr kr (app_at ha1) rfl) (sd_run 1 (sd_see 25 (.bool false) (see_bool kr ((bne_self_eq_false _):((a1:Int) != a1)=false)) (zI 9 16 .i64 ((k+1:Nat):Int) (IntKind.i64.wrap ((k:Int)+1)) (sd_run 2 ?_))))))));refine sd_inv R1_ kr (hR1_ _ (l.length-(k+1)) _ e2_ zo ⟨k+1,rfl,zo,rfl⟩ ⟨zs,zt⟩ kr)
 ·obtain rfl:k=l.length:=by omega
  refine zF 7 14 ((l.length:Int)<(l.length:Int)) (sd_run 14 ?_);refine zY (.bool true) hX i2_ ⟨rfl,rfl⟩
noncomputable def f38b:Code:=Tryz.f38.body.getD .skip
set_option maxHeartbeats 1000000 in
theorem sameS_t{q:Sx}{d dj dk r rj rk:List Int}{ro ro2:Bool}{ka kb kc kd:Nat}(hd:d.length<4611686018427387904)(hr:r.length<4611686018427387904):SCall Tryz.prog T15 38 #[(stq q q.pc (sK 0 d.length ka) (sK 1 r.length kb) q.fl q.cnt),(stq q q.pc (sK 2 d.length kc) (sK 3 r.length kd) q.fl q.cnt)] (hq [(uCo (d++dj) ro),(uCo (r++rj) ro),(uCo (d++dk) ro2),(uCo (r++rk) ro2)]) fun v h=>v=.bool true∧h=hq [(uCo (d++dj) ro),(uCo (r++rj) ro),(uCo (d++dk) ro2),(uCo (r++rk) ro2)]:=by
 refine zS Tryz.f38 f38b 115 4 fun X hX=>(sd_run 14 (sd_see 9 (.bool true) (see_bool kr ((beq_self_eq_true _):((q.pc:Int) == q.pc)=true)) (sd_run 5 (zG 15 80 #[sK 0 d.length ka,sK 2 d.length kc] (@same_t d dj dk ro ro2 ka kc hd) [some 0,some 2] ?_))))
 rintro v9 k9 ⟨rfl,rfl⟩;refine⟨rfl,.bool true,kr,?_⟩;refine sd_run 6 (zG 22 80 #[sK 1 r.length kb,sK 3 r.length kd] (@same_t r rj rk ro ro2 kb kd hr) [some 1,some 3] ?_);rintro v9 k9 ⟨rfl,rfl⟩;refine⟨rfl,.bool true,kr,?_⟩;refine sd_run 7 (sd_see 29 (.bool true) (see_bool kr ((beq_self_eq_true _):((q.fl:Int) == q.fl)=true)) (sd_run 7 (sd_see 36 (.bool true) (see_bool kr ((beq_self_eq_true _):(q.su == q.su)=true)) (sd_run 7 (sd_see 43 (.bool true) (see_bool kr ((beq_self_eq_true _):(q.pg == q.pg)=true)) (sd_run 7 (sd_see 50 (.bool true) (see_bool kr ((beq_self_eq_true _):(q.ie == q.ie)=true)) (sd_run 7 (sd_see 57 (.bool true) (see_bool kr ((beq_self_eq_true _):((q.root:Int) == q.root)=true)) (sd_run 7 (sd_see 64 (.bool true) (see_bool kr ((beq_self_eq_true _):((q.vec:Int) == q.vec)=true)) (sd_run 7 (sd_see 71 (.bool true) (see_bool kr ((beq_self_eq_true _):((q.epc:Int) == q.epc)=true)) (sd_run 7 (sd_see 78 (.bool true) (see_bool kr ((beq_self_eq_true _):((q.cause:Int) == q.cause)=true)) ?_)))))))))))))))
 refine sd_run 7 (sd_see 85 (.bool true) (see_bool kr ((beq_self_eq_true _):((q.addr:Int) == q.addr)=true)) (sd_run 7 (sd_see 92 (.bool true) (see_bool kr ((beq_self_eq_true _):(q.es == q.es)=true)) (sd_run 7 (sd_see 99 (.bool true) (see_bool kr ((beq_self_eq_true _):(q.ei == q.ei)=true)) (sd_run 7 (sd_see 106 (.bool true) (see_bool kr ((beq_self_eq_true _):((q.cnt:Int) == q.cnt)=true)) (sd_run 7 (sd_see 113 (.bool true) (see_bool kr ((beq_self_eq_true _):(q.ha == q.ha)=true)) (sd_run 5 ?_))))))))));refine zY (.bool true) hX i4_ ⟨rfl,rfl⟩
noncomputable def f15b:Code:=Tryz.f15.body.getD .skip
theorem keep_t{q:Sx}{d dj dk r rj rk:List Int}{ro ro2:Bool}{ka kb kc kd:Nat}(hd:d.length<4611686018427387904)(hr:r.length<4611686018427387904):SCall Tryz.prog T15 15 #[(stq q q.pc (sK 0 d.length ka) (sK 1 r.length kb) q.fl q.cnt),(stq q q.pc (sK 2 d.length kc) (sK 3 r.length kd) q.fl q.cnt)] (hq [(uCo (d++dj) ro),(uCo (r++rj) ro),(uCo (d++dk) ro2),(uCo (r++rk) ro2)]) fun v h=>v=.bool true∧h=hq [(uCo (d++dj) ro),(uCo (r++rj) ro),(uCo (d++dk) ro2),(uCo (r++rk) ro2)]:=by
 refine zS Tryz.f15 f15b 8 4 fun X hX=>(sd_run 11 (zG 7 38 #[(stq q q.pc (sK 0 d.length ka) (sK 1 r.length kb) q.fl q.cnt),(stq q q.pc (sK 2 d.length kc) (sK 3 r.length kd) q.fl q.cnt)] (@sameS_t q d dj dk r rj rk ro ro2 ka kb kc kd hd hr) i4_ ?_))
 rintro v9 k9 ⟨rfl,rfl⟩;refine⟨rfl,.bool true,kr,?_⟩;refine sd_run 4 ?_;refine zY (.bool true) hX i4_ ⟨rfl,rfl⟩
noncomputable def f4b:Code:=Tryz.f4.body.getD .skip
theorem trim_s{q:Sx}{d dj r rj:List Int}{ro:Bool}(hd:d.length*4≤140737488355328)(hr:r.length*4≤140737488355328):SCall Tryz.prog T15 4 #[(stq q q.pc (s1 0 d.length) (s1 1 r.length) q.fl q.cnt)] (hq [(uCo (d++dj) ro),(uCo (r++rj) ro)]) fun v h=>v=(stq q q.pc (s1 2 ((d.take 16).length)) (s1 3 ((r.take 16).length)) (Int.tmod q.fl 16) (Int.tmod q.cnt 1099511627776))∧h=hq [(uCo (d++dj) ro),(uCo (r++rj) ro),(uF (d.take 16++d.drop 16)),(uF (r.take 16++r.drop 16))]:=by
 have ed:(d.take 16).length=min 16 d.length:=aO;have er:(r.take 16).length=min 16 r.length:=aO;rcases(by omega:(16<d.length∧16<r.length)∨(16<d.length∧r.length≤16)∨(d.length≤16∧16<r.length)∨(d.length≤16∧r.length≤16))with hc|hc|hc|hc
 ·refine zS Tryz.f4 f4b 30 2 fun X hX=>(sd_run 9 (zC 4 9 #[(stq q q.pc (s1 0 d.length) (s1 1 r.length) q.fl q.cnt)] (@copy16_s q d dj r rj (unk+1) (unk+1) ro hd hr) i2_ ?_))
  rintro Y v9 k9 ⟨rfl,rfl⟩;refine mkG (stq q q.pc (s1 4 d.length) (s1 5 r.length) q.fl q.cnt) [(uCo (d++dj) ro),(uCo (r++rj) ro),oB 29 (slq q q.pc (s1 0 d.length) (s1 1 r.length) q.fl q.cnt),oB 29 (slw 0 nS nS 0 false false false 0 0 0 0 0 false false 0 false),(uF d),(uF r)] ⟨cvs 0 Y,cvs 1 Y,cvo,cvo,uC_c 2,uC_c 3,⟨⟩⟩ ?_;refine zT 10 8 ((d.length:Int)>16) (sd_run 6 (sd_slh 11 26 25 1 4 0 d.length 16 .i64 kr kr kr kr kr zo (zT 11 16 ((r.length:Int)>16) (sd_run 6 (sd_slh 19 26 25 1 5 0 r.length 16 .i64 kr kr kr kr kr zo (sd_run 29 ?_))))));refine sdZ (stq q q.pc (s1 4 16) (s1 5 16) (Int.tmod q.fl 16) (Int.tmod q.cnt 1099511627776)) hX (stq q q.pc (s1 2 16) (s1 3 16) (Int.tmod q.fl 16) (Int.tmod q.cnt 1099511627776)) [(uCo (d++dj) ro),(uCo (r++rj) ro),(uF (d.take 16++d.drop 16)),(uF (r.take 16++r.drop 16))] (eM [1,2,5,6]) ⟨uC_b,uC_b,bk_flat (tab uC d) kr (tab_plain uC_pl _) (congrArg (tab uC) (eg 16 d).symm),bk_flat (tab uC r) kr (tab_plain uC_pl _) (congrArg (tab uC) (eg 16 r).symm),⟨⟩⟩ ⟨(by rw[show(d.take 16).length=16 by omega,show(r.take 16).length=16 by omega]),rfl⟩
 ·refine zS Tryz.f4 f4b 30 2 fun X hX=>(sd_run 9 (zC 4 9 #[(stq q q.pc (s1 0 d.length) (s1 1 r.length) q.fl q.cnt)] (@copy16_s q d dj r rj (unk+1) (unk+1) ro hd hr) i2_ ?_))
  rintro Y v9 k9 ⟨rfl,rfl⟩;refine mkG (stq q q.pc (s1 4 d.length) (s1 5 r.length) q.fl q.cnt) [(uCo (d++dj) ro),(uCo (r++rj) ro),oB 29 (slq q q.pc (s1 0 d.length) (s1 1 r.length) q.fl q.cnt),oB 29 (slw 0 nS nS 0 false false false 0 0 0 0 0 false false 0 false),(uF d),(uF r)] ⟨cvs 0 Y,cvs 1 Y,cvo,cvo,uC_c 2,uC_c 3,⟨⟩⟩ ?_;refine zT 10 8 ((d.length:Int)>16) (sd_run 6 (sd_slh 11 26 25 1 4 0 d.length 16 .i64 kr kr kr kr kr zo (zF 11 16 ((r.length:Int)>16) (sd_run 30 ?_))));refine sdZ (stq q q.pc (s1 4 16) (s1 5 r.length) (Int.tmod q.fl 16) (Int.tmod q.cnt 1099511627776)) hX (stq q q.pc (s1 2 16) (s1 3 r.length) (Int.tmod q.fl 16) (Int.tmod q.cnt 1099511627776)) [(uCo (d++dj) ro),(uCo (r++rj) ro),(uF (d.take 16++d.drop 16)),(uF (r.take 16++r.drop 16))] (eM [1,2,5,6]) ⟨uC_b,uC_b,bk_flat (tab uC d) kr (tab_plain uC_pl _) (congrArg (tab uC) (eg 16 d).symm),bk_flat (tab uC r) kr (tab_plain uC_pl _) (congrArg (tab uC) (eg 16 r).symm),⟨⟩⟩ ⟨(by rw[show(d.take 16).length=16 by omega,show(r.take 16).length=r.length by omega]),rfl⟩
 ·refine zS Tryz.f4 f4b 30 2 fun X hX=>(sd_run 9 (zC 4 9 #[(stq q q.pc (s1 0 d.length) (s1 1 r.length) q.fl q.cnt)] (@copy16_s q d dj r rj (unk+1) (unk+1) ro hd hr) i2_ ?_))
  rintro Y v9 k9 ⟨rfl,rfl⟩;refine mkG (stq q q.pc (s1 4 d.length) (s1 5 r.length) q.fl q.cnt) [(uCo (d++dj) ro),(uCo (r++rj) ro),oB 29 (slq q q.pc (s1 0 d.length) (s1 1 r.length) q.fl q.cnt),oB 29 (slw 0 nS nS 0 false false false 0 0 0 0 0 false false 0 false),(uF d),(uF r)] ⟨cvs 0 Y,cvs 1 Y,cvo,cvo,uC_c 2,uC_c 3,⟨⟩⟩ ?_;refine zF 10 8 ((d.length:Int)>16) (zT 12 16 ((r.length:Int)>16) (sd_run 6 (sd_slh 19 26 25 1 5 0 r.length 16 .i64 kr kr kr kr kr zo (sd_run 29 ?_))));refine sdZ (stq q q.pc (s1 4 d.length) (s1 5 16) (Int.tmod q.fl 16) (Int.tmod q.cnt 1099511627776)) hX (stq q q.pc (s1 2 d.length) (s1 3 16) (Int.tmod q.fl 16) (Int.tmod q.cnt 1099511627776)) [(uCo (d++dj) ro),(uCo (r++rj) ro),(uF (d.take 16++d.drop 16)),(uF (r.take 16++r.drop 16))] (eM [1,2,5,6]) ⟨uC_b,uC_b,bk_flat (tab uC d) kr (tab_plain uC_pl _) (congrArg (tab uC) (eg 16 d).symm),bk_flat (tab uC r) kr (tab_plain uC_pl _) (congrArg (tab uC) (eg 16 r).symm),⟨⟩⟩ ⟨(by rw[show(d.take 16).length=d.length by omega,show(r.take 16).length=16 by omega]),rfl⟩
 ·refine zS Tryz.f4 f4b 30 2 fun X hX=>(sd_run 9 (zC 4 9 #[(stq q q.pc (s1 0 d.length) (s1 1 r.length) q.fl q.cnt)] (@copy16_s q d dj r rj (unk+1) (unk+1) ro hd hr) i2_ ?_))
  rintro Y v9 k9 ⟨rfl,rfl⟩;refine mkG (stq q q.pc (s1 4 d.length) (s1 5 r.length) q.fl q.cnt) [(uCo (d++dj) ro),(uCo (r++rj) ro),oB 29 (slq q q.pc (s1 0 d.length) (s1 1 r.length) q.fl q.cnt),oB 29 (slw 0 nS nS 0 false false false 0 0 0 0 0 false false 0 false),(uF d),(uF r)] ⟨cvs 0 Y,cvs 1 Y,cvo,cvo,uC_c 2,uC_c 3,⟨⟩⟩ ?_;refine zF 10 8 ((d.length:Int)>16) (zF 12 16 ((r.length:Int)>16) (sd_run 30 ?_));refine sdZ (stq q q.pc (s1 4 d.length) (s1 5 r.length) (Int.tmod q.fl 16) (Int.tmod q.cnt 1099511627776)) hX (stq q q.pc (s1 2 d.length) (s1 3 r.length) (Int.tmod q.fl 16) (Int.tmod q.cnt 1099511627776)) [(uCo (d++dj) ro),(uCo (r++rj) ro),(uF (d.take 16++d.drop 16)),(uF (r.take 16++r.drop 16))] (eM [1,2,5,6]) ⟨uC_b,uC_b,bk_flat (tab uC d) kr (tab_plain uC_pl _) (congrArg (tab uC) (eg 16 d).symm),bk_flat (tab uC r) kr (tab_plain uC_pl _) (congrArg (tab uC) (eg 16 r).symm),⟨⟩⟩ ⟨(by rw[show(d.take 16).length=d.length by omega,show(r.take 16).length=r.length by omega]),rfl⟩
def stOk(d r:List Int)(fl:Int):Bool:=decide (d.length≤16)&&(decide (r.length≤16)&&decide (fl≤15))
def fitB(n:Nat)(need high:Int):Bool:=decide (need≤(n:Int))&&decide ((n:Int)≤16-high)
def fitsB(nd nr hd hr:Int)(d r:List Int)(fl:Int):Bool:=stOk d r fl&&(fitB d.length nd hd&&fitB r.length nr hr)
theorem i64w{x y:Int}(h:x=y)(h1 : -9223372036854775808≤y)(h2:y≤9223372036854775807):IntKind.i64.wrap x=y:=by subst h;exact w64 rfl h1 h2
def argD(l:List Int)(k:Nat):Int:=l.getD (l.length-1-k) 0
def mkV(d r V:List Int)(x:II):Int :=
 if x.1=0 then x.2.2.2.2 else if x.1=1 then argD d x.2.2.2.2.toNat else if x.1=2 then argD r x.2.2.2.2.toNat
 else if x.1=3 then doR x.2.2.2.2 (V.getD x.2.2.1.toNat 0) (V.getD x.2.2.2.1.toNat 0)else doF x.2.2.2.2 (V.getD x.2.2.1.toNat 0) (V.getD x.2.2.2.1.toNat 0)
def evV(c:List II)(d r:List Int):Nat→List Int
 |0=>List.replicate c.length 0
 |k+1=>match c[k]? with|some x=>(evV c d r k).set k (mkV d r (evV c d r k) x)|none=>evV c d r k
@[simp] theorem evV_len(c:List II)(d r:List Int):∀k,(evV c d r k).length=c.length
 |0=>by simp[evV]
 |k+1=>by unfold evV;split;(simp[evV_len c d r k]);exact evV_len c d r k
theorem evV_succ{c:List II}{d r:List Int}{k:Nat}{x:II}(h:c[k]? = some x):evV c d r (k+1)=(evV c d r k).set k (mkV d r (evV c d r k) x):=by show(match c[k]? with|some x=>_|none=>_)=_;rw[h]
def putL(V l:List Int)(need:Nat)(out:List Int):List Int:=l.take (l.length-need)++out.map fun x=>V.getD x.toNat 0
theorem putL_succ{V l:List Int}{need:Nat}{out:List Int}{j:Nat}{x:Int}(h:out[j]? = some x):putL V l need (out.take j)++[V.getD x.toNat 0]=putL V l need (out.take (j+1)):=by unfold putL;rw[eV,h];simp
def leftF(V:List Int)(fl f0:Int):Int:=if fl = -1 then f0 else V.getD fl.toNat 0 % 16
def leftP(V:List Int)(nx tg br tk F:Int):Int:=if hK br=true∧hB br F=true then tk else if tg = -1 then nx else V.getD tg.toNat 0
theorem valB_iff2{n k:Int}:valB n k=true↔0≤n∧n<k:=by simp[valB]
def V32(V:List Int):Prop:=∀x∈V,0≤x∧x<4294967296
theorem V32.getD{V:List Int}(h:V32 V)(n:Nat):0≤V.getD n 0∧V.getD n 0<4294967296:=by
 rw[aj];cases hn:V[n]? with
 |none=>exact⟨aK _,by decide⟩
 |some x=>exact h x (ah hn)
theorem u32B_of{n:Int}(h:0≤n∧n<4294967296):u32B n=true:=u32B_iff.2 h
theorem u32B2{a b:Int}(h:0≤a∧a<4294967296)(k:0≤b∧b<4294967296):(u32B a&&u32B b)=true:=by rw[u32B_of h,u32B_of k];rfl
theorem doF_rng(op a b:Int)(h0:0≤a)(h1:a<4294967296)(h2:0≤b)(h3:b<4294967296):0≤doF op a b∧doF op a b<4294967296:=by
 unfold doF moreF lessF;have p1:=pf_rng ((a+b) % 4294967296);have p2:=pf_rng ((a-b) % 4294967296);have p3:=pf_rng (doR op a b);have p4:=pf_rng (a / b)
 repeat' split
 all_goals omega
theorem mkV_rng{d r V:List Int}(hd:V32 d)(hr:V32 r)(hV:V32 V){x:II}(hx:0≤x.2.2.2.2∧x.2.2.2.2<4294967296):0≤mkV d r V x∧mkV d r V x<4294967296:=by
 unfold mkV;split
 ·exact hx
 split
 ·exact hd.getD _
 split
 ·exact hr.getD _
 have a:=hV.getD x.2.2.1.toNat
 have b:=hV.getD x.2.2.2.1.toNat
 split
 ·exact doR_rng _ _ _ a.1 a.2 b.1 b.2
 ·exact doF_rng _ _ _ a.1 a.2 b.1 b.2
theorem evV_32{c:List II}{d r:List Int}(hd:V32 d)(hr:V32 r)(hi:∀x∈c,0≤x.2.2.2.2∧x.2.2.2.2<4294967296):∀k,V32 (evV c d r k)
 |0=>fun x hx=>by simp[evV]at hx;omega
 |k+1=>by
  unfold evV;split
  ·rename_i x hx;intro y hy;rcases List.mem_or_eq_of_mem_set hy with h|h
   ·exact evV_32 hd hr hi k y h
   ·rw[h];exact mkV_rng hd hr (evV_32 hd hr hi k) (hi x (ah hx))
  ·exact evV_32 hd hr hi k
theorem fitsB_iff{nd nr hd hr:Int}{d r:List Int}{fl:Int}:fitsB nd nr hd hr d r fl=true↔(d.length≤16∧r.length≤16∧fl≤15)∧(nd≤(d.length:Int)∧(d.length:Int)≤16-hd)∧nr≤(r.length:Int)∧(r.length:Int)≤16-hr:=by simp[fitsB,stOk,fitB]
theorem V32.putL{V l:List Int}(hl:V32 l)(hV:V32 V)(n:Nat)(out:List Int):V32 (putL V l n out):=fun x hx=>by
 rcases eE.1 hx with h|h
 ·exact hl x (List.mem_of_mem_take h)
 ·obtain⟨y,_,rfl⟩:=iH.1 h;exact hV.getD _
noncomputable def f40b:Code:=Tryz.f40.body.getD .skip
theorem stright_s{q:Sx}{d dj r rj:List Int}{ka kb:Nat}{ro:Bool}:SCall Tryz.prog T15 40 #[(stq q q.pc (sK 0 d.length ka) (sK 1 r.length kb) q.fl q.cnt)] (hq [(uCo (d++dj) ro),(uCo (r++rj) ro)]) fun v h=>v=.bool (stOk d r q.fl)∧h=hq [(uCo (d++dj) ro),(uCo (r++rj) ro)]:=by
 refine zS Tryz.f40 f40b 18 2 fun X hX=>?_
 refine zB 13 7 (decide ((d.length:Int)≤16)) (fun hc1=>?_) fun hc1=>?_
 ·refine zB 6 13 (decide ((r.length:Int)≤16)) (fun hc2=>?_) fun hc2=>?_
  ·refine zB 8 2 (decide ((q.fl:Int)≤15)) (fun hc3=>?_) fun hc3=>?_
   ·simp only[bd]at hc1 hc2 hc3;refine zY (.bool true) hX i2_ ⟨(by congr 1;unfold stOk;rw[ag];simp;omega),rfl⟩
   ·simp only[bd]at hc1 hc2 hc3;refine zY (.bool false) hX i2_ ⟨(by congr 1;unfold stOk;rw[ag];simp;omega),rfl⟩
  ·refine sd_run 8 ?_;simp only[bd]at hc1 hc2;refine zY (.bool false) hX i2_ ⟨(by congr 1;unfold stOk;rw[ag];simp;omega),rfl⟩
 ·refine sd_run 14 ?_;simp only[bd]at hc1;refine zY (.bool false) hX i2_ ⟨(by congr 1;unfold stOk;rw[ag];simp;omega),rfl⟩
noncomputable def f76b:Code:=Tryz.f76.body.getD .skip
theorem stright16_s{q:Sx}{d dj r rj:List Int}{ka kb:Nat}{ro:Bool}:SCall Tryz.prog T15 76 #[(stq q q.pc (sK 0 d.length ka) (sK 1 r.length kb) q.fl q.cnt)] (hq [(uCo (d++dj) ro),(uCo (r++rj) ro)]) fun v h=>v=.bool (stOk d r q.fl)∧h=hq [(uCo (d++dj) ro),(uCo (r++rj) ro)]:=by
 refine zS Tryz.f76 f76b 18 2 fun X hX=>?_
 refine zB 13 7 (decide ((d.length:Int)≤16)) (fun hc1=>?_) fun hc1=>?_
 ·refine zB 6 13 (decide ((r.length:Int)≤16)) (fun hc2=>?_) fun hc2=>?_
  ·refine zB 8 2 (decide ((q.fl:Int)<16)) (fun hc3=>?_) fun hc3=>?_
   ·simp only[bd]at hc1 hc2 hc3;refine zY (.bool true) hX i2_ ⟨(by congr 1;unfold stOk;rw[ag];simp;omega),rfl⟩
   ·simp only[bd]at hc1 hc2 hc3;refine zY (.bool false) hX i2_ ⟨(by congr 1;unfold stOk;rw[ag];simp;omega),rfl⟩
  ·refine sd_run 8 ?_;simp only[bd]at hc1 hc2;refine zY (.bool false) hX i2_ ⟨(by congr 1;unfold stOk;rw[ag];simp;omega),rfl⟩
 ·refine sd_run 14 ?_;simp only[bd]at hc1;refine zY (.bool false) hX i2_ ⟨(by congr 1;unfold stOk;rw[ag];simp;omega),rfl⟩
def hI(op a b:Int):Int :=
 if op=2 then a else if op=3 then(a+b) % 18446744073709551616 else if op=4 then(a-b) % 18446744073709551616
 else if op=5 then((a.toNat &&& b.toNat:Nat):Int)else if op=6 then((a.toNat ||| b.toNat:Nat):Int)else if op=7 then((a.toNat ^^^ b.toNat:Nat):Int)
 else if op=8 then a*2 ^ min b.toNat 64 % 18446744073709551616 else if op=9 then a / 2 ^ min b.toNat 64 else if op=10 then a*b % 18446744073709551616
 else if op=11 then(if b=0 then 0 else a / b)else if op=12 then(if a<b then 1 else 0)else(if a=b then 1 else 0)
def u32P(x:Int):Prop:=0≤x∧x<4294967296
def hostO(op:Int):Int:=if op=16 then 3 else if op=18 then 5 else if op=19 then 6 else if op=20 then 7 else if op=21 then 8 else if op=22 then 9 else if op=23 then 10 else 4
def lowO(op:Int):Bool:=decide (op=18∨op=19∨op=20∨op=22)
def aluI(op a b:Int):Int:=if lowO op then hI (hostO op) a b else hI 5 (hI (hostO op) a b) 4294967295
theorem h5_mask{x:Int}(h:0≤x):hI 5 x 4294967295=x % 4294967296:=by
 obtain⟨n,rfl⟩:=aa h;show(((n:Int).toNat &&& (4294967295:Int).toNat:Nat):Int)=_;rw[aH,show(4294967295:Int).toNat=2 ^ 32-1 by decide,iM];omega
theorem bits_u32{a b:Int}(ha:u32P a)(hb:u32P b):hI 5 a b=bits .and .u32 a b∧hI 6 a b=bits .or .u32 a b∧hI 7 a b=bits .xor .u32 a b:=by
 obtain⟨n,rfl⟩:=aa ha.1;obtain⟨m,rfl⟩:=aa hb.1;have h1:=ha.2;have h2:=hb.2;rw[u32_and n m (by omega) (by omega),u32_or n m (by omega) (by omega),u32_xor n m (by omega) (by omega)];exact⟨rfl,rfl,rfl⟩
theorem pow_split{b:Nat}(h:32≤b)(x:Int):x*2 ^ b % 4294967296=0:=by
 have e:(2:Int) ^ b=4294967296*2 ^ (b-32):=by
  rw[show b=32+(b-32) by omega,Int.pow_add,show 32+(b-32)-32=b-32 by omega];rfl
 rw[e,←Int.mul_assoc,Int.mul_comm x,Int.mul_assoc];exact Int.mul_emod_right _ _
theorem mod_mod(x:Int):x % 18446744073709551616 % 4294967296=x % 4294967296:=Int.emod_emod_of_dvd x ⟨4294967296,by decide⟩
theorem alu_do{op a b:Int}(ha:u32P a)(hb:u32P b)(ho:(16≤op∧op≤23)∨op=25):aluI op a b=if op=25 then(a-b) % 4294967296 else doR op a b:=by
 obtain⟨b1,b2,b3⟩:=bits_u32 ha hb;have g0:=ha.1;have g1:=ha.2;have g2:=hb.1;have g3:=hb.2;rcases(by omega:op=16∨op=17∨op=18∨op=19∨op=20∨op=21∨op=22∨op=23∨op=25)with rfl|rfl|rfl|rfl|rfl|rfl|rfl|rfl|rfl
 ·show hI 5 ((a+b) % 18446744073709551616) 4294967295=(a+b) % 4294967296;rw[h5_mask (by omega),mod_mod]
 ·show hI 5 ((a-b) % 18446744073709551616) 4294967295=(a-b) % 4294967296;rw[h5_mask (by omega),mod_mod]
 ·exact b1
 ·exact b2
 ·exact b3
 ·show hI 5 (a*2 ^ min b.toNat 64 % 18446744073709551616) 4294967295=mvF a b true;rw[h5_mask (eQ _ (by decide)),mod_mod];unfold mvF
  by_cases h:32≤b
  ·rw[if_pos h,pow_split (by omega)]
  ·rw[if_neg h,if_pos rfl,eD (by omega)]
 ·show a / 2 ^ min b.toNat 64=mvF a b false;unfold mvF
  by_cases h:32≤b
  ·rw[if_pos h];refine Int.ediv_eq_zero_of_lt g0 (Int.lt_of_lt_of_le g1 ?_)
   have:(2:Int) ^ 32≤2 ^ min b.toNat 64:=by
    have:=Nat.pow_le_pow_right (n:=2) (by decide) (show 32≤min b.toNat 64 by omega)
    exact_mod_cast this
   omega
  ·rw[if_neg h,if_neg (by simp),eD (by omega)]
 ·show hI 5 (a*b % 18446744073709551616) 4294967295=a*b % 4294967296;rw[h5_mask (eQ _ (by decide)),mod_mod]
 ·show hI 5 ((a-b) % 18446744073709551616) 4294967295=(a-b) % 4294967296;rw[h5_mask (by omega),mod_mod]
theorem mod_u32(x:Int):u32P (x % 4294967296):=⟨by omega,by omega⟩
theorem hI_and_le{a b:Int}(hb:u32P b):u32P (hI 5 a b):=by
 have:(a.toNat &&& b.toNat:Nat)≤b.toNat:=Nat.and_le_right;have h:=hb.1;have h2:=hb.2;show u32P ((a.toNat &&& b.toNat:Nat):Int);unfold u32P;omega
theorem sign_of{x:Int}(h:u32P x):hI 9 x 31=if 2147483648≤x then 1 else 0:=by
 show x / 2 ^ min (31:Int).toNat 64=_;rw[show(2:Int) ^ min (31:Int).toNat 64=2147483648 by decide];have h1:=h.1;have h2:=h.2;split<;>omega
theorem eq0(x:Int):hI 13 x 0=if x=0 then 1 else 0:=rfl
def bitI(s r up:Int):Int:=hI 6 s (hI 8 r up)
theorem bit1(p q:Prop)[Decidable p][Decidable q]:bitI (if p then 1 else 0) (if q then 1 else 0) 1=(if p then 1 else 0)+(if q then 2 else 0):=by
 split<;>split<;>decide
theorem bit2(s:Int)(hs:0≤s∧s≤3)(q:Prop)[Decidable q]:bitI s (if q then 1 else 0) 2=s+(if q then 4 else 0):=by
 rcases(by omega:s=0∨s=1∨s=2∨s=3)with rfl|rfl|rfl|rfl<;>split<;>decide
theorem bit3(s:Int)(hs:0≤s∧s≤7)(q:Prop)[Decidable q]:bitI s (if q then 1 else 0) 3=s+(if q then 8 else 0):=by
 rcases(by omega:s=0∨s=1∨s=2∨s=3∨s=4∨s=5∨s=6∨s=7)with rfl|rfl|rfl|rfl|rfl|rfl|rfl|rfl<;>split<;>decide
def pfI(r:Int):Int:=bitI (hI 13 r 0) (hI 9 r 31) 1
theorem pfI_eq{r:Int}(h:u32P r):pfI r=pf r:=by
 unfold pfI;rw[sign_of h,eq0,bit1];rfl
def flagI(op a b:Int):Int :=
 let r:=aluI op a b
 if op=16 then bitI (bitI (pfI r) (hI 12 r a) 2) (hI 9 (hI 5 (hI 7 a r) (hI 7 b r)) 31) 3
 else if op=17∨op=25 then bitI (bitI (pfI r) (hI 12 a b) 2) (hI 9 (hI 5 (hI 7 a b) (hI 7 a r)) 31) 3
 else pfI r
theorem top_ne{x:Int}(h:u32P x):(bits .and .u32 x 2147483648 != 0)=decide (2147483648≤x):=by
 rw[top_and x h.1 h.2]
 by_cases q:2147483648≤x<;>simp[q]
theorem xor_u32{a b:Int}(ha:u32P a)(hb:u32P b):u32P (hI 7 a b):=by
 obtain⟨n,rfl⟩:=aa ha.1;obtain⟨m,rfl⟩:=aa hb.1;have h1:=ha.2;have h2:=hb.2;have hx:n ^^^ m<2 ^ 32:=ii (by omega) (by omega);show u32P ((n ^^^ m:Nat):Int);unfold u32P;omega
theorem flag_do{op a b:Int}(ha:u32P a)(hb:u32P b)(ho:(16≤op∧op≤23)∨op=25):flagI op a b=doF op a b:=by
 have hr:=alu_do ha hb ho;rcases(by omega:op=16∨op=17∨op=25∨(18≤op∧op≤23))with rfl|rfl|rfl|h
 ·rw[if_neg (by decide)]at hr;have hr2:aluI 16 a b=(a+b) % 4294967296:=hr;have h32:=mod_u32 (a+b);show bitI (bitI (pfI (aluI 16 a b)) (hI 12 (aluI 16 a b) a) 2) (hI 9 (hI 5 (hI 7 a (aluI 16 a b)) (hI 7 b (aluI 16 a b))) 31) 3=moreF a b;rw[hr2,pfI_eq h32,sign_of (hI_and_le (xor_u32 hb h32))];have hp:=pf_rng ((a+b) % 4294967296);rw[show hI 12 ((a+b) % 4294967296) a=if(a+b) % 4294967296<a then 1 else 0 from rfl,bit2 _ hp,bit3 _ (by split<;>omega)];unfold moreF ova;rw[←(bits_u32 ha h32).2.2,←(bits_u32 hb h32).2.2,←(bits_u32 (xor_u32 ha h32) (xor_u32 hb h32)).1,top_ne (hI_and_le (xor_u32 hb h32))];simp only[ap]
 ·rw[if_neg (by decide)]at hr;have hr2:aluI 17 a b=(a-b) % 4294967296:=hr;have h32:=mod_u32 (a-b);show bitI (bitI (pfI (aluI 17 a b)) (hI 12 a b) 2) (hI 9 (hI 5 (hI 7 a b) (hI 7 a (aluI 17 a b))) 31) 3=lessF a b;rw[hr2,pfI_eq h32,sign_of (hI_and_le (xor_u32 ha h32))];have hp:=pf_rng ((a-b) % 4294967296);rw[show hI 12 a b=if a<b then 1 else 0 from rfl,bit2 _ hp,bit3 _ (by split<;>omega)];unfold lessF ovs;rw[←(bits_u32 ha h32).2.2,←(bits_u32 ha hb).2.2,←(bits_u32 (xor_u32 ha hb) (xor_u32 ha h32)).1,top_ne (hI_and_le (xor_u32 ha h32))];simp only[ap]
 ·rw[if_pos rfl]at hr;have h32:=mod_u32 (a-b);show bitI (bitI (pfI (aluI 25 a b)) (hI 12 a b) 2) (hI 9 (hI 5 (hI 7 a b) (hI 7 a (aluI 25 a b))) 31) 3=lessF a b;rw[hr,pfI_eq h32,sign_of (hI_and_le (xor_u32 ha h32))];have hp:=pf_rng ((a-b) % 4294967296);rw[show hI 12 a b=if a<b then 1 else 0 from rfl,bit2 _ hp,bit3 _ (by split<;>omega)];unfold lessF ovs;rw[←(bits_u32 ha h32).2.2,←(bits_u32 ha hb).2.2,←(bits_u32 (xor_u32 ha hb) (xor_u32 ha h32)).1,top_ne (hI_and_le (xor_u32 ha h32))];simp only[ap]
 ·rw[if_neg (by omega)]at hr;have e1:flagI op a b=pfI (aluI op a b):=by unfold flagI;simp only;rw[if_neg (by omega),if_neg (by omega)]
  have e2:doF op a b=pf (doR op a b):=by unfold doF;rw[if_neg (by omega),if_neg (by omega),if_neg (by omega),if_pos h]
  rw[e1,hr,e2];exact pfI_eq (doR_rng _ _ _ ha.1 ha.2 hb.1 hb.2)
structure MS where
 R:Int→Int
 M:Int→Int
def up(f:Int→Int)(k v:Int):Int→Int:=fun i=>if i=k then v else f i
theorem up_at(f:Int→Int)(k v:Int):up f k v k=v:=if_pos rfl
theorem up_ne(f:Int→Int){k i:Int}(v:Int)(h:i≠k):up f k v i=f i:=if_neg h
def atI(x:II)(s:MS):Int:=s.R x.2.2.1+x.2.2.2.2
def ex1(x:II)(s:MS):MS :=
 if x.1=1 then⟨up s.R x.2.1 x.2.2.2.2,s.M⟩
 else if x.1=14 then⟨up s.R x.2.1 (s.M (atI x s)),s.M⟩
 else if x.1=15 then⟨s.R,up s.M (atI x s) (s.R x.2.2.2.1 % 4294967296)⟩
 else⟨up s.R x.2.1 (hI x.1 (s.R x.2.2.1) (s.R x.2.2.2.1)),s.M⟩
def exL:List II→MS→MS
 | [],s=>s
 |x::l,s=>exL l (ex1 x s)
theorem exL_app:∀(a b:List II) (s:MS),exL (a++b) s=exL b (exL a s)
 | [],_,_=>rfl
 |x::a,b,s=>exL_app a b (ex1 x s)
def ok1(x:II)(s:MS):Prop:=(1≤x.1∧x.1≤15)∧(x.1=14∨x.1=15→0≤atI x s∧atI x s<256)
def okL:List II→MS→Prop
 | [],_=>True
 |x::l,s=>ok1 x s∧okL l (ex1 x s)
theorem okL_app:∀(a b:List II) (s:MS),okL a s→okL b (exL a s)→okL (a++b) s
 | [],_,_,_,h=>h
 |x::a,b,s,h,k=>⟨h.1,okL_app a b (ex1 x s) h.2 k⟩
def stp(code:List II)(s:MS)(k:Nat):Option (MS × Nat):=match code[k]? with
 |none=>none
 |some x =>
  if 1≤x.1∧x.1≤15 then(if x.1=14∨x.1=15 then(if 0≤atI x s∧atI x s<256 then some (ex1 x s,k+1)else none)else some (ex1 x s,k+1))
  else if x.1=16∨x.1=17 then(if decide (s.R x.2.2.1=0)=decide (x.1=16)then some (s,x.2.2.2.2.toNat)else some (s,k+1))
  else if x.1=18 then some (s,x.2.2.2.2.toNat)else if x.1=0 then some (s,k+1)else none
def Steps(code:List II):Nat→MS→Nat→MS→Nat→Prop
 |0,s,k,t,j=>s=t∧k=j
 |n+1,s,k,t,j=>∃s1 k1,stp code s k=some (s1,k1)∧Steps code n s1 k1 t j
theorem Steps.app{code:List II}:∀{n m:Nat} {s t u:MS} {k j i:Nat},Steps code n s k t j→Steps code m t j u i→Steps code (n+m) s k u i
 |0,m,s,t,u,k,j,i,⟨h1,h2⟩,h=>by subst h1 h2;rw[eC];exact h
 |n+1,m,s,t,u,k,j,i,⟨s1,k1,h1,h2⟩,h=>by
  rw[show n+1+m=(n+m)+1 by omega];exact⟨s1,k1,h1,h2.app h⟩
theorem steps_line{code:List II}:∀(l:List II) (s:MS) (k:Nat),(∀i x,l[i]? = some x→code[k+i]? = some x)→okL l s→Steps code l.length s k (exL l s) (k+l.length)
 | [],s,k,_,_=>⟨rfl,rfl⟩
 |x::l,s,k,hc,ho=>by
  have h0:=hc 0 x rfl;rw[iT]at h0;obtain⟨⟨h1,h2⟩,h3⟩:=ho;refine⟨ex1 x s,k+1,?_,?_⟩
  ·unfold stp;rw[h0];simp only;rw[if_pos h1]
   by_cases h:x.1=14∨x.1=15
   ·rw[if_pos h,if_pos (h2 h)]
   ·rw[if_neg h]
  ·have:=steps_line l (ex1 x s) (k+1) (fun i y hy=>by rw[show k+1+i=k+(i+1) by omega];exact hc (i+1) y hy) h3;rw[show k+(x::l).length=k+1+l.length by simp;omega];exact this
def liI(rd v:Int):II:=(1,rd,0,0,v)
def opI(op rd ra rb:Int):II:=(op,rd,ra,rb,0)
def ldI(rd ra at_:Int):II:=(14,rd,ra,0,at_)
def stI(ra at_ rb:Int):II:=(15,0,ra,rb,at_)
def lowC(r:Int):List II:=[liI 12 4294967295,opI 5 r r 12]
def aluC(op rd a b:Int):List II:=opI (hostO op) rd a b::(if lowO op then[]else lowC rd)
def bitC(r upb:Int):List II:=[liI 12 upb,opI 8 r r 12,opI 6 10 10 r]
def signC(rd r:Int):List II:=[liI 12 31,opI 9 rd r 12]
def ovC:List II:=opI 5 11 11 12::(signC 11 11++bitC 11 3)
def flagC(op a b:Int):List II:=aluC op 9 a b++(opI 13 10 9 15::(signC 11 9++(bitC 11 1 ++
 (if op=16 then opI 12 11 9 a::(bitC 11 2++(opI 7 11 a 9::opI 7 12 b 9::ovC))
  else if op=17∨op=25 then opI 12 11 a b::(bitC 11 2++(opI 7 11 a b::opI 7 12 a 9::ovC))else[]))))
def gR(rg:List Int)(n into:Int):Int:=if 0≤rg.getD n.toNat 0 then rg.getD n.toNat 0 else into
def gC(rg sl:List Int)(n into:Int):List II:=if 0≤rg.getD n.toNat 0 then[]else[ldI into 15 (64+sl.getD n.toNat 0)]
def kC(rg sl:List Int)(n r:Int):List II:=if rg.getD n.toNat 0<0 then[stI 15 (64+sl.getD n.toNat 0) r]else[]
def valC(rg sl:List Int)(nd nr:Int)(rd:Int)(x:II):List II :=
 if x.1=0 then[liI rd x.2.2.2.2]else if x.1=1 then[ldI rd 14 (4+nd-1-x.2.2.2.2)]else if x.1=2 then[ldI rd 13 (20+nr-1-x.2.2.2.2)]
 else if x.1=3 then gC rg sl x.2.2.1 7++(gC rg sl x.2.2.2.1 8++aluC x.2.2.2.2 rd (gR rg x.2.2.1 7) (gR rg x.2.2.2.1 8))
 else gC rg sl x.2.2.1 7++(gC rg sl x.2.2.2.1 8++(flagC x.2.2.2.2 (gR rg x.2.2.1 7) (gR rg x.2.2.2.1 8)++[(2,rd,10,0,0)]))
def oneC(rg sl:List Int)(nd nr:Int)(n:Nat)(x:II):List II:=valC rg sl nd nr (gR rg n 9) x++kC rg sl n (gR rg n 9)
def bodyC(rg sl:List Int)(nd nr:Int)(c:List II):Nat→List II
 |0=>[]
 |k+1=>match c[k]? with|some x=>bodyC rg sl nd nr c k++oneC rg sl nd nr k x|none=>bodyC rg sl nd nr c k
def outC(rg sl:List Int)(base frm:Int):List Int→Int→List II
 | [],_=>[]
 |n::l,k=>gC rg sl n 7++(stI base (frm+k) (gR rg n 7)::outC rg sl base frm l (k+1))
def stackC(rg sl:List Int)(base frm word:Int)(out:List Int):List II:=outC rg sl base frm out 0++[liI 11 (out.length:Int),opI 3 11 11 base,stI 15 word 11]
def roomC(base word need most:Int)(E:Int):List II:=[ldI base 15 word,liI 11 need,opI 12 12 base 11,(17,0,12,0,E),liI 12 most,opI 12 12 12 base,(17,0,12,0,E),opI 4 base base 11]
def mostO(need high out:Int):Int:=min (16-high) (16+need-out)
theorem ex_li(rd v:Int)(s:MS):ex1 (liI rd v) s=⟨up s.R rd v,s.M⟩:=rfl
theorem ex_op{op:Int}(rd ra rb:Int)(s:MS)(h:2≤op∧op≤13):ex1 (opI op rd ra rb) s=⟨up s.R rd (hI op (s.R ra) (s.R rb)),s.M⟩:=by
 unfold ex1 opI;simp only;rw[if_neg (by omega),if_neg (by omega),if_neg (by omega)]
theorem ex_ld(rd ra a:Int)(s:MS):ex1 (ldI rd ra a) s=⟨up s.R rd (s.M (s.R ra+a)),s.M⟩:=rfl
theorem ex_st(ra a rb:Int)(s:MS):ex1 (stI ra a rb) s=⟨s.R,up s.M (s.R ra+a) (s.R rb % 4294967296)⟩:=rfl
theorem ok_li(rd v:Int)(s:MS):ok1 (liI rd v) s:=⟨⟨aK 1,(by decide:(1:Int)≤15)⟩,fun h=>by rcases h with h|h<;>cases h⟩
theorem ok_op{op:Int}(rd ra rb:Int)(s:MS)(h:2≤op∧op≤13):ok1 (opI op rd ra rb) s:=⟨⟨by simp only[opI];omega,by simp only[opI];omega⟩,fun q=>by simp only[opI]at q;omega⟩
theorem ok_ld(rd ra a:Int)(s:MS)(h:0≤s.R ra+a∧s.R ra+a<256):ok1 (ldI rd ra a) s:=⟨⟨by simp only[ldI];omega,by simp only[ldI];omega⟩,fun _=>h⟩
theorem ok_st(ra a rb:Int)(s:MS)(h:0≤s.R ra+a∧s.R ra+a<256):ok1 (stI ra a rb) s:=⟨⟨by simp only[stI];omega,by simp only[stI];omega⟩,fun _=>h⟩
structure Does(l:List II)(s:MS)(rd:Int)(v:Int)(scr:Int→Prop):Prop where
 ok:okL l s
 val:(exL l s).R rd=v
 keep:∀i,i≠rd→¬scr i→(exL l s).R i=s.R i
 mem:(exL l s).M=s.M
theorem getD_at{l:List Int}{N n:Nat}(h:l.length=n)(hN:N<n):l[N]? = some (l.getD N 0):=by
 rw[ac (h▸hN),aj,ac (h▸hN)];rfl
theorem gR_yes{rg:List Int}{N:Nat}{a:Int}(h:0≤rg.getD N 0):gR rg (N:Int) a=rg.getD N 0:=by unfold gR;rw[aH,if_pos h]
theorem gR_no{rg:List Int}{N:Nat}{a:Int}(h:¬0≤rg.getD N 0):gR rg (N:Int) a=a:=by unfold gR;rw[aH,if_neg h]
theorem gC_yes{rg sl:List Int}{l:List II}{N:Nat}{a:Int}(h:0≤rg.getD N 0):l=l++gC rg sl (N:Int) a:=by unfold gC;rw[aH,if_pos h,aX]
theorem gC_no{rg sl:List Int}{l:List II}{N:Nat}{a:Int}(h:¬0≤rg.getD N 0):l++[(mkI 14 a 15 0 (64+sl.getD N 0))]=l++gC rg sl (N:Int) a:=by unfold gC;rw[aH,if_neg h];rfl
theorem kC_yes{rg sl:List Int}{l:List II}{N:Nat}{a:Int}(h:rg.getD N 0<0):l++[(mkI 15 0 15 a (64+sl.getD N 0))]=l++kC rg sl (N:Int) a:=by unfold kC;rw[aH,if_pos h];rfl
theorem kC_no{rg sl:List Int}{l:List II}{N:Nat}{a:Int}(h:¬rg.getD N 0<0):l=l++kC rg sl (N:Int) a:=by unfold kC;rw[aH,if_neg h,aX]
noncomputable def f68b:Code:=Tryz.f68.body.getD .skip
theorem e_get_s{c:List II}{od rd rg sl:List Int}{l:List II}{fix:List Int}{nd nr hd hr fl nx tg br tk ct slots:Int}{N:Nat}{into:Int}(hll:l.length<100000)(hrg:rg.length=c.length)(hsl:sl.length=c.length)(hN:N<c.length)(hs:rg.getD N 0<0→0≤sl.getD N 0∧sl.getD N 0<192):SC 68 #[pT 0 0,jI (N:Int),jI into] (hq (eH c od rd rg sl l fix nd nr hd hr fl nx tg br tk ct slots)) fun v h=>∃(l1:List II) (v1:Int),l1=l++gC rg sl (N:Int) into∧v1=gR rg (N:Int) into∧l1.length≤l.length+1∧v=jI v1∧h=hq (eP c od rd rg sl l1 fix nd nr hd hr fl nx tg br tk ct slots):=by
 refine zS Tryz.f68 f68b 33 8 fun X hX=>(zX 14 14 (pT 4 (0+N*1)) N c.length (sd_ld 15 (jI (rg.getD N 0)) 3 (pT 4 (0+N*1)) kr kr kr (ld_cell (l:=rg) (e:=3) (ro:=false) (k:=N) (j:=0) inC_len kr kr kr (getD_at hrg hN) rfl) (sd_run 9 ?_)))
 refine zB 0 17 (decide (((rg.getD N 0):Int)≥0)) (fun hc1=>?_) fun hc1=>?_
 ·refine sd_run 9 ?_;simp only[bd]at hc1;refine zY (jI (rg.getD N 0)) hX (eM [1,2,3,4,5,6,7,8,7]) ⟨l,(rg.getD N 0),(gC_yes zo),(gR_yes zo).symm,zo,rfl,rfl⟩
 ·refine zX 13 27 (pT 5 (0+N*1)) N c.length (sd_ld 28 (jI (sl.getD N 0)) 3 (pT 5 (0+N*1)) kr kr kr (ld_cell (l:=sl) (e:=3) (ro:=false) (k:=N) (j:=0) inC_len kr kr kr (getD_at hsl hN) rfl) (sd_run 1 (sd_see 29 (jI (64+sl.getD N 0)) (see_int (x:=(IntKind.i64.wrap (64+(sl.getD N 0)))) kr (w64 rfl (by simp only[eh,ap,ge_iff_le]at *;omega) (by simp only[eh,ap,ge_iff_le]at *;omega))) (sd_run 1 (sd_see 30 (jU (64+sl.getD N 0)) (see_int (x:=(IntKind.u32.wrap (64+sl.getD N 0))) kr (wu32 rfl (by simp only[eh,ap,ge_iff_le]at *;omega) (by simp only[eh,ap,ge_iff_le]at *;omega))) (zC 31 64 #[pT 0 0,jI into,jI 15,jU (64+sl.getD N 0)] (@e_ld_s c od rd rg sl l fix nd nr hd hr fl nx tg br tk ct slots into 15 (64+sl.getD N 0) hll) i8_ ?_))))));rintro Y v9 k9 ⟨l11_,q2_0,q2_1,rfl,rfl⟩;refine mkG (.tuple #[]) [oB 75 (eK c od rd nd nr hd hr fl nx tg br tk ct slots (s5 8 l11_.length) (s1 7 fix.length)),(iiF c),(inF od),(inF rd),(inF rg),(inF sl),none,(inF fix),(hhF l11_)] ⟨cvr 0,cvs 1 Y,cvs 2 Y,cvs 3 Y,cvs 4 Y,cvs 5 Y,cvs 7 Y,hhC_c 8,⟨⟩⟩ ?_;refine sd_run 9 ?_;simp only[bd]at hc1;refine zY (jI into) hX i9_ ⟨l11_,into,(by rw[q2_0];exact gC_no zo),(gR_no zo).symm,zo,rfl,rfl⟩
noncomputable def f67b:Code:=Tryz.f67.body.getD .skip
theorem e_to_s{c:List II}{od rd rg sl:List Int}{l:List II}{fix:List Int}{nd nr hd hr fl nx tg br tk ct slots:Int}{N:Nat}(hrg:rg.length=c.length)(hsl:sl.length=c.length)(hN:N<c.length)(hs:rg.getD N 0<0→0≤sl.getD N 0∧sl.getD N 0<192):SC 67 #[pT 0 0,jI (N:Int)] (hq (eH c od rd rg sl l fix nd nr hd hr fl nx tg br tk ct slots)) fun v h=>∃(v1:Int),v1=gR rg (N:Int) 9∧v=jI v1∧h=hq (eH c od rd rg sl l fix nd nr hd hr fl nx tg br tk ct slots):=by
 refine zS Tryz.f67 f67b 17 8 fun X hX=>(zX 14 12 (pT 4 (0+N*1)) N c.length (sd_ld 13 (jI (rg.getD N 0)) 3 (pT 4 (0+N*1)) kr kr kr (ld_cell (l:=rg) (e:=3) (ro:=false) (k:=N) (j:=0) inC_len kr kr kr (getD_at hrg hN) rfl) (sd_run 9 ?_)))
 refine zB 0 15 (decide (((rg.getD N 0):Int)≥0)) (fun hc1=>?_) fun hc1=>?_
 ·refine sd_run 9 ?_;simp only[bd]at hc1;refine zY (jI (rg.getD N 0)) hX i8_ ⟨(rg.getD N 0),(gR_yes zo).symm,rfl,rfl⟩
 ·refine sd_run 9 ?_;simp only[bd]at hc1;refine zY (jI 9) hX i8_ ⟨9,(gR_no zo).symm,rfl,rfl⟩
noncomputable def f71b:Code:=Tryz.f71.body.getD .skip
theorem e_keep_s{c:List II}{od rd rg sl:List Int}{l:List II}{fix:List Int}{nd nr hd hr fl nx tg br tk ct slots:Int}{N:Nat}{r1:Int}(hll:l.length<100000)(hrg:rg.length=c.length)(hsl:sl.length=c.length)(hN:N<c.length)(hs:rg.getD N 0<0→0≤sl.getD N 0∧sl.getD N 0<192):SC 71 #[pT 0 0,jI (N:Int),jI r1] (hq (eH c od rd rg sl l fix nd nr hd hr fl nx tg br tk ct slots)) fun v h=>∃(l1:List II),l1=l++kC rg sl (N:Int) r1∧l1.length≤l.length+1∧v=.tuple #[]∧h=hq (eP c od rd rg sl l1 fix nd nr hd hr fl nx tg br tk ct slots):=by
 refine zS Tryz.f71 f71b 28 8 fun X hX=>(zX 8 12 (pT 4 (0+N*1)) N c.length (sd_ld 13 (jI (rg.getD N 0)) 3 (pT 4 (0+N*1)) kr kr kr (ld_cell (l:=rg) (e:=3) (ro:=false) (k:=N) (j:=0) inC_len kr kr kr (getD_at hrg hN) rfl) (sd_run 3 ?_)))
 refine zB 0 14 (decide (((rg.getD N 0):Int)<0)) (fun hc1=>?_) fun hc1=>?_
 ·refine zX 9 22 (pT 5 (0+N*1)) N c.length (sd_ld 23 (jI (sl.getD N 0)) 3 (pT 5 (0+N*1)) kr kr kr (ld_cell (l:=sl) (e:=3) (ro:=false) (k:=N) (j:=0) inC_len kr kr kr (getD_at hsl hN) rfl) (sd_run 1 (sd_see 24 (jI (64+sl.getD N 0)) (see_int (x:=(IntKind.i64.wrap (64+(sl.getD N 0)))) kr (w64 rfl (by simp only[eh,ap,ge_iff_le]at *;omega) (by simp only[eh,ap,ge_iff_le]at *;omega))) (sd_run 1 (sd_see 25 (jU (64+sl.getD N 0)) (see_int (x:=(IntKind.u32.wrap (64+sl.getD N 0))) kr (wu32 rfl (by simp only[eh,ap,ge_iff_le]at *;omega) (by simp only[eh,ap,ge_iff_le]at *;omega))) (sd_run 1 (zC 27 72 #[pT 0 0,jI 15,jU (64+sl.getD N 0),jI r1] (@e_st_s c od rd rg sl l fix nd nr hd hr fl nx tg br tk ct slots 15 (64+sl.getD N 0) r1 hll) i8_ ?_)))))));rintro Y v9 k9 ⟨l11_,q2_0,q2_1,rfl,rfl⟩;refine mkG (.tuple #[]) [oB 75 (eK c od rd nd nr hd hr fl nx tg br tk ct slots (s5 8 l11_.length) (s1 7 fix.length)),(iiF c),(inF od),(inF rd),(inF rg),(inF sl),none,(inF fix),(hhF l11_)] ⟨cvr 0,cvs 1 Y,cvs 2 Y,cvs 3 Y,cvs 4 Y,cvs 5 Y,cvs 7 Y,hhC_c 8,⟨⟩⟩ ?_;refine sd_run 1 ?_;simp only[bd]at hc1;refine zY (.tuple #[]) hX i9_ ⟨l11_,(by rw[q2_0];exact kC_yes zo),zo,rfl,rfl⟩
 ·refine sd_run 2 ?_;simp only[bd]at hc1;refine zY (.tuple #[]) hX (eM [1,2,3,4,5,6,7,8,7]) ⟨l,(kC_no zo),zo,rfl,rfl⟩
noncomputable def f66b:Code:=Tryz.f66.body.getD .skip
theorem e_unless_s{c:List II}{od rd rg sl:List Int}{l:List II}{fix:List Int}{nd nr hd hr fl nx tg br tk ct slots:Int}{r1:Int}(hll:l.length<100000)(hfl:fix.length<100000):SC 66 #[pT 0 0,jI r1] (hq (eH c od rd rg sl l fix nd nr hd hr fl nx tg br tk ct slots)) fun v h=>∃(l1:List II),l1=l++[(mkI 17 0 r1 0 0)]∧l1.length=l.length+1∧v=.tuple #[]∧h=hq [oB 75 (eK c od rd nd nr hd hr fl nx tg br tk ct slots (s5 9 l1.length) (s1 8 ((fix++[(l.length:Int)]).length))),(iiF c),(inF od),(inF rd),(inF rg),(inF sl),none,none,(inF (fix++[(l.length:Int)])),(hhF l1)]:=by
 refine zS Tryz.f66 f66b 23 8 fun X hX=>(sd_run 13 (sd_grow 15 22 22 3 0 7 7 fix.length 1 9 (sK 8 1 1) (tab inC fix) [jN l.length] (tab inC (fix++[(l.length:Int)])) kr kr kr kr kr ((tab_len inC_len _).trans (by first|rfl|(simp only[ar,ay,aL,aP]at *;done))) kr kr (by decide) kr zo kr (tab_snoc fix (l.length:Int)) (sd_see 15 (s1 9 ((fix++[(l.length:Int)]).length)) (see_len (n:=(fix.length+1)) kr (by simp)) (sd_run 10 (zC 22 30 #[pT 0 0,sK 10 1 1] (@e_add_s c od rd rg sl l (fix++[(l.length:Int)]) nd nr hd hr fl nx tg br tk ct slots 17 0 r1 0 0 hll) (eM [1,2,3,4,5,6,7,10,11]) ?_)))))
 rintro Y v9 k9 ⟨l10_,q1_0,q1_1,rfl,rfl⟩;refine mkG (.tuple #[]) [oB 75 (eK c od rd nd nr hd hr fl nx tg br tk ct slots (s5 11 l10_.length) (s1 9 ((fix++[(l.length:Int)]).length))),(iiF c),(inF od),(inF rd),(inF rg),(inF sl),none,none,oB 3 [jN l.length],(inF (fix++[(l.length:Int)])),oB 81 (c5L 17 0 r1 0 0),(hhF l10_)] ⟨cvr 0,cvs 1 Y,cvs 2 Y,cvs 3 Y,cvs 4 Y,cvs 5 Y,cvo,cvs 7 Y,cvs 8 Y,hhC_c 9,⟨⟩⟩ ?_;refine sd_run 1 ?_;refine zY (.tuple #[]) hX (eM [1,2,3,4,5,6,7,8,10,12]) ⟨l10_,q1_0,q1_1,rfl,rfl⟩
theorem e_unless_f{c:List II}{od rd rg sl:List Int}{l:List II}{nd nr hd hr fl nx tg br tk ct slots:Int}{r1:Int}(hll:l.length<100000):SC 66 #[pT 0 0,jI r1] (hq [oB 75 (eK c od rd nd nr hd hr fl nx tg br tk ct slots (s5 6 l.length) nS),(iiF c),(inF od),(inF rd),(inF rg),(inF sl),(hhF l)]) fun v h=>∃(l1:List II),l1=l++[(mkI 17 0 r1 0 0)]∧l1.length=l.length+1∧v=.tuple #[]∧h=hq [oB 75 (eK c od rd nd nr hd hr fl nx tg br tk ct slots (s5 8 l1.length) (s1 7 ([(l.length:Int)].length))),(iiF c),(inF od),(inF rd),(inF rg),(inF sl),none,(inF ([(l.length:Int)])),(hhF l1)]:=by
 refine zS Tryz.f66 f66b 23 7 fun X hX=>(sd_run 24 (zC 22 30 #[pT 0 0,sK 9 1 1] (@e_add_s c od rd rg sl l ([(l.length:Int)]) nd nr hd hr fl nx tg br tk ct slots 17 0 r1 0 0 hll) (eM [1,2,3,4,5,6,7,9,10]) ?_))
 rintro Y v9 k9 ⟨l10_,q1_0,q1_1,rfl,rfl⟩;refine mkG (.tuple #[]) [oB 75 (eK c od rd nd nr hd hr fl nx tg br tk ct slots (s5 10 l10_.length) (s1 8 (([(l.length:Int)]).length))),(iiF c),(inF od),(inF rd),(inF rg),(inF sl),none,oB 3 [jN l.length],oB 3 [jN l.length],oB 81 (c5L 17 0 r1 0 0),(hhF l10_)] ⟨cvr 0,cvs 1 Y,cvs 2 Y,cvs 3 Y,cvs 4 Y,cvs 5 Y,cvo,cvs 7 Y,cvs 8 Y,hhC_c 9,⟨⟩⟩ ?_;refine sd_run 1 ?_;refine zY (.tuple #[]) hX (eM [1,2,3,4,5,6,7,9,11]) ⟨l10_,q1_0,q1_1,rfl,rfl⟩
noncomputable def f98b:Code:=Tryz.f98.body.getD .skip
theorem e_low_s{c:List II}{od rd rg sl:List Int}{l:List II}{fix:List Int}{nd nr hd hr fl nx tg br tk ct slots:Int}{r1:Int}(hll:l.length<90000):SC 98 #[pT 0 0,jI r1] (hq (eH c od rd rg sl l fix nd nr hd hr fl nx tg br tk ct slots)) fun v h=>∃(l1:List II),l1=((l++[(mkI 1 12 0 0 4294967295)])++[(mkI 5 r1 r1 12 0)])∧l1.length=l.length+2∧v=.tuple #[]∧h=hq (eP c od rd rg sl l1 fix nd nr hd hr fl nx tg br tk ct slots):=by
 refine zS Tryz.f98 f98b 10 8 fun X hX=>(sd_run 3 (zC 5 25 #[pT 0 0,jI 12,jU 4294967295] (@e_li_s c od rd rg sl l fix nd nr hd hr fl nx tg br tk ct slots 12 4294967295 zo) i8_ ?_))
 rintro Y v9 k9 ⟨l10_,q1_0,q1_1,rfl,rfl⟩;refine mkG (.tuple #[]) [oB 75 (eK c od rd nd nr hd hr fl nx tg br tk ct slots (s5 8 l10_.length) (s1 7 fix.length)),(iiF c),(inF od),(inF rd),(inF rg),(inF sl),none,(inF fix),(hhF l10_)] ⟨cvr 0,cvs 1 Y,cvs 2 Y,cvs 3 Y,cvs 4 Y,cvs 5 Y,cvs 7 Y,hhC_c 8,⟨⟩⟩ ?_;refine sd_run 6 (zC 9 65 #[pT 0 0,jI 5,jI r1,jI r1,jI 12] (@e_op_s c od rd rg sl l10_ fix nd nr hd hr fl nx tg br tk ct slots 5 r1 r1 12 zo) (eM [1,2,3,4,5,6,9,8]) ?_);rintro Y v9 k9 ⟨l11_,q2_0,q2_1,rfl,rfl⟩;refine mkG (.tuple #[]) [oB 75 (eK c od rd nd nr hd hr fl nx tg br tk ct slots (s5 9 l11_.length) (s1 7 fix.length)),(iiF c),(inF od),(inF rd),(inF rg),(inF sl),none,(inF fix),none,(hhF l11_)] ⟨cvr 0,cvs 1 Y,cvs 2 Y,cvs 3 Y,cvs 4 Y,cvs 5 Y,cvs 7 Y,hhC_c 8,⟨⟩⟩ ?_;refine sd_run 1 ?_;refine zY (.tuple #[]) hX (eM [1,2,3,4,5,6,7,8,10]) ⟨l11_,(by rw[q2_0,q1_0]),zo,rfl,rfl⟩
noncomputable def f99b:Code:=Tryz.f99.body.getD .skip
theorem e_signed_s{c:List II}{od rd rg sl:List Int}{l:List II}{fix:List Int}{nd nr hd hr fl nx tg br tk ct slots:Int}{r1 r2:Int}(hll:l.length<90000):SC 99 #[pT 0 0,jI r1,jI r2] (hq (eH c od rd rg sl l fix nd nr hd hr fl nx tg br tk ct slots)) fun v h=>∃(l1:List II),l1=((l++[(mkI 1 12 0 0 31)])++[(mkI 9 r1 r2 12 0)])∧l1.length=l.length+2∧v=.tuple #[]∧h=hq (eP c od rd rg sl l1 fix nd nr hd hr fl nx tg br tk ct slots):=by
 refine zS Tryz.f99 f99b 12 8 fun X hX=>(sd_run 3 (zC 7 25 #[pT 0 0,jI 12,jU 31] (@e_li_s c od rd rg sl l fix nd nr hd hr fl nx tg br tk ct slots 12 31 zo) i8_ ?_))
 rintro Y v9 k9 ⟨l10_,q1_0,q1_1,rfl,rfl⟩;refine mkG (.tuple #[]) [oB 75 (eK c od rd nd nr hd hr fl nx tg br tk ct slots (s5 8 l10_.length) (s1 7 fix.length)),(iiF c),(inF od),(inF rd),(inF rg),(inF sl),none,(inF fix),(hhF l10_)] ⟨cvr 0,cvs 1 Y,cvs 2 Y,cvs 3 Y,cvs 4 Y,cvs 5 Y,cvs 7 Y,hhC_c 8,⟨⟩⟩ ?_;refine sd_run 6 (zC 11 65 #[pT 0 0,jI 9,jI r1,jI r2,jI 12] (@e_op_s c od rd rg sl l10_ fix nd nr hd hr fl nx tg br tk ct slots 9 r1 r2 12 zo) (eM [1,2,3,4,5,6,9,8]) ?_);rintro Y v9 k9 ⟨l11_,q2_0,q2_1,rfl,rfl⟩;refine mkG (.tuple #[]) [oB 75 (eK c od rd nd nr hd hr fl nx tg br tk ct slots (s5 9 l11_.length) (s1 7 fix.length)),(iiF c),(inF od),(inF rd),(inF rg),(inF sl),none,(inF fix),none,(hhF l11_)] ⟨cvr 0,cvs 1 Y,cvs 2 Y,cvs 3 Y,cvs 4 Y,cvs 5 Y,cvs 7 Y,hhC_c 8,⟨⟩⟩ ?_;refine sd_run 1 ?_;refine zY (.tuple #[]) hX (eM [1,2,3,4,5,6,7,8,10]) ⟨l11_,(by rw[q2_0,q1_0]),zo,rfl,rfl⟩
noncomputable def f100b:Code:=Tryz.f100.body.getD .skip
theorem e_bit_s{c:List II}{od rd rg sl:List Int}{l:List II}{fix:List Int}{nd nr hd hr fl nx tg br tk ct slots:Int}{r1 im:Int}(hll:l.length<90000):SC 100 #[pT 0 0,jI r1,jU im] (hq (eH c od rd rg sl l fix nd nr hd hr fl nx tg br tk ct slots)) fun v h=>∃(l1:List II),l1=(((l++[(mkI 1 12 0 0 im)])++[(mkI 8 r1 r1 12 0)])++[(mkI 6 10 10 r1 0)])∧l1.length=l.length+3∧v=.tuple #[]∧h=hq (eP c od rd rg sl l1 fix nd nr hd hr fl nx tg br tk ct slots):=by
 refine zS Tryz.f100 f100b 16 8 fun X hX=>(sd_run 4 (zC 8 25 #[pT 0 0,jI 12,jU im] (@e_li_s c od rd rg sl l fix nd nr hd hr fl nx tg br tk ct slots 12 im zo) i8_ ?_))
 rintro Y v9 k9 ⟨l10_,q1_0,q1_1,rfl,rfl⟩;refine mkG (.tuple #[]) [oB 75 (eK c od rd nd nr hd hr fl nx tg br tk ct slots (s5 8 l10_.length) (s1 7 fix.length)),(iiF c),(inF od),(inF rd),(inF rg),(inF sl),none,(inF fix),(hhF l10_)] ⟨cvr 0,cvs 1 Y,cvs 2 Y,cvs 3 Y,cvs 4 Y,cvs 5 Y,cvs 7 Y,hhC_c 8,⟨⟩⟩ ?_;refine sd_run 7 (zC 12 65 #[pT 0 0,jI 8,jI r1,jI r1,jI 12] (@e_op_s c od rd rg sl l10_ fix nd nr hd hr fl nx tg br tk ct slots 8 r1 r1 12 zo) (eM [1,2,3,4,5,6,9,8]) ?_);rintro Y v9 k9 ⟨l11_,q2_0,q2_1,rfl,rfl⟩;refine mkG (.tuple #[]) [oB 75 (eK c od rd nd nr hd hr fl nx tg br tk ct slots (s5 9 l11_.length) (s1 7 fix.length)),(iiF c),(inF od),(inF rd),(inF rg),(inF sl),none,(inF fix),none,(hhF l11_)] ⟨cvr 0,cvs 1 Y,cvs 2 Y,cvs 3 Y,cvs 4 Y,cvs 5 Y,cvs 7 Y,hhC_c 8,⟨⟩⟩ ?_;refine sd_run 5 (zC 15 65 #[pT 0 0,jI 6,jI 10,jI 10,jI r1] (@e_op_s c od rd rg sl l11_ fix nd nr hd hr fl nx tg br tk ct slots 6 10 10 r1 zo) (eM [1,2,3,4,5,6,10,8]) ?_);rintro Y v9 k9 ⟨l12_,q3_0,q3_1,rfl,rfl⟩;refine mkG (.tuple #[]) [oB 75 (eK c od rd nd nr hd hr fl nx tg br tk ct slots (s5 10 l12_.length) (s1 7 fix.length)),(iiF c),(inF od),(inF rd),(inF rg),(inF sl),none,(inF fix),none,none,(hhF l12_)] ⟨cvr 0,cvs 1 Y,cvs 2 Y,cvs 3 Y,cvs 4 Y,cvs 5 Y,cvs 7 Y,hhC_c 8,⟨⟩⟩ ?_;refine sd_run 1 ?_;refine zY (.tuple #[]) hX (eM [1,2,3,4,5,6,7,8,11]) ⟨l12_,(by rw[q3_0,q2_0,q1_0]),zo,rfl,rfl⟩
def flC(rg sl:List Int)(fl:Int):List II:=if 0≤fl then liI 11 15::(gC rg sl fl 7++[opI 5 11 11 (gR rg fl 7),stI 15 1 11])else[]
def bitO(br:Int):Int:=if br=33 then 1 else if br=34 then 1 else if br=35 then 4 else if br=36 then 2 else 8
def brC(br tk n:Int):List II:=if br=0 then[]else[ldI 11 15 1,liI 12 (bitO br),opI 5 11 11 12,(if br=34 then 17 else 16,0,11,0,n+2),liI 9 tk]
def tgC(rg sl:List Int)(tg:Int):List II:=if 0≤tg then gC rg sl tg 7++[(2,9,gR rg tg 7,0,0)]else[]
def finC(ct:Int):List II:=[stI 15 0 9,liI 11 ct,stI 15 36 11]
noncomputable def f73b:Code:=Tryz.f73.body.getD .skip
theorem e_jumps_s{op:Int}:SC 73 #[jI op] (hq []) fun v h=>∃(v1:Int) (b1:Bool),v1=bitO op∧b1 = !decide (op=34)∧v=.tuple #[jU v1,.bool b1]∧h=hq []:=by
 refine zS Tryz.f73 f73b 13 0 fun X hX=>?_
 refine zB 19 5 ((op:Int) == 33) (fun hc1=>?_) fun hc1=>?_
 ·refine sd_run 10 ?_;simp only[bd]at hc1;refine zY (.tuple #[jU 1,.bool true]) hX [] ⟨1,true,(by unfold bitO;(repeat' split)<;>omega),(by simp;omega),rfl,rfl⟩
 ·refine zB 7 7 ((op:Int) == 34) (fun hc2=>?_) fun hc2=>?_
  ·refine sd_run 10 ?_;simp only[bd]at hc1 hc2;refine zY (.tuple #[jU 1,.bool false]) hX [] ⟨1,false,(by unfold bitO;(repeat' split)<;>omega),(by simp;omega),rfl,rfl⟩
  ·refine zB 7 9 ((op:Int) == 35) (fun hc3=>?_) fun hc3=>?_
   ·refine sd_run 10 ?_;simp only[bd]at hc1 hc2 hc3;refine zY (.tuple #[jU 4,.bool true]) hX [] ⟨4,true,(by unfold bitO;(repeat' split)<;>omega),(by simp;omega),rfl,rfl⟩
   ·refine zB 7 11 ((op:Int) == 36) (fun hc4=>?_) fun hc4=>?_
    ·refine sd_run 10 ?_;simp only[bd]at hc1 hc2 hc3 hc4;refine zY (.tuple #[jU 2,.bool true]) hX [] ⟨2,true,(by unfold bitO;(repeat' split)<;>omega),(by simp;omega),rfl,rfl⟩
    ·refine sd_run 11 ?_;simp only[bd]at hc1 hc2 hc3 hc4;refine zY (.tuple #[jU 8,.bool true]) hX [] ⟨8,true,(by unfold bitO;(repeat' split)<;>omega),(by simp;omega),rfl,rfl⟩
noncomputable def f29b:Code:=Tryz.f29.body.getD .skip
theorem e_end_s{c:List II}{od rd rg sl:List Int}{l:List II}{fix:List Int}{nd nr hd hr fl nx tg br tk ct slots:Int}(hll:l.length<30000)(hrg:rg.length=c.length)(hsl:sl.length=c.length)(hs:∀N:Nat,N<c.length→rg.getD N 0<0→0≤sl.getD N 0∧sl.getD N 0<192)(hcl:c.length<1000)(hfv:fl = -1∨valB fl (c.length:Int)=true)(htv:tg = -1∨valB tg (c.length:Int)=true)(hct:0≤ct∧ct<1000):SC 29 #[pT 0 0] (hq (eH c od rd rg sl l fix nd nr hd hr fl nx tg br tk ct slots)) fun v h=>∃(l1:List II),l1=l++(flC rg sl fl++([liI 9 nx]++(brC br tk (((l.length+(flC rg sl fl).length+1:Nat):Int)+3)++(tgC rg sl tg++(finC ct++[(mkI 19 0 0 0 1)])))))∧l1.length≤l.length+30∧v=.tuple #[]∧h=hq (eP c od rd rg sl l1 fix nd nr hd hr fl nx tg br tk ct slots):=by
 refine zS Tryz.f29 f29b 108 8 fun X hX=>?_
 refine sd_run 11 (sd_mid 108 (cr (cl f29b)) [.next (cr f29b)] kr kr kr (fun s9=>∃(lk1:List II),(lk1=l++flC rg sl fl)∧(lk1.length≤l.length+4)∧s9=⟨tmL [(0,pT 0 0)],hq [oB 75 (eK c od rd nd nr hd hr fl nx tg br tk ct slots (s5 8 lk1.length) (s1 7 fix.length)),(iiF c),(inF od),(inF rd),(inF rg),(inF sl),none,(inF fix),(hhF lk1)]⟩) hX ?_ ?_)
 ·intro R1_ hR1_;rcases hfv with hfl9|hfl9
  ·refine sd_see 10 (.bool false) (see_bool (x:=(decide ((fl:Int)≥0))) kr (by simp;omega)) (sd_run 2 ?_);refine sd_inv R1_ kr (hR1_ _ _ (emOf (eM [1,2,3,4,5,6,7,8,7])) ⟨l,(by unfold flC;rw[if_neg zo];simp),zo,rfl⟩ ⟨zs,zt⟩ kr)
  ·obtain⟨qfl1,qfl2⟩:=valB_iff.1 hfl9;obtain⟨FL,hFL⟩:=aa qfl1;refine sd_see 10 (.bool true) (see_bool (x:=(decide ((fl:Int)≥0))) kr (by simp;omega)) (sd_run 4 (zC 12 25 #[pT 0 0,jI 11,jU 15] (@e_li_s c od rd rg sl l fix nd nr hd hr fl nx tg br tk ct slots 11 15 zo) i8_ ?_));rintro Y v9 k9 ⟨l10_,q1_0,q1_1,rfl,rfl⟩;refine mkG (.tuple #[]) [oB 75 (eK c od rd nd nr hd hr fl nx tg br tk ct slots (s5 8 l10_.length) (s1 7 fix.length)),(iiF c),(inF od),(inF rd),(inF rg),(inF sl),none,(inF fix),(hhF l10_)] ⟨cvr 0,cvs 1 Y,cvs 2 Y,cvs 3 Y,cvs 4 Y,cvs 5 Y,cvs 7 Y,hhC_c 8,⟨⟩⟩ ?_;refine sd_run 11 (sd_see 19 (jI (FL:Int)) (see_int (x:=fl) kr hFL) (zC 20 68 #[pT 0 0,jI (FL:Int),jI 7] (@e_get_s c od rd rg sl l10_ fix nd nr hd hr fl nx tg br tk ct slots FL 7 zo hrg hsl zo (hs _ zo)) (eM [1,2,3,4,5,6,9,8]) ?_));rintro Y v9 k9 ⟨l11_,v11_,q2_0,q2_1,q2_2,rfl,rfl⟩;refine mkG (jI v11_) [oB 75 (eK c od rd nd nr hd hr fl nx tg br tk ct slots (s5 9 l11_.length) (s1 7 fix.length)),(iiF c),(inF od),(inF rd),(inF rg),(inF sl),none,(inF fix),none,(hhF l11_)] ⟨cvr 0,cvs 1 Y,cvs 2 Y,cvs 3 Y,cvs 4 Y,cvs 5 Y,cvs 7 Y,hhC_c 8,⟨⟩⟩ ?_;refine zC 21 65 #[pT 0 0,jI 5,jI 11,jI 11,jI v11_] (@e_op_s c od rd rg sl l11_ fix nd nr hd hr fl nx tg br tk ct slots 5 11 11 v11_ zo) (eM [1,2,3,4,5,6,10,8]) ?_;rintro Y v9 k9 ⟨l12_,q3_0,q3_1,rfl,rfl⟩
   refine mkG (.tuple #[]) [oB 75 (eK c od rd nd nr hd hr fl nx tg br tk ct slots (s5 10 l12_.length) (s1 7 fix.length)),(iiF c),(inF od),(inF rd),(inF rg),(inF sl),none,(inF fix),none,none,(hhF l12_)] ⟨cvr 0,cvs 1 Y,cvs 2 Y,cvs 3 Y,cvs 4 Y,cvs 5 Y,cvs 7 Y,hhC_c 8,⟨⟩⟩ ?_;refine sd_run 4 (zC 23 72 #[pT 0 0,jI 15,jU 1,jI 11] (@e_st_s c od rd rg sl l12_ fix nd nr hd hr fl nx tg br tk ct slots 15 1 11 zo) (eM [1,2,3,4,5,6,11,8]) ?_);rintro Y v9 k9 ⟨l13_,q4_0,q4_1,rfl,rfl⟩;refine mkG (.tuple #[]) [oB 75 (eK c od rd nd nr hd hr fl nx tg br tk ct slots (s5 11 l13_.length) (s1 7 fix.length)),(iiF c),(inF od),(inF rd),(inF rg),(inF sl),none,(inF fix),none,none,none,(hhF l13_)] ⟨cvr 0,cvs 1 Y,cvs 2 Y,cvs 3 Y,cvs 4 Y,cvs 5 Y,cvs 7 Y,hhC_c 8,⟨⟩⟩ ?_;refine sd_run 1 ?_;refine sd_inv R1_ kr (hR1_ _ _ (emOf (eM [1,2,3,4,5,6,7,8,12])) ⟨l13_,(by rw[q4_0,q3_0,q2_0,q1_0];rw[q2_1];unfold flC;rw[if_pos zo,hFL];simp[mkI,liI,opI,stI]),zo,rfl⟩ ⟨zs,zt⟩ kr)
 ·rintro s9 ⟨lk1,j1_0,j1_1,rfl⟩;refine sd_run 9 (zC 30 25 #[pT 0 0,jI 9,jU nx] (@e_li_s c od rd rg sl lk1 fix nd nr hd hr fl nx tg br tk ct slots 9 nx zo) (eM [1,2,3,4,5,6,9,8]) ?_);rintro Y v9 k9 ⟨l14_,q5_0,q5_1,rfl,rfl⟩;refine mkG (.tuple #[]) [oB 75 (eK c od rd nd nr hd hr fl nx tg br tk ct slots (s5 9 l14_.length) (s1 7 fix.length)),(iiF c),(inF od),(inF rd),(inF rg),(inF sl),none,(inF fix),none,(hhF l14_)] ⟨cvr 0,cvs 1 Y,cvs 2 Y,cvs 3 Y,cvs 4 Y,cvs 5 Y,cvs 7 Y,hhC_c 8,⟨⟩⟩ ?_;refine sd_run 13 (sd_mid 108 (cr (cl (cr (cr f29b)))) [.next (cr (cr (cr f29b)))] kr kr kr (fun s9=>∃(lk2:List II),(lk2=l14_++brC br tk ((l14_.length:Int)+3))∧(lk2.length≤l.length+10)∧s9=⟨tmL [(0,pT 0 0)],hq [oB 75 (eK c od rd nd nr hd hr fl nx tg br tk ct slots (s5 10 lk2.length) (s1 7 fix.length)),(iiF c),(inF od),(inF rd),(inF rg),(inF sl),none,(inF fix),none,none,(hhF lk2)]⟩) hX ?_ ?_)
  ·intro R2_ hR2_;rcases(by omega:br=0∨br=34∨(br≠0∧br≠34))with hbr9|hbr9|hbr9
   ·refine sd_see 36 (.bool false) (see_bool (x:=((br:Int) != 0)) kr (by simp;omega)) (sd_run 2 ?_);refine sd_inv R2_ kr (hR2_ _ _ (emOf (eM [1,2,3,4,5,6,7,8,0,0,10])) ⟨l14_,(by unfold brC;rw[if_pos hbr9];simp),zo,rfl⟩ ⟨zs,zt⟩ kr)
   ·refine sd_see 36 (.bool true) (see_bool (x:=((br:Int) != 0)) kr (by simp;omega)) (sd_run 8 (zG 43 73 #[jI br] (@e_jumps_s br ) [] ?_));rintro v9 k9 ⟨v15_,b15_,q6_0,q6_1,rfl,rfl⟩;refine⟨rfl,.tuple #[jU v15_,.bool b15_],kr,?_⟩;refine sd_run 3 (sd_see 45 (.bool false) (see_bool (x:=b15_) kr (by rw[q6_1];simp;omega)) (sd_run 7 (zC 47 64 #[pT 0 0,jI 11,jI 15,jU 1] (@e_ld_s c od rd rg sl l14_ fix nd nr hd hr fl nx tg br tk ct slots 11 15 1 zo) (eM [1,2,3,4,5,6,10,8]) ?_)));rintro Y v9 k9 ⟨l16_,q7_0,q7_1,rfl,rfl⟩;refine mkG (.tuple #[]) [oB 75 (eK c od rd nd nr hd hr fl nx tg br tk ct slots (s5 10 l16_.length) (s1 7 fix.length)),(iiF c),(inF od),(inF rd),(inF rg),(inF sl),none,(inF fix),none,none,(hhF l16_)] ⟨cvr 0,cvs 1 Y,cvs 2 Y,cvs 3 Y,cvs 4 Y,cvs 5 Y,cvs 7 Y,hhC_c 8,⟨⟩⟩ ?_;refine sd_run 6 (zC 50 25 #[pT 0 0,jI 12,jU v15_] (@e_li_s c od rd rg sl l16_ fix nd nr hd hr fl nx tg br tk ct slots 12 v15_ zo) (eM [1,2,3,4,5,6,11,8]) ?_);rintro Y v9 k9 ⟨l17_,q8_0,q8_1,rfl,rfl⟩;refine mkG (.tuple #[]) [oB 75 (eK c od rd nd nr hd hr fl nx tg br tk ct slots (s5 11 l17_.length) (s1 7 fix.length)),(iiF c),(inF od),(inF rd),(inF rg),(inF sl),none,(inF fix),none,none,none,(hhF l17_)] ⟨cvr 0,cvs 1 Y,cvs 2 Y,cvs 3 Y,cvs 4 Y,cvs 5 Y,cvs 7 Y,hhC_c 8,⟨⟩⟩ ?_
    refine sd_run 5 (zC 52 65 #[pT 0 0,jI 5,jI 11,jI 11,jI 12] (@e_op_s c od rd rg sl l17_ fix nd nr hd hr fl nx tg br tk ct slots 5 11 11 12 zo) (eM [1,2,3,4,5,6,12,8]) ?_);rintro Y v9 k9 ⟨l18_,q9_0,q9_1,rfl,rfl⟩;refine mkG (.tuple #[]) [oB 75 (eK c od rd nd nr hd hr fl nx tg br tk ct slots (s5 12 l18_.length) (s1 7 fix.length)),(iiF c),(inF od),(inF rd),(inF rg),(inF sl),none,(inF fix),none,none,none,none,(hhF l18_)] ⟨cvr 0,cvs 1 Y,cvs 2 Y,cvs 3 Y,cvs 4 Y,cvs 5 Y,cvs 7 Y,hhC_c 8,⟨⟩⟩ ?_;refine zI 10 58 .i64 ((l14_.length:Int)+5) (IntKind.i64.wrap ((l18_.length:Int)+2)) (sd_run 1 (sd_see 59 (jU ((l14_.length:Int)+5)) (see_int (x:=(IntKind.u32.wrap ((l14_.length:Int)+5))) kr (wu32 rfl zo (by simp at *;omega))) (sd_run 23 (zC 67 30 #[pT 0 0,sK 14 1 1] (@e_add_s c od rd rg sl l18_ fix nd nr hd hr fl nx tg br tk ct slots 17 0 11 0 ((l14_.length:Int)+5) zo) (eM [1,2,3,4,5,6,13,8,15]) ?_))));rintro Y v9 k9 ⟨l19_,q10_0,q10_1,rfl,rfl⟩;refine mkG (.tuple #[]) [oB 75 (eK c od rd nd nr hd hr fl nx tg br tk ct slots (s5 15 l19_.length) (s1 7 fix.length)),(iiF c),(inF od),(inF rd),(inF rg),(inF sl),none,(inF fix),none,none,none,none,none,oB 81 (c5L 17 0 11 0 ((l14_.length:Int)+5)),oB 81 (c5L 17 0 11 0 ((l14_.length:Int)+5)),(hhF l19_)] ⟨cvr 0,cvs 1 Y,cvs 2 Y,cvs 3 Y,cvs 4 Y,cvs 5 Y,cvs 7 Y,cvo,cvs 8 Y,hhC_c 9,⟨⟩⟩ ?_
    refine sd_run 9 (zC 74 25 #[pT 0 0,jI 9,jU tk] (@e_li_s c od rd rg sl l19_ fix nd nr hd hr fl nx tg br tk ct slots 9 tk zo) (eM [1,2,3,4,5,6,16,8]) ?_);rintro Y v9 k9 ⟨l110_,q11_0,q11_1,rfl,rfl⟩;refine mkG (.tuple #[]) [oB 75 (eK c od rd nd nr hd hr fl nx tg br tk ct slots (s5 16 l110_.length) (s1 7 fix.length)),(iiF c),(inF od),(inF rd),(inF rg),(inF sl),none,(inF fix),none,none,none,none,none,oB 81 (c5L 17 0 11 0 ((l14_.length:Int)+5)),oB 81 (c5L 17 0 11 0 ((l14_.length:Int)+5)),none,(hhF l110_)] ⟨cvr 0,cvs 1 Y,cvs 2 Y,cvs 3 Y,cvs 4 Y,cvs 5 Y,cvs 7 Y,cvo,cvo,hhC_c 8,⟨⟩⟩ ?_;refine sd_run 1 ?_;refine sd_inv R2_ kr (hR2_ _ _ (emOf (eM [1,2,3,4,5,6,7,8,0,0,17])) ⟨l110_,(by rw[q11_0,q10_0,q9_0,q8_0,q7_0];rw[q6_0];unfold brC;rw[if_neg zo,if_pos zo];simp[mkI,liI,opI,ldI];try omega),zo,rfl⟩ ⟨zs,zt⟩ kr)
   ·refine sd_see 36 (.bool true) (see_bool (x:=((br:Int) != 0)) kr (by simp;omega)) (sd_run 8 (zG 43 73 #[jI br] (@e_jumps_s br ) [] ?_));rintro v9 k9 ⟨v111_,b111_,q12_0,q12_1,rfl,rfl⟩;refine⟨rfl,.tuple #[jU v111_,.bool b111_],kr,?_⟩;refine sd_run 3 (sd_see 45 (.bool true) (see_bool (x:=b111_) kr (by rw[q12_1];simp;omega)) (sd_run 7 (zC 47 64 #[pT 0 0,jI 11,jI 15,jU 1] (@e_ld_s c od rd rg sl l14_ fix nd nr hd hr fl nx tg br tk ct slots 11 15 1 zo) (eM [1,2,3,4,5,6,10,8]) ?_)));rintro Y v9 k9 ⟨l112_,q13_0,q13_1,rfl,rfl⟩;refine mkG (.tuple #[]) [oB 75 (eK c od rd nd nr hd hr fl nx tg br tk ct slots (s5 10 l112_.length) (s1 7 fix.length)),(iiF c),(inF od),(inF rd),(inF rg),(inF sl),none,(inF fix),none,none,(hhF l112_)] ⟨cvr 0,cvs 1 Y,cvs 2 Y,cvs 3 Y,cvs 4 Y,cvs 5 Y,cvs 7 Y,hhC_c 8,⟨⟩⟩ ?_;refine sd_run 6 (zC 50 25 #[pT 0 0,jI 12,jU v111_] (@e_li_s c od rd rg sl l112_ fix nd nr hd hr fl nx tg br tk ct slots 12 v111_ zo) (eM [1,2,3,4,5,6,11,8]) ?_);rintro Y v9 k9 ⟨l113_,q14_0,q14_1,rfl,rfl⟩;refine mkG (.tuple #[]) [oB 75 (eK c od rd nd nr hd hr fl nx tg br tk ct slots (s5 11 l113_.length) (s1 7 fix.length)),(iiF c),(inF od),(inF rd),(inF rg),(inF sl),none,(inF fix),none,none,none,(hhF l113_)] ⟨cvr 0,cvs 1 Y,cvs 2 Y,cvs 3 Y,cvs 4 Y,cvs 5 Y,cvs 7 Y,hhC_c 8,⟨⟩⟩ ?_
    refine sd_run 5 (zC 52 65 #[pT 0 0,jI 5,jI 11,jI 11,jI 12] (@e_op_s c od rd rg sl l113_ fix nd nr hd hr fl nx tg br tk ct slots 5 11 11 12 zo) (eM [1,2,3,4,5,6,12,8]) ?_);rintro Y v9 k9 ⟨l114_,q15_0,q15_1,rfl,rfl⟩;refine mkG (.tuple #[]) [oB 75 (eK c od rd nd nr hd hr fl nx tg br tk ct slots (s5 12 l114_.length) (s1 7 fix.length)),(iiF c),(inF od),(inF rd),(inF rg),(inF sl),none,(inF fix),none,none,none,none,(hhF l114_)] ⟨cvr 0,cvs 1 Y,cvs 2 Y,cvs 3 Y,cvs 4 Y,cvs 5 Y,cvs 7 Y,hhC_c 8,⟨⟩⟩ ?_;refine zI 10 58 .i64 ((l14_.length:Int)+5) (IntKind.i64.wrap ((l114_.length:Int)+2)) (sd_run 1 (sd_see 59 (jU ((l14_.length:Int)+5)) (see_int (x:=(IntKind.u32.wrap ((l14_.length:Int)+5))) kr (wu32 rfl zo (by simp at *;omega))) (sd_run 20 (zC 67 30 #[pT 0 0,sK 14 1 1] (@e_add_s c od rd rg sl l114_ fix nd nr hd hr fl nx tg br tk ct slots 16 0 11 0 ((l14_.length:Int)+5) zo) (eM [1,2,3,4,5,6,13,8,15]) ?_))));rintro Y v9 k9 ⟨l115_,q16_0,q16_1,rfl,rfl⟩;refine mkG (.tuple #[]) [oB 75 (eK c od rd nd nr hd hr fl nx tg br tk ct slots (s5 15 l115_.length) (s1 7 fix.length)),(iiF c),(inF od),(inF rd),(inF rg),(inF sl),none,(inF fix),none,none,none,none,none,oB 81 (c5L 16 0 11 0 ((l14_.length:Int)+5)),oB 81 (c5L 16 0 11 0 ((l14_.length:Int)+5)),(hhF l115_)] ⟨cvr 0,cvs 1 Y,cvs 2 Y,cvs 3 Y,cvs 4 Y,cvs 5 Y,cvs 7 Y,cvo,cvs 8 Y,hhC_c 9,⟨⟩⟩ ?_
    refine sd_run 9 (zC 74 25 #[pT 0 0,jI 9,jU tk] (@e_li_s c od rd rg sl l115_ fix nd nr hd hr fl nx tg br tk ct slots 9 tk zo) (eM [1,2,3,4,5,6,16,8]) ?_);rintro Y v9 k9 ⟨l116_,q17_0,q17_1,rfl,rfl⟩;refine mkG (.tuple #[]) [oB 75 (eK c od rd nd nr hd hr fl nx tg br tk ct slots (s5 16 l116_.length) (s1 7 fix.length)),(iiF c),(inF od),(inF rd),(inF rg),(inF sl),none,(inF fix),none,none,none,none,none,oB 81 (c5L 16 0 11 0 ((l14_.length:Int)+5)),oB 81 (c5L 16 0 11 0 ((l14_.length:Int)+5)),none,(hhF l116_)] ⟨cvr 0,cvs 1 Y,cvs 2 Y,cvs 3 Y,cvs 4 Y,cvs 5 Y,cvs 7 Y,cvo,cvo,hhC_c 8,⟨⟩⟩ ?_;refine sd_run 1 ?_;refine sd_inv R2_ kr (hR2_ _ _ (emOf (eM [1,2,3,4,5,6,7,8,0,0,17])) ⟨l116_,(by rw[q17_0,q16_0,q15_0,q14_0,q13_0];rw[q12_0];unfold brC;rw[if_neg zo,if_neg zo];simp[mkI,liI,opI,ldI];try omega),zo,rfl⟩ ⟨zs,zt⟩ kr)
  ·rintro s9 ⟨lk2,j2_0,j2_1,rfl⟩;refine sd_run 12 (sd_mid 108 (cr (cl (cr (cr (cr f29b))))) [.next (cr (cr (cr (cr f29b))))] kr kr kr (fun s9=>∃(lk3:List II),(lk3=lk2++tgC rg sl tg)∧(lk3.length≤l.length+12)∧s9=⟨tmL [(0,pT 0 0)],hq [oB 75 (eK c od rd nd nr hd hr fl nx tg br tk ct slots (s5 11 lk3.length) (s1 7 fix.length)),(iiF c),(inF od),(inF rd),(inF rg),(inF sl),none,(inF fix),none,none,none,(hhF lk3)]⟩) hX ?_ ?_)
   ·intro R3_ hR3_;rcases htv with htg9|htg9
    ·refine sd_see 80 (.bool false) (see_bool (x:=(decide ((tg:Int)≥0))) kr (by simp;omega)) (sd_run 2 ?_);refine sd_inv R3_ kr (hR3_ _ _ (emOf (eM [1,2,3,4,5,6,7,8,0,0,0,11])) ⟨lk2,(by unfold tgC;rw[if_neg zo];simp),zo,rfl⟩ ⟨zs,zt⟩ kr)
    ·obtain⟨qtg1,qtg2⟩:=valB_iff.1 htg9;obtain⟨TG,hTG⟩:=aa qtg1;refine sd_see 80 (.bool true) (see_bool (x:=(decide ((tg:Int)≥0))) kr (by simp;omega)) (sd_run 9 (sd_see 87 (jI (TG:Int)) (see_int (x:=tg) kr hTG) (zC 88 68 #[pT 0 0,jI (TG:Int),jI 7] (@e_get_s c od rd rg sl lk2 fix nd nr hd hr fl nx tg br tk ct slots TG 7 zo hrg hsl zo (hs _ zo)) (eM [1,2,3,4,5,6,11,8]) ?_)));rintro Y v9 k9 ⟨l117_,v117_,q18_0,q18_1,q18_2,rfl,rfl⟩;refine mkG (jI v117_) [oB 75 (eK c od rd nd nr hd hr fl nx tg br tk ct slots (s5 11 l117_.length) (s1 7 fix.length)),(iiF c),(inF od),(inF rd),(inF rg),(inF sl),none,(inF fix),none,none,none,(hhF l117_)] ⟨cvr 0,cvs 1 Y,cvs 2 Y,cvs 3 Y,cvs 4 Y,cvs 5 Y,cvs 7 Y,hhC_c 8,⟨⟩⟩ ?_;refine sd_run 2 (zC 91 30 #[pT 0 0,sK 12 1 1] (@e_add_s c od rd rg sl l117_ fix nd nr hd hr fl nx tg br tk ct slots 2 9 v117_ 0 0 zo) (eM [1,2,3,4,5,6,12,8,13]) ?_);rintro Y v9 k9 ⟨l118_,q19_0,q19_1,rfl,rfl⟩;refine mkG (.tuple #[]) [oB 75 (eK c od rd nd nr hd hr fl nx tg br tk ct slots (s5 13 l118_.length) (s1 7 fix.length)),(iiF c),(inF od),(inF rd),(inF rg),(inF sl),none,(inF fix),none,none,none,none,oB 81 (c5L 2 9 v117_ 0 0),(hhF l118_)] ⟨cvr 0,cvs 1 Y,cvs 2 Y,cvs 3 Y,cvs 4 Y,cvs 5 Y,cvs 7 Y,cvs 8 Y,hhC_c 9,⟨⟩⟩ ?_;refine sd_run 1 ?_
     refine sd_inv R3_ kr (hR3_ _ _ (emOf (eM [1,2,3,4,5,6,7,8,0,0,0,14])) ⟨l118_,(by rw[q19_0,q18_0];rw[q18_1];unfold tgC;rw[if_pos zo,hTG];simp[mkI]),zo,rfl⟩ ⟨zs,zt⟩ kr)
   ·rintro s9 ⟨lk3,j3_0,j3_1,rfl⟩;refine sd_run 4 (zC 93 72 #[pT 0 0,jI 15,jU 0,jI 9] (@e_st_s c od rd rg sl lk3 fix nd nr hd hr fl nx tg br tk ct slots 15 0 9 zo) (eM [1,2,3,4,5,6,12,8]) ?_);rintro Y v9 k9 ⟨l119_,q20_0,q20_1,rfl,rfl⟩;refine mkG (.tuple #[]) [oB 75 (eK c od rd nd nr hd hr fl nx tg br tk ct slots (s5 12 l119_.length) (s1 7 fix.length)),(iiF c),(inF od),(inF rd),(inF rg),(inF sl),none,(inF fix),none,none,none,none,(hhF l119_)] ⟨cvr 0,cvs 1 Y,cvs 2 Y,cvs 3 Y,cvs 4 Y,cvs 5 Y,cvs 7 Y,hhC_c 8,⟨⟩⟩ ?_;refine zI 11 100 .u32 ct (IntKind.u32.wrap ct) (zC 101 25 #[pT 0 0,jI 11,jU ct] (@e_li_s c od rd rg sl l119_ fix nd nr hd hr fl nx tg br tk ct slots 11 ct zo) (eM [1,2,3,4,5,6,13,8]) ?_);rintro Y v9 k9 ⟨l120_,q21_0,q21_1,rfl,rfl⟩;refine mkG (.tuple #[]) [oB 75 (eK c od rd nd nr hd hr fl nx tg br tk ct slots (s5 13 l120_.length) (s1 7 fix.length)),(iiF c),(inF od),(inF rd),(inF rg),(inF sl),none,(inF fix),none,none,none,none,none,(hhF l120_)] ⟨cvr 0,cvs 1 Y,cvs 2 Y,cvs 3 Y,cvs 4 Y,cvs 5 Y,cvs 7 Y,hhC_c 8,⟨⟩⟩ ?_;refine sd_run 5 (zC 103 72 #[pT 0 0,jI 15,jU 36,jI 11] (@e_st_s c od rd rg sl l120_ fix nd nr hd hr fl nx tg br tk ct slots 15 36 11 zo) (eM [1,2,3,4,5,6,14,8]) ?_);rintro Y v9 k9 ⟨l121_,q22_0,q22_1,rfl,rfl⟩
    refine mkG (.tuple #[]) [oB 75 (eK c od rd nd nr hd hr fl nx tg br tk ct slots (s5 14 l121_.length) (s1 7 fix.length)),(iiF c),(inF od),(inF rd),(inF rg),(inF sl),none,(inF fix),none,none,none,none,none,none,(hhF l121_)] ⟨cvr 0,cvs 1 Y,cvs 2 Y,cvs 3 Y,cvs 4 Y,cvs 5 Y,cvs 7 Y,hhC_c 8,⟨⟩⟩ ?_;refine sd_run 6 (zC 107 30 #[pT 0 0,sK 15 1 1] (@e_add_s c od rd rg sl l121_ fix nd nr hd hr fl nx tg br tk ct slots 19 0 0 0 1 zo) (eM [1,2,3,4,5,6,15,8,16]) ?_);rintro Y v9 k9 ⟨l122_,q23_0,q23_1,rfl,rfl⟩;refine mkG (.tuple #[]) [oB 75 (eK c od rd nd nr hd hr fl nx tg br tk ct slots (s5 16 l122_.length) (s1 7 fix.length)),(iiF c),(inF od),(inF rd),(inF rg),(inF sl),none,(inF fix),none,none,none,none,none,none,none,oB 81 (c5L 19 0 0 0 1),(hhF l122_)] ⟨cvr 0,cvs 1 Y,cvs 2 Y,cvs 3 Y,cvs 4 Y,cvs 5 Y,cvs 7 Y,cvs 8 Y,hhC_c 9,⟨⟩⟩ ?_;refine sd_run 1 ?_;refine zY (.tuple #[]) hX (eM [1,2,3,4,5,6,7,8,17]) ⟨l122_,(by rw[q23_0,q22_0,q21_0,q20_0];rw[j3_0,j2_0,q5_0,j1_0];simp[mkI,liI,stI,finC];try (first|rfl|(congr 1;omega))),zo,rfl,rfl⟩
theorem outC_snoc(rg sl:List Int)(bs fr a:Int):∀(l:List Int) (k:Int),outC rg sl bs fr (l++[a]) k=outC rg sl bs fr l k++(gC rg sl a 7++[stI bs (fr+(k+(l.length:Int))) (gR rg a 7)])
 | [],k=>by simp[outC]
 |x::l,k=>by
  rw[List.cons_append,outC,outC,outC_snoc rg sl bs fr a l (k+1),ay];simp only[et,List.cons_append];rw[show k+1+(l.length:Int)=k+((l.length+1:Nat):Int) by omega]
theorem outC_take{rg sl od:List Int}{bs fr a:Int}{k:Nat}(h:od[k]? = some a):outC rg sl bs fr (od.take (k+1)) 0=outC rg sl bs fr (od.take k) 0++(gC rg sl a 7++[stI bs (fr+(k:Int)) (gR rg a 7)]):=by
 have hk:=(ae.1 h).1;rw[eV,h,Option.toList_some,outC_snoc,aO,eD (Nat.le_of_lt hk),ik]
noncomputable def f28b:Code:=Tryz.f28.body.getD .skip
theorem e_stack_od{c:List II}{od rd rg sl:List Int}{l:List II}{fix:List Int}{nd nr hd hr fl nx tg br tk ct slots:Int}{bs fr wd:Int}(hll:l.length<40000)(hrg:rg.length=c.length)(hsl:sl.length=c.length)(hs:∀N:Nat,N<c.length→rg.getD N 0<0→0≤sl.getD N 0∧sl.getD N 0<192)(hcl:c.length<1000)(hol:od.length<1000)(ho:∀(k:Nat) (x:Int),od[k]? = some x→valB x (c.length:Int)=true)(hfr:0≤fr∧fr<1000):SC 28 #[pT 0 0,jI bs,jU fr,jU wd,(s1 2 od.length)] (hq (eH c od rd rg sl l fix nd nr hd hr fl nx tg br tk ct slots)) fun v h=>∃(l1:List II),l1=l++stackC rg sl bs fr wd od∧l1.length≤l.length+(2*od.length+3)∧v=.tuple #[]∧h=hq (eP c od rd rg sl l1 fix nd nr hd hr fl nx tg br tk ct slots):=by
 refine zS Tryz.f28 f28b 41 8 fun X hX=>(sd_run 9 (sd_loop 41 (cl (cl (cr (cl f28b)))) [.blk 0,.next (cr f28b)] kr kr kr (fun m9 s9=>∃(k:Nat) (lk:List II),m9=od.length-k∧(k≤od.length)∧(lk=l++outC rg sl bs fr (od.take k) 0)∧(lk.length≤l.length+2*k)∧s9=⟨tmL [(0,pT 0 0),(1,jI bs),(2,jU fr),(3,jU wd),(4,(s1 2 od.length)),(12,(s1 2 od.length)),(13,jN od.length),(14,jI (k:Int))],hq [oB 75 (eK c od rd nd nr hd hr fl nx tg br tk ct slots (s5 8 lk.length) (s1 7 fix.length)),(iiF c),(inF od),(inF rd),(inF rg),(inF sl),none,(inF fix),(hhF lk)]⟩) (od.length-0) _ (emOf (eM [1,2,3,4,5,6,7,8,7])) hX ⟨0,l,rfl,zo,(by simp[outC]),zo,rfl⟩ ⟨zs,zt⟩ kr ?_))
 rintro m9 s9 ⟨k,lk,rfl,i1_0,i1_1,i1_2,rfl⟩ R1_ hR1_
 by_cases hlt_:k<od.length
 ·obtain⟨a1,ha1⟩:=zR od k;obtain⟨qa1,qa2⟩:=valB_iff.1 (ho k a1 ha1);obtain⟨A,hA⟩:=aa qa1;refine zT 3 15 ((k:Int)<(od.length:Int)) (zX 11 17 (pT 2 (0+k*1)) k od.length (zL 0 18 (jI a1) 3 2 0 3 false inC_len ha1 (sd_see 18 (jI (A:Int)) (see_int (x:=a1) kr hA) (zI 10 23 .u32 (k:Int) (IntKind.u32.wrap (k:Int)) (zI 1 24 .u32 (fr+(k:Int)) (IntKind.u32.wrap (fr+(k:Int))) (sd_run 2 (zC 27 68 #[pT 0 0,jI (A:Int),jI 7] (@e_get_s c od rd rg sl lk fix nd nr hd hr fl nx tg br tk ct slots A 7 zo hrg hsl zo (hs _ zo)) (eM [1,2,3,4,5,6,9,8]) ?_)))))));rintro Y v9 k9 ⟨l11_,v11_,q2_0,q2_1,q2_2,rfl,rfl⟩;refine mkG (jI v11_) [oB 75 (eK c od rd nd nr hd hr fl nx tg br tk ct slots (s5 9 l11_.length) (s1 7 fix.length)),(iiF c),(inF od),(inF rd),(inF rg),(inF sl),none,(inF fix),none,(hhF l11_)] ⟨cvr 0,cvs 1 Y,cvs 2 Y,cvs 3 Y,cvs 4 Y,cvs 5 Y,cvs 7 Y,hhC_c 8,⟨⟩⟩ ?_;refine zC 28 72 #[pT 0 0,jI bs,jU (fr+(k:Int)),jI v11_] (@e_st_s c od rd rg sl l11_ fix nd nr hd hr fl nx tg br tk ct slots bs (fr+(k:Int)) v11_ zo) (eM [1,2,3,4,5,6,10,8]) ?_;rintro Y v9 k9 ⟨l12_,q3_0,q3_1,rfl,rfl⟩;refine mkG (.tuple #[]) [oB 75 (eK c od rd nd nr hd hr fl nx tg br tk ct slots (s5 10 l12_.length) (s1 7 fix.length)),(iiF c),(inF od),(inF rd),(inF rg),(inF sl),none,(inF fix),none,none,(hhF l12_)] ⟨cvr 0,cvs 1 Y,cvs 2 Y,cvs 3 Y,cvs 4 Y,cvs 5 Y,cvs 7 Y,hhC_c 8,⟨⟩⟩ ?_
  refine zI 5 29 .i64 ((k+1:Nat):Int) (IntKind.i64.wrap ((k:Int)+1)) (sd_run 2 ?_);refine sd_inv R1_ kr (hR1_ _ (od.length-(k+1)) _ (emOf (eM [1,2,3,4,5,6,7,8,11])) zo ⟨k+1,l12_,rfl,zo,(by rw[q3_0,q2_0];rw[q2_1,i1_1,outC_take ha1,hA];simp[mkI,stI]),zo,rfl⟩ ⟨zs,zt⟩ kr)
 ·obtain rfl:k=od.length:=by omega
  refine zF 3 15 ((od.length:Int)<(od.length:Int)) (zI 15 33 .u32 (od.length:Int) (IntKind.u32.wrap (od.length:Int)) (zC 34 25 #[pT 0 0,jI 11,jU (od.length:Int)] (@e_li_s c od rd rg sl lk fix nd nr hd hr fl nx tg br tk ct slots 11 (od.length:Int) zo) (eM [1,2,3,4,5,6,9,8]) ?_));rintro Y v9 k9 ⟨l13_,q4_0,q4_1,rfl,rfl⟩;refine mkG (.tuple #[]) [oB 75 (eK c od rd nd nr hd hr fl nx tg br tk ct slots (s5 9 l13_.length) (s1 7 fix.length)),(iiF c),(inF od),(inF rd),(inF rg),(inF sl),none,(inF fix),none,(hhF l13_)] ⟨cvr 0,cvs 1 Y,cvs 2 Y,cvs 3 Y,cvs 4 Y,cvs 5 Y,cvs 7 Y,hhC_c 8,⟨⟩⟩ ?_;refine sd_run 6 (zC 37 65 #[pT 0 0,jI 3,jI 11,jI 11,jI bs] (@e_op_s c od rd rg sl l13_ fix nd nr hd hr fl nx tg br tk ct slots 3 11 11 bs zo) (eM [1,2,3,4,5,6,10,8]) ?_);rintro Y v9 k9 ⟨l14_,q5_0,q5_1,rfl,rfl⟩;refine mkG (.tuple #[]) [oB 75 (eK c od rd nd nr hd hr fl nx tg br tk ct slots (s5 10 l14_.length) (s1 7 fix.length)),(iiF c),(inF od),(inF rd),(inF rg),(inF sl),none,(inF fix),none,none,(hhF l14_)] ⟨cvr 0,cvs 1 Y,cvs 2 Y,cvs 3 Y,cvs 4 Y,cvs 5 Y,cvs 7 Y,hhC_c 8,⟨⟩⟩ ?_;refine sd_run 5 (zC 40 72 #[pT 0 0,jI 15,jU wd,jI 11] (@e_st_s c od rd rg sl l14_ fix nd nr hd hr fl nx tg br tk ct slots 15 wd 11 zo) (eM [1,2,3,4,5,6,11,8]) ?_);rintro Y v9 k9 ⟨l15_,q6_0,q6_1,rfl,rfl⟩
  refine mkG (.tuple #[]) [oB 75 (eK c od rd nd nr hd hr fl nx tg br tk ct slots (s5 11 l15_.length) (s1 7 fix.length)),(iiF c),(inF od),(inF rd),(inF rg),(inF sl),none,(inF fix),none,none,none,(hhF l15_)] ⟨cvr 0,cvs 1 Y,cvs 2 Y,cvs 3 Y,cvs 4 Y,cvs 5 Y,cvs 7 Y,hhC_c 8,⟨⟩⟩ ?_;refine sd_run 1 ?_;refine zY (.tuple #[]) hX (eM [1,2,3,4,5,6,7,8,12]) ⟨l15_,(by rw[q6_0,q5_0,q4_0];rw[i1_1];simp[mkI,stackC,liI,opI,stI]),zo,rfl,rfl⟩
theorem e_stack_rd{c:List II}{od rd rg sl:List Int}{l:List II}{fix:List Int}{nd nr hd hr fl nx tg br tk ct slots:Int}{bs fr wd:Int}(hll:l.length<40000)(hrg:rg.length=c.length)(hsl:sl.length=c.length)(hs:∀N:Nat,N<c.length→rg.getD N 0<0→0≤sl.getD N 0∧sl.getD N 0<192)(hcl:c.length<1000)(hol:rd.length<1000)(ho:∀(k:Nat) (x:Int),rd[k]? = some x→valB x (c.length:Int)=true)(hfr:0≤fr∧fr<1000):SC 28 #[pT 0 0,jI bs,jU fr,jU wd,(s1 3 rd.length)] (hq (eH c od rd rg sl l fix nd nr hd hr fl nx tg br tk ct slots)) fun v h=>∃(l1:List II),l1=l++stackC rg sl bs fr wd rd∧l1.length≤l.length+(2*rd.length+3)∧v=.tuple #[]∧h=hq (eP c od rd rg sl l1 fix nd nr hd hr fl nx tg br tk ct slots):=by
 refine zS Tryz.f28 f28b 41 8 fun X hX=>(sd_run 9 (sd_loop 41 (cl (cl (cr (cl f28b)))) [.blk 0,.next (cr f28b)] kr kr kr (fun m9 s9=>∃(k:Nat) (lk:List II),m9=rd.length-k∧(k≤rd.length)∧(lk=l++outC rg sl bs fr (rd.take k) 0)∧(lk.length≤l.length+2*k)∧s9=⟨tmL [(0,pT 0 0),(1,jI bs),(2,jU fr),(3,jU wd),(4,(s1 3 rd.length)),(12,(s1 3 rd.length)),(13,jN rd.length),(14,jI (k:Int))],hq [oB 75 (eK c od rd nd nr hd hr fl nx tg br tk ct slots (s5 8 lk.length) (s1 7 fix.length)),(iiF c),(inF od),(inF rd),(inF rg),(inF sl),none,(inF fix),(hhF lk)]⟩) (rd.length-0) _ (emOf (eM [1,2,3,4,5,6,7,8,7])) hX ⟨0,l,rfl,zo,(by simp[outC]),zo,rfl⟩ ⟨zs,zt⟩ kr ?_))
 rintro m9 s9 ⟨k,lk,rfl,i1_0,i1_1,i1_2,rfl⟩ R1_ hR1_
 by_cases hlt_:k<rd.length
 ·obtain⟨a1,ha1⟩:=zR rd k;obtain⟨qa1,qa2⟩:=valB_iff.1 (ho k a1 ha1);obtain⟨A,hA⟩:=aa qa1;refine zT 3 15 ((k:Int)<(rd.length:Int)) (zX 11 17 (pT 3 (0+k*1)) k rd.length (zL 0 18 (jI a1) 3 3 0 3 false inC_len ha1 (sd_see 18 (jI (A:Int)) (see_int (x:=a1) kr hA) (zI 10 23 .u32 (k:Int) (IntKind.u32.wrap (k:Int)) (zI 1 24 .u32 (fr+(k:Int)) (IntKind.u32.wrap (fr+(k:Int))) (sd_run 2 (zC 27 68 #[pT 0 0,jI (A:Int),jI 7] (@e_get_s c od rd rg sl lk fix nd nr hd hr fl nx tg br tk ct slots A 7 zo hrg hsl zo (hs _ zo)) (eM [1,2,3,4,5,6,9,8]) ?_)))))));rintro Y v9 k9 ⟨l11_,v11_,q2_0,q2_1,q2_2,rfl,rfl⟩;refine mkG (jI v11_) [oB 75 (eK c od rd nd nr hd hr fl nx tg br tk ct slots (s5 9 l11_.length) (s1 7 fix.length)),(iiF c),(inF od),(inF rd),(inF rg),(inF sl),none,(inF fix),none,(hhF l11_)] ⟨cvr 0,cvs 1 Y,cvs 2 Y,cvs 3 Y,cvs 4 Y,cvs 5 Y,cvs 7 Y,hhC_c 8,⟨⟩⟩ ?_;refine zC 28 72 #[pT 0 0,jI bs,jU (fr+(k:Int)),jI v11_] (@e_st_s c od rd rg sl l11_ fix nd nr hd hr fl nx tg br tk ct slots bs (fr+(k:Int)) v11_ zo) (eM [1,2,3,4,5,6,10,8]) ?_;rintro Y v9 k9 ⟨l12_,q3_0,q3_1,rfl,rfl⟩;refine mkG (.tuple #[]) [oB 75 (eK c od rd nd nr hd hr fl nx tg br tk ct slots (s5 10 l12_.length) (s1 7 fix.length)),(iiF c),(inF od),(inF rd),(inF rg),(inF sl),none,(inF fix),none,none,(hhF l12_)] ⟨cvr 0,cvs 1 Y,cvs 2 Y,cvs 3 Y,cvs 4 Y,cvs 5 Y,cvs 7 Y,hhC_c 8,⟨⟩⟩ ?_
  refine zI 5 29 .i64 ((k+1:Nat):Int) (IntKind.i64.wrap ((k:Int)+1)) (sd_run 2 ?_);refine sd_inv R1_ kr (hR1_ _ (rd.length-(k+1)) _ (emOf (eM [1,2,3,4,5,6,7,8,11])) zo ⟨k+1,l12_,rfl,zo,(by rw[q3_0,q2_0];rw[q2_1,i1_1,outC_take ha1,hA];simp[mkI,stI]),zo,rfl⟩ ⟨zs,zt⟩ kr)
 ·obtain rfl:k=rd.length:=by omega
  refine zF 3 15 ((rd.length:Int)<(rd.length:Int)) (zI 15 33 .u32 (rd.length:Int) (IntKind.u32.wrap (rd.length:Int)) (zC 34 25 #[pT 0 0,jI 11,jU (rd.length:Int)] (@e_li_s c od rd rg sl lk fix nd nr hd hr fl nx tg br tk ct slots 11 (rd.length:Int) zo) (eM [1,2,3,4,5,6,9,8]) ?_));rintro Y v9 k9 ⟨l13_,q4_0,q4_1,rfl,rfl⟩;refine mkG (.tuple #[]) [oB 75 (eK c od rd nd nr hd hr fl nx tg br tk ct slots (s5 9 l13_.length) (s1 7 fix.length)),(iiF c),(inF od),(inF rd),(inF rg),(inF sl),none,(inF fix),none,(hhF l13_)] ⟨cvr 0,cvs 1 Y,cvs 2 Y,cvs 3 Y,cvs 4 Y,cvs 5 Y,cvs 7 Y,hhC_c 8,⟨⟩⟩ ?_;refine sd_run 6 (zC 37 65 #[pT 0 0,jI 3,jI 11,jI 11,jI bs] (@e_op_s c od rd rg sl l13_ fix nd nr hd hr fl nx tg br tk ct slots 3 11 11 bs zo) (eM [1,2,3,4,5,6,10,8]) ?_);rintro Y v9 k9 ⟨l14_,q5_0,q5_1,rfl,rfl⟩;refine mkG (.tuple #[]) [oB 75 (eK c od rd nd nr hd hr fl nx tg br tk ct slots (s5 10 l14_.length) (s1 7 fix.length)),(iiF c),(inF od),(inF rd),(inF rg),(inF sl),none,(inF fix),none,none,(hhF l14_)] ⟨cvr 0,cvs 1 Y,cvs 2 Y,cvs 3 Y,cvs 4 Y,cvs 5 Y,cvs 7 Y,hhC_c 8,⟨⟩⟩ ?_;refine sd_run 5 (zC 40 72 #[pT 0 0,jI 15,jU wd,jI 11] (@e_st_s c od rd rg sl l14_ fix nd nr hd hr fl nx tg br tk ct slots 15 wd 11 zo) (eM [1,2,3,4,5,6,11,8]) ?_);rintro Y v9 k9 ⟨l15_,q6_0,q6_1,rfl,rfl⟩
  refine mkG (.tuple #[]) [oB 75 (eK c od rd nd nr hd hr fl nx tg br tk ct slots (s5 11 l15_.length) (s1 7 fix.length)),(iiF c),(inF od),(inF rd),(inF rg),(inF sl),none,(inF fix),none,none,none,(hhF l15_)] ⟨cvr 0,cvs 1 Y,cvs 2 Y,cvs 3 Y,cvs 4 Y,cvs 5 Y,cvs 7 Y,hhC_c 8,⟨⟩⟩ ?_;refine sd_run 1 ?_;refine zY (.tuple #[]) hX (eM [1,2,3,4,5,6,7,8,12]) ⟨l15_,(by rw[q6_0,q5_0,q4_0];rw[i1_1];simp[mkI,stackC,liI,opI,stI]),zo,rfl,rfl⟩
noncomputable def f26b:Code:=Tryz.f26.body.getD .skip
theorem e_room_no_f{c:List II}{od rd rg sl:List Int}{l:List II}{nd nr hd hr fl nx tg br tk ct slots:Int}{bs wd need hi ou:Int}(hne:0≤need∧need≤16)(hhi:0≤hi∧hi≤16)(hou:0≤ou∧ou<1000)(hmo:(mostO need hi ou)<need):SC 26 #[pT 0 0,jI bs,jU wd,jI need,jI hi,jI ou] (hq [oB 75 (eK c od rd nd nr hd hr fl nx tg br tk ct slots (s5 6 l.length) nS),(iiF c),(inF od),(inF rd),(inF rg),(inF sl),(hhF l)]) fun v h=>v=.bool false∧h=hq [oB 75 (eK c od rd nd nr hd hr fl nx tg br tk ct slots (s5 6 l.length) nS),(iiF c),(inF od),(inF rd),(inF rg),(inF sl),(hhF l)]:=by
 refine zS Tryz.f26 f26b 50 7 fun X hX=>(zI 9 15 .i64 (16-hi) (IntKind.i64.wrap (16-hi)) (zI 2 17 .i64 (16+need) (IntKind.i64.wrap (16+need)) (zI 2 19 .i64 (16+need-ou) (IntKind.i64.wrap ((16+need)-ou)) (sd_run 1 (sd_see 20 (jI (mostO need hi ou)) (see_int (x:=(if(16+need-ou)<(16-hi)then(16+need-ou)else(16-hi))) kr (by unfold mostO;split<;>omega)) (sd_run 9 (sd_see 23 (.bool true) (see_bool kr (aQ hmo)) (sd_run 10 ?_))))))))
 refine zY (.bool false) hX i7_ ⟨rfl,rfl⟩
theorem e_room_f{c:List II}{od rd rg sl:List Int}{l:List II}{nd nr hd hr fl nx tg br tk ct slots:Int}{bs wd need hi ou:Int}(hll:l.length<50000)(hne:0≤need∧need≤16)(hhi:0≤hi∧hi≤16)(hou:0≤ou∧ou<1000)(hmo:¬(mostO need hi ou)<need):SC 26 #[pT 0 0,jI bs,jU wd,jI need,jI hi,jI ou] (hq [oB 75 (eK c od rd nd nr hd hr fl nx tg br tk ct slots (s5 6 l.length) nS),(iiF c),(inF od),(inF rd),(inF rg),(inF sl),(hhF l)]) fun v h=>∃(f1:List Int) (l1:List II),l1=l++roomC bs wd need (mostO need hi ou) 0∧f1=[((l.length+3:Nat):Int),((l.length+6:Nat):Int)]∧v=.bool true∧h=hq [oB 75 (eK c od rd nd nr hd hr fl nx tg br tk ct slots (s5 8 l1.length) (s1 7 f1.length)),(iiF c),(inF od),(inF rd),(inF rg),(inF sl),none,(inF f1),(hhF l1)]:=by
 refine zS Tryz.f26 f26b 50 7 fun X hX=>(zI 9 15 .i64 (16-hi) (IntKind.i64.wrap (16-hi)) (zI 2 17 .i64 (16+need) (IntKind.i64.wrap (16+need)) (zI 2 19 .i64 (16+need-ou) (IntKind.i64.wrap ((16+need)-ou)) (sd_run 1 (sd_see 20 (jI (mostO need hi ou)) (see_int (x:=(if(16+need-ou)<(16-hi)then(16+need-ou)else(16-hi))) kr (by unfold mostO;split<;>omega)) (sd_run 9 (sd_see 23 (.bool false) (see_bool kr (aD hmo)) (sd_run 10 (zC 27 64 #[pT 0 0,jI bs,jI 15,jU wd] (@e_ld_f c od rd rg sl l nd nr hd hr fl nx tg br tk ct slots bs 15 wd zo) i7_ ?_)))))))))
 rintro Y v9 k9 ⟨l10_,q1_0,q1_1,rfl,rfl⟩;refine mkG (.tuple #[]) [oB 75 (eK c od rd nd nr hd hr fl nx tg br tk ct slots (s5 7 l10_.length) nS),(iiF c),(inF od),(inF rd),(inF rg),(inF sl),none,(hhF l10_)] ⟨cvr 0,cvs 1 Y,cvs 2 Y,cvs 3 Y,cvs 4 Y,cvs 5 Y,hhC_c 7,⟨⟩⟩ ?_;refine zI 7 30 .u32 need (IntKind.u32.wrap need) (zC 31 25 #[pT 0 0,jI 11,jU need] (@e_li_f c od rd rg sl l10_ nd nr hd hr fl nx tg br tk ct slots 11 need zo) (eM [1,2,3,4,5,6,8]) ?_);rintro Y v9 k9 ⟨l11_,q2_0,q2_1,rfl,rfl⟩;refine mkG (.tuple #[]) [oB 75 (eK c od rd nd nr hd hr fl nx tg br tk ct slots (s5 8 l11_.length) nS),(iiF c),(inF od),(inF rd),(inF rg),(inF sl),none,none,(hhF l11_)] ⟨cvr 0,cvs 1 Y,cvs 2 Y,cvs 3 Y,cvs 4 Y,cvs 5 Y,hhC_c 7,⟨⟩⟩ ?_;refine sd_run 6 (zC 34 65 #[pT 0 0,jI 12,jI 12,jI bs,jI 11] (@e_op_f c od rd rg sl l11_ nd nr hd hr fl nx tg br tk ct slots 12 12 bs 11 zo) (eM [1,2,3,4,5,6,9]) ?_);rintro Y v9 k9 ⟨l12_,q3_0,q3_1,rfl,rfl⟩;refine mkG (.tuple #[]) [oB 75 (eK c od rd nd nr hd hr fl nx tg br tk ct slots (s5 9 l12_.length) nS),(iiF c),(inF od),(inF rd),(inF rg),(inF sl),none,none,none,(hhF l12_)] ⟨cvr 0,cvs 1 Y,cvs 2 Y,cvs 3 Y,cvs 4 Y,cvs 5 Y,hhC_c 7,⟨⟩⟩ ?_;refine sd_run 5 (zC 36 66 #[pT 0 0,jI 12] (@e_unless_f c od rd rg sl l12_ nd nr hd hr fl nx tg br tk ct slots 12 zo) (eM [1,2,3,4,5,6,10]) ?_);rintro Y v9 k9 ⟨l13_,q4_0,q4_1,rfl,rfl⟩
 refine mkG (.tuple #[]) [oB 75 (eK c od rd nd nr hd hr fl nx tg br tk ct slots (s5 11 l13_.length) (s1 10 ([(l12_.length:Int)].length))),(iiF c),(inF od),(inF rd),(inF rg),(inF sl),none,none,none,none,(inF ([(l12_.length:Int)])),(hhF l13_)] ⟨cvr 0,cvs 1 Y,cvs 2 Y,cvs 3 Y,cvs 4 Y,cvs 5 Y,inC_c 7,hhC_c 8,⟨⟩⟩ ?_;refine sd_run 7 (sd_see 39 (jU (mostO need hi ou)) (see_int (x:=(IntKind.u32.wrap (mostO need hi ou))) kr (wu32 rfl zo (by unfold mostO;omega))) (zC 40 25 #[pT 0 0,jI 12,jU (mostO need hi ou)] (@e_li_s c od rd rg sl l13_ ([(l12_.length:Int)]) nd nr hd hr fl nx tg br tk ct slots 12 (mostO need hi ou) zo) (eM [1,2,3,4,5,6,12,11]) ?_));rintro Y v9 k9 ⟨l14_,q5_0,q5_1,rfl,rfl⟩;refine mkG (.tuple #[]) [oB 75 (eK c od rd nd nr hd hr fl nx tg br tk ct slots (s5 12 l14_.length) (s1 10 (([(l12_.length:Int)]).length))),(iiF c),(inF od),(inF rd),(inF rg),(inF sl),none,none,none,none,(inF ([(l12_.length:Int)])),none,(hhF l14_)] ⟨cvr 0,cvs 1 Y,cvs 2 Y,cvs 3 Y,cvs 4 Y,cvs 5 Y,cvs 7 Y,hhC_c 8,⟨⟩⟩ ?_;refine sd_run 6 (zC 43 65 #[pT 0 0,jI 12,jI 12,jI 12,jI bs] (@e_op_s c od rd rg sl l14_ ([(l12_.length:Int)]) nd nr hd hr fl nx tg br tk ct slots 12 12 12 bs zo) (eM [1,2,3,4,5,6,13,11]) ?_);rintro Y v9 k9 ⟨l15_,q6_0,q6_1,rfl,rfl⟩
 refine mkG (.tuple #[]) [oB 75 (eK c od rd nd nr hd hr fl nx tg br tk ct slots (s5 13 l15_.length) (s1 10 (([(l12_.length:Int)]).length))),(iiF c),(inF od),(inF rd),(inF rg),(inF sl),none,none,none,none,(inF ([(l12_.length:Int)])),none,none,(hhF l15_)] ⟨cvr 0,cvs 1 Y,cvs 2 Y,cvs 3 Y,cvs 4 Y,cvs 5 Y,cvs 7 Y,hhC_c 8,⟨⟩⟩ ?_;refine sd_run 5 (zC 45 66 #[pT 0 0,jI 12] (@e_unless_s c od rd rg sl l15_ ([(l12_.length:Int)]) nd nr hd hr fl nx tg br tk ct slots 12 zo (by first|omega|(simp<;>omega))) (eM [1,2,3,4,5,6,14,11]) ?_);rintro Y v9 k9 ⟨l16_,q7_0,q7_1,rfl,rfl⟩;refine mkG (.tuple #[]) [oB 75 (eK c od rd nd nr hd hr fl nx tg br tk ct slots (s5 15 l16_.length) (s1 14 ((([(l12_.length:Int)])++[(l15_.length:Int)]).length))),(iiF c),(inF od),(inF rd),(inF rg),(inF sl),none,none,none,none,none,none,none,none,(inF (([(l12_.length:Int)])++[(l15_.length:Int)])),(hhF l16_)] ⟨cvr 0,cvs 1 Y,cvs 2 Y,cvs 3 Y,cvs 4 Y,cvs 5 Y,inC_c 8,hhC_c 9,⟨⟩⟩ ?_;refine sd_run 7 (zC 49 65 #[pT 0 0,jI 4,jI bs,jI bs,jI 11] (@e_op_s c od rd rg sl l16_ (([(l12_.length:Int)])++[(l15_.length:Int)]) nd nr hd hr fl nx tg br tk ct slots 4 bs bs 11 zo) (eM [1,2,3,4,5,6,16,15]) ?_);rintro Y v9 k9 ⟨l17_,q8_0,q8_1,rfl,rfl⟩
 refine mkG (.tuple #[]) [oB 75 (eK c od rd nd nr hd hr fl nx tg br tk ct slots (s5 16 l17_.length) (s1 14 ((([(l12_.length:Int)])++[(l15_.length:Int)]).length))),(iiF c),(inF od),(inF rd),(inF rg),(inF sl),none,none,none,none,none,none,none,none,(inF (([(l12_.length:Int)])++[(l15_.length:Int)])),none,(hhF l17_)] ⟨cvr 0,cvs 1 Y,cvs 2 Y,cvs 3 Y,cvs 4 Y,cvs 5 Y,cvs 7 Y,hhC_c 8,⟨⟩⟩ ?_;refine sd_run 8 ?_;refine zY (.bool true) hX (eM [1,2,3,4,5,6,7,15,17]) ⟨([(l12_.length:Int)])++[(l15_.length:Int)],l17_,(by rw[q8_0,q7_0,q6_0,q5_0,q4_0,q3_0,q2_0,q1_0];simp[mkI,roomC,ldI,liI,opI]),(by simp<;>omega),rfl,rfl⟩
theorem e_room_no_s{c:List II}{od rd rg sl:List Int}{l:List II}{fix:List Int}{nd nr hd hr fl nx tg br tk ct slots:Int}{bs wd need hi ou:Int}(hne:0≤need∧need≤16)(hhi:0≤hi∧hi≤16)(hou:0≤ou∧ou<1000)(hmo:(mostO need hi ou)<need):SC 26 #[pT 0 0,jI bs,jU wd,jI need,jI hi,jI ou] (hq (eH c od rd rg sl l fix nd nr hd hr fl nx tg br tk ct slots)) fun v h=>v=.bool false∧h=hq (eH c od rd rg sl l fix nd nr hd hr fl nx tg br tk ct slots):=by
 refine zS Tryz.f26 f26b 50 8 fun X hX=>(zI 9 15 .i64 (16-hi) (IntKind.i64.wrap (16-hi)) (zI 2 17 .i64 (16+need) (IntKind.i64.wrap (16+need)) (zI 2 19 .i64 (16+need-ou) (IntKind.i64.wrap ((16+need)-ou)) (sd_run 1 (sd_see 20 (jI (mostO need hi ou)) (see_int (x:=(if(16+need-ou)<(16-hi)then(16+need-ou)else(16-hi))) kr (by unfold mostO;split<;>omega)) (sd_run 9 (sd_see 23 (.bool true) (see_bool kr (aQ hmo)) (sd_run 10 ?_))))))))
 refine zY (.bool false) hX i8_ ⟨rfl,rfl⟩
theorem e_room_s{c:List II}{od rd rg sl:List Int}{l:List II}{fix:List Int}{nd nr hd hr fl nx tg br tk ct slots:Int}{bs wd need hi ou:Int}(hll:l.length<50000)(hfl:fix.length<50000)(hne:0≤need∧need≤16)(hhi:0≤hi∧hi≤16)(hou:0≤ou∧ou<1000)(hmo:¬(mostO need hi ou)<need):SC 26 #[pT 0 0,jI bs,jU wd,jI need,jI hi,jI ou] (hq (eH c od rd rg sl l fix nd nr hd hr fl nx tg br tk ct slots)) fun v h=>∃(f1:List Int) (l1:List II),l1=l++roomC bs wd need (mostO need hi ou) 0∧f1=fix++[((l.length+3:Nat):Int),((l.length+6:Nat):Int)]∧v=.bool true∧h=hq [oB 75 (eK c od rd nd nr hd hr fl nx tg br tk ct slots (s5 9 l1.length) (s1 8 f1.length)),(iiF c),(inF od),(inF rd),(inF rg),(inF sl),none,none,(inF f1),(hhF l1)]:=by
 refine zS Tryz.f26 f26b 50 8 fun X hX=>(zI 9 15 .i64 (16-hi) (IntKind.i64.wrap (16-hi)) (zI 2 17 .i64 (16+need) (IntKind.i64.wrap (16+need)) (zI 2 19 .i64 (16+need-ou) (IntKind.i64.wrap ((16+need)-ou)) (sd_run 1 (sd_see 20 (jI (mostO need hi ou)) (see_int (x:=(if(16+need-ou)<(16-hi)then(16+need-ou)else(16-hi))) kr (by unfold mostO;split<;>omega)) (sd_run 9 (sd_see 23 (.bool false) (see_bool kr (aD hmo)) (sd_run 10 (zC 27 64 #[pT 0 0,jI bs,jI 15,jU wd] (@e_ld_s c od rd rg sl l fix nd nr hd hr fl nx tg br tk ct slots bs 15 wd zo) i8_ ?_)))))))))
 rintro Y v9 k9 ⟨l10_,q1_0,q1_1,rfl,rfl⟩;refine mkG (.tuple #[]) [oB 75 (eK c od rd nd nr hd hr fl nx tg br tk ct slots (s5 8 l10_.length) (s1 7 fix.length)),(iiF c),(inF od),(inF rd),(inF rg),(inF sl),none,(inF fix),(hhF l10_)] ⟨cvr 0,cvs 1 Y,cvs 2 Y,cvs 3 Y,cvs 4 Y,cvs 5 Y,cvs 7 Y,hhC_c 8,⟨⟩⟩ ?_;refine zI 7 30 .u32 need (IntKind.u32.wrap need) (zC 31 25 #[pT 0 0,jI 11,jU need] (@e_li_s c od rd rg sl l10_ fix nd nr hd hr fl nx tg br tk ct slots 11 need zo) (eM [1,2,3,4,5,6,9,8]) ?_);rintro Y v9 k9 ⟨l11_,q2_0,q2_1,rfl,rfl⟩;refine mkG (.tuple #[]) [oB 75 (eK c od rd nd nr hd hr fl nx tg br tk ct slots (s5 9 l11_.length) (s1 7 fix.length)),(iiF c),(inF od),(inF rd),(inF rg),(inF sl),none,(inF fix),none,(hhF l11_)] ⟨cvr 0,cvs 1 Y,cvs 2 Y,cvs 3 Y,cvs 4 Y,cvs 5 Y,cvs 7 Y,hhC_c 8,⟨⟩⟩ ?_;refine sd_run 6 (zC 34 65 #[pT 0 0,jI 12,jI 12,jI bs,jI 11] (@e_op_s c od rd rg sl l11_ fix nd nr hd hr fl nx tg br tk ct slots 12 12 bs 11 zo) (eM [1,2,3,4,5,6,10,8]) ?_);rintro Y v9 k9 ⟨l12_,q3_0,q3_1,rfl,rfl⟩;refine mkG (.tuple #[]) [oB 75 (eK c od rd nd nr hd hr fl nx tg br tk ct slots (s5 10 l12_.length) (s1 7 fix.length)),(iiF c),(inF od),(inF rd),(inF rg),(inF sl),none,(inF fix),none,none,(hhF l12_)] ⟨cvr 0,cvs 1 Y,cvs 2 Y,cvs 3 Y,cvs 4 Y,cvs 5 Y,cvs 7 Y,hhC_c 8,⟨⟩⟩ ?_
 refine sd_run 5 (zC 36 66 #[pT 0 0,jI 12] (@e_unless_s c od rd rg sl l12_ fix nd nr hd hr fl nx tg br tk ct slots 12 zo (by first|omega|(simp<;>omega))) (eM [1,2,3,4,5,6,11,8]) ?_);rintro Y v9 k9 ⟨l13_,q4_0,q4_1,rfl,rfl⟩;refine mkG (.tuple #[]) [oB 75 (eK c od rd nd nr hd hr fl nx tg br tk ct slots (s5 12 l13_.length) (s1 11 ((fix++[(l12_.length:Int)]).length))),(iiF c),(inF od),(inF rd),(inF rg),(inF sl),none,none,none,none,none,(inF (fix++[(l12_.length:Int)])),(hhF l13_)] ⟨cvr 0,cvs 1 Y,cvs 2 Y,cvs 3 Y,cvs 4 Y,cvs 5 Y,inC_c 8,hhC_c 9,⟨⟩⟩ ?_;refine sd_run 7 (sd_see 39 (jU (mostO need hi ou)) (see_int (x:=(IntKind.u32.wrap (mostO need hi ou))) kr (wu32 rfl zo (by unfold mostO;omega))) (zC 40 25 #[pT 0 0,jI 12,jU (mostO need hi ou)] (@e_li_s c od rd rg sl l13_ (fix++[(l12_.length:Int)]) nd nr hd hr fl nx tg br tk ct slots 12 (mostO need hi ou) zo) (eM [1,2,3,4,5,6,13,12]) ?_));rintro Y v9 k9 ⟨l14_,q5_0,q5_1,rfl,rfl⟩;refine mkG (.tuple #[]) [oB 75 (eK c od rd nd nr hd hr fl nx tg br tk ct slots (s5 13 l14_.length) (s1 11 ((fix++[(l12_.length:Int)]).length))),(iiF c),(inF od),(inF rd),(inF rg),(inF sl),none,none,none,none,none,(inF (fix++[(l12_.length:Int)])),none,(hhF l14_)] ⟨cvr 0,cvs 1 Y,cvs 2 Y,cvs 3 Y,cvs 4 Y,cvs 5 Y,cvs 7 Y,hhC_c 8,⟨⟩⟩ ?_
 refine sd_run 6 (zC 43 65 #[pT 0 0,jI 12,jI 12,jI 12,jI bs] (@e_op_s c od rd rg sl l14_ (fix++[(l12_.length:Int)]) nd nr hd hr fl nx tg br tk ct slots 12 12 12 bs zo) (eM [1,2,3,4,5,6,14,12]) ?_);rintro Y v9 k9 ⟨l15_,q6_0,q6_1,rfl,rfl⟩;refine mkG (.tuple #[]) [oB 75 (eK c od rd nd nr hd hr fl nx tg br tk ct slots (s5 14 l15_.length) (s1 11 ((fix++[(l12_.length:Int)]).length))),(iiF c),(inF od),(inF rd),(inF rg),(inF sl),none,none,none,none,none,(inF (fix++[(l12_.length:Int)])),none,none,(hhF l15_)] ⟨cvr 0,cvs 1 Y,cvs 2 Y,cvs 3 Y,cvs 4 Y,cvs 5 Y,cvs 7 Y,hhC_c 8,⟨⟩⟩ ?_;refine sd_run 5 (zC 45 66 #[pT 0 0,jI 12] (@e_unless_s c od rd rg sl l15_ (fix++[(l12_.length:Int)]) nd nr hd hr fl nx tg br tk ct slots 12 zo (by first|omega|(simp<;>omega))) (eM [1,2,3,4,5,6,15,12]) ?_);rintro Y v9 k9 ⟨l16_,q7_0,q7_1,rfl,rfl⟩;refine mkG (.tuple #[]) [oB 75 (eK c od rd nd nr hd hr fl nx tg br tk ct slots (s5 16 l16_.length) (s1 15 (((fix++[(l12_.length:Int)])++[(l15_.length:Int)]).length))),(iiF c),(inF od),(inF rd),(inF rg),(inF sl),none,none,none,none,none,none,none,none,none,(inF ((fix++[(l12_.length:Int)])++[(l15_.length:Int)])),(hhF l16_)] ⟨cvr 0,cvs 1 Y,cvs 2 Y,cvs 3 Y,cvs 4 Y,cvs 5 Y,inC_c 8,hhC_c 9,⟨⟩⟩ ?_
 refine sd_run 7 (zC 49 65 #[pT 0 0,jI 4,jI bs,jI bs,jI 11] (@e_op_s c od rd rg sl l16_ ((fix++[(l12_.length:Int)])++[(l15_.length:Int)]) nd nr hd hr fl nx tg br tk ct slots 4 bs bs 11 zo) (eM [1,2,3,4,5,6,17,16]) ?_);rintro Y v9 k9 ⟨l17_,q8_0,q8_1,rfl,rfl⟩;refine mkG (.tuple #[]) [oB 75 (eK c od rd nd nr hd hr fl nx tg br tk ct slots (s5 17 l17_.length) (s1 15 (((fix++[(l12_.length:Int)])++[(l15_.length:Int)]).length))),(iiF c),(inF od),(inF rd),(inF rg),(inF sl),none,none,none,none,none,none,none,none,none,(inF ((fix++[(l12_.length:Int)])++[(l15_.length:Int)])),none,(hhF l17_)] ⟨cvr 0,cvs 1 Y,cvs 2 Y,cvs 3 Y,cvs 4 Y,cvs 5 Y,cvs 7 Y,hhC_c 8,⟨⟩⟩ ?_;refine sd_run 8 ?_;refine zY (.bool true) hX (eM [1,2,3,4,5,6,7,8,16,18]) ⟨(fix++[(l12_.length:Int)])++[(l15_.length:Int)],l17_,(by rw[q8_0,q7_0,q6_0,q5_0,q4_0,q3_0,q2_0,q1_0];simp[mkI,roomC,ldI,liI,opI]),(by simp<;>omega),rfl,rfl⟩
def headC(nd nr md mr E:Int):List II:=liI 15 0::(roomC 14 2 nd md E++roomC 13 3 nr mr E)
def midC(rg sl:List Int)(nd nr fl nx:Int)(c:List II)(od rd:List Int):List II:=bodyC rg sl nd nr c c.length++(stackC rg sl 14 4 2 od++(stackC rg sl 13 20 3 rd++(flC rg sl fl++[liI 9 nx])))
def tailC(rg sl:List Int)(tg ct:Int):List II:=tgC rg sl tg++(finC ct++[(19,0,0,0,1)])
def fullC(rg sl:List Int)(nd nr hd hr fl nx tg br tk ct:Int)(c:List II)(od rd:List Int)(E:Int):List II :=
 headC nd nr (mostO nd hd (od.length:Int)) (mostO nr hr (rd.length:Int)) E++(midC rg sl nd nr fl nx c od rd++(brC br tk ((17+(midC rg sl nd nr fl nx c od rd).length:Nat)+3)++tailC rg sl tg ct))
def exitI(n:Int):II:=(19,0,0,0,n)
def emitC(rg sl:List Int)(nd nr hd hr fl nx tg br tk ct:Int)(c:List II)(od rd:List Int):List II :=
 if mostO nd hd (od.length:Int)<nd then[liI 15 0,exitI 2]
 else if mostO nr hr (rd.length:Int)<nr then liI 15 0::(roomC 14 2 nd (mostO nd hd (od.length:Int)) 9++[exitI 2])
 else fullC rg sl nd nr hd hr fl nx tg br tk ct c od rd ((fullC rg sl nd nr hd hr fl nx tg br tk ct c od rd 0).length:Int)++[exitI 2]
def patch1(E:Int)(l:List II)(a:Int):List II:=match l[a.toNat]? with|some x=>l.set a.toNat (x.1,x.2.1,x.2.2.1,x.2.2.2.1,E)|none=>l
def patchL(E:Int)(f:List Int)(l:List II):List II:=f.foldl (patch1 E) l
theorem patch1_len(E:Int)(l:List II)(a:Int):(patch1 E l a).length=l.length:=by unfold patch1;split<;>simp
theorem patchL_len(E:Int):∀(f:List Int) (l:List II),(patchL E f l).length=l.length
 | [],_=>rfl
 |a::f,l=>by show(patchL E f (patch1 E l a)).length=_;rw[patchL_len E f,patch1_len]
theorem patchL_take{E:Int}{f:List Int}{l:List II}{k:Nat}{a:Int}(h:f[k]? = some a):patchL E (f.take (k+1)) l=patch1 E (patchL E (f.take k) l) a:=by
 unfold patchL;rw[eV,h,Option.toList_some,List.foldl_append];rfl
theorem full_of{rg sl:List Int}{c:List II}{od rd:List Int}{nd nr hd hr fl nx tg br tk ct:Int}{l1 l2 l3 l4 l5 l6:List II}(h1:l1=[(mkI 1 15 0 0 0)]++roomC 14 2 nd (mostO nd hd (od.length:Int)) 0)(h2:l2=l1++roomC 13 3 nr (mostO nr hr (rd.length:Int)) 0)(h3:l3=l2++bodyC rg sl nd nr c c.length)(h4:l4=l3++stackC rg sl 14 4 2 od)(h5:l5=l4++stackC rg sl 13 20 3 rd)
    (h6:l6=l5++(flC rg sl fl++([liI 9 nx]++(brC br tk (((l5.length+(flC rg sl fl).length+1:Nat):Int)+3)++(tgC rg sl tg++(finC ct++[(mkI 19 0 0 0 1)])))))):l6=fullC rg sl nd nr hd hr fl nx tg br tk ct c od rd 0:=by
 have hlen:(l5.length+(flC rg sl fl).length+1:Nat)=(17+(midC rg sl nd nr fl nx c od rd).length:Nat):=by
  rw[h5,h4,h3,h2,h1];simp[midC,roomC];omega
 rw[h6,hlen,h5,h4,h3,h2,h1];simp[fullC,headC,midC,tailC,et,mkI,liI]
theorem code_full{rg sl:List Int}{c:List II}{od rd:List Int}{nd nr hd hr fl nx tg br tk ct:Int}{l6:List II}(h:l6=fullC rg sl nd nr hd hr fl nx tg br tk ct c od rd 0)(g1:¬mostO nd hd (od.length:Int)<nd)(g2:¬mostO nr hr (rd.length:Int)<nr):patchL (l6.length:Int) [4,7,12,15] l6++[(mkI 19 0 0 0 2)]=emitC rg sl nd nr hd hr fl nx tg br tk ct c od rd:=by
 unfold emitC;rw[if_neg g1,if_neg g2,h]
 congr 1
theorem code_no1{rg sl:List Int}{c:List II}{od rd:List Int}{nd nr hd hr fl nx tg br tk ct:Int}(g1:mostO nd hd (od.length:Int)<nd)(E:Int):patchL E [] [(mkI 1 15 0 0 0)]++[(mkI 19 0 0 0 2)]=emitC rg sl nd nr hd hr fl nx tg br tk ct c od rd:=by
 unfold emitC;rw[if_pos g1];rfl
theorem code_no2{rg sl:List Int}{c:List II}{od rd:List Int}{nd nr hd hr fl nx tg br tk ct:Int}{l1:List II}(h:l1=[(mkI 1 15 0 0 0)]++roomC 14 2 nd (mostO nd hd (od.length:Int)) 0)(g1:¬mostO nd hd (od.length:Int)<nd)(g2:mostO nr hr (rd.length:Int)<nr):patchL (l1.length:Int) [4,7] l1++[(mkI 19 0 0 0 2)]=emitC rg sl nd nr hd hr fl nx tg br tk ct c od rd:=by
 unfold emitC;rw[if_neg g1,if_pos g2,h];rfl
def ebC(x:Int × Int × Int × Int × Int):List Value:=[.int .u8 x.1,.int .u8 x.2.1,.int .u8 x.2.2.1,.int .u8 x.2.2.2.1,.int .u8 (x.2.2.2.2 % 256),.int .u8 (x.2.2.2.2 / 256 % 256),.int .u8 (x.2.2.2.2 / 65536 % 256),.int .u8 (x.2.2.2.2 / 16777216 % 256)]
theorem ebC_len:∀x,(ebC x).length=8:=fun _=>rfl
theorem ebC_pl:∀x,(ebC x).all plain=true:=fun _=>rfl
theorem u8_in{x:Int}(h0:0≤x)(h1:x<256):IntKind.u8.wrap x=x:=by rw[IntKind.wrap_u8];omega
theorem u8_fd(x:Int){n:Int}(h:0≤n):IntKind.u8.wrap (Int.fdiv x n)=x / n % 256:=by rw[IntKind.wrap_u8,iV _ h]
abbrev ebCo(l:List (Int × Int × Int × Int × Int))(ro:Bool):Option Ob:=some ⟨tab ebC l,5,ro⟩
theorem ebC_b{f:Em}{h:Heap}{c e:Nat}{l:List (Int × Int × Int × Int × Int)}{ro:Bool}(h1:h.get c=some ⟨tab ebC l,e,ro⟩:=by kernel_rfl):Bk f h c ⟨tab ebC l,e,ro⟩:=bk_flat _ h1 (tab_plain ebC_pl _) rfl
theorem ebC_c{f:Em}{k k1 h:Heap}{c e:Nat}{l:List (Int × Int × Int × Int × Int)}{ro:Bool}(b:Nat)(h0:(b.blt k1.n&&isNm (f.ext k.n h.n) b c)=true:=by kernel_rfl)(h1:k1.get b=some ⟨tab ebC l,e,ro⟩:=by kernel_rfl):CovAt f k k1 h c ⟨tab ebC l,e,ro⟩:=cov_flat b h0 h1 (tab_plain ebC_pl _)
def hrI(x:II):Prop:=hrB x.1 x.2.1 x.2.2.1 x.2.2.2.1 x.2.2.2.2=true∧u32P x.2.2.2.2
def AllR(l:List II):Prop:=∀x∈l,hrI x
theorem hr_reg{op rd ra rb im:Int}(h:hrB op rd ra rb im=true):(0≤op∧op<20)∧(0≤rd∧rd<16)∧(0≤ra∧ra<16)∧(0≤rb∧rb<16):=by
 unfold hrB regB at h;simp only[ab,ap]at h;obtain⟨h1,h2,h3,h4⟩:=h;refine⟨?_,h2,h3,h4⟩
 repeat' split at h1
 all_goals first|omega|(cases h1)
theorem take_one{α:Type}{l:List α}{k:Nat}{x:α}(h:l[k]? = some x):l.take (k+1)=l.take k++[x]:=by rw[eV,h];rfl
noncomputable def f31b:Code:=Tryz.f31.body.getD .skip
theorem hjoin_s{l:List II}(hll:l.length<100000)(hr:AllR l):SC 31 #[(s5 0 l.length)] (hq [(hhF l)]) fun v h=>v=.tuple #[(s1 1 (8*l.length)),jI 0]∧h=hq [(hhF l),(ebCo l false)]:=by
 refine zS Tryz.f31 f31b 48 1 fun X hX=>(sd_run 20 (sd_loop 48 (cl (cl (cr (cl (cr (cr f31b)))))) [.blk 0,.next (cr (cr (cr f31b)))] kr kr kr (fun m9 s9=>∃(k:Nat),m9=l.length-k∧(k≤l.length)∧s9=⟨tmL [(4,(s1 1 (8*k))),(7,(s5 0 l.length)),(8,jN l.length),(9,jI (k:Int))],hq [(hhF l),(ebCo (l.take k) false)]⟩) (l.length-0) _ (emOf [some 0,none]) hX ⟨0,rfl,zo,rfl⟩ ⟨zs,zt⟩ kr ?_))
 rintro m9 s9 ⟨k,rfl,i1_0,rfl⟩ R1_ hR1_
 by_cases hlt:k<l.length
 ·obtain⟨a1,ha1⟩:=zR l k;have hx9:=hr _ (ah ha1);obtain⟨h91,h92,h93,h94⟩:=hr_reg hx9.1;have h95:=hx9.2.1;have h96:=hx9.2.2;refine zT 3 10 ((k:Int)<(l.length:Int)) (zX 10 11 (pT 0 (0+k*5)) k l.length (zM 0 12 81 0 81 false hhC_len ha1 (sd_run 8 (sd_ask 14 (.bool true) 74 #[(c5A a1.1 a1.2.1 a1.2.2.1 a1.2.2.2.1 a1.2.2.2.2)] kr kr kr (orc74 hx9.1) (sd_run 11 (sd_see 19 (.int .u8 a1.1) (see_int (x:=(IntKind.u8.wrap a1.1)) kr (by first|exact u8_in zo zo|exact u8_fd _ (by decide)|exact IntKind.wrap_u8 _)) (sd_run 3 (sd_see 22 (.int .u8 a1.2.1) (see_int (x:=(IntKind.u8.wrap a1.2.1)) kr (by first|exact u8_in zo zo|exact u8_fd _ (by decide)|exact IntKind.wrap_u8 _)) (sd_run 3 (sd_see 25 (.int .u8 a1.2.2.1) (see_int (x:=(IntKind.u8.wrap a1.2.2.1)) kr (by first|exact u8_in zo zo|exact u8_fd _ (by decide)|exact IntKind.wrap_u8 _)) (sd_run 3 (sd_see 28 (.int .u8 a1.2.2.2.1) (see_int (x:=(IntKind.u8.wrap a1.2.2.2.1)) kr (by first|exact u8_in zo zo|exact u8_fd _ (by decide)|exact IntKind.wrap_u8 _)) (sd_run 3 ?_)))))))))))))
  refine sd_see 31 (.int .u8 (a1.2.2.2.2 % 256)) (see_int (x:=(IntKind.u8.wrap a1.2.2.2.2)) kr (by first|exact u8_in zo zo|exact u8_fd _ (by decide)|exact IntKind.wrap_u8 _)) (sd_run 4 (sd_see 35 (.int .u8 (a1.2.2.2.2 / 256 % 256)) (see_int (x:=(IntKind.u8.wrap (Int.fdiv a1.2.2.2.2 256))) kr (by first|exact u8_in zo zo|exact u8_fd _ (by decide)|exact IntKind.wrap_u8 _)) (sd_run 4 (sd_see 39 (.int .u8 (a1.2.2.2.2 / 65536 % 256)) (see_int (x:=(IntKind.u8.wrap (Int.fdiv a1.2.2.2.2 65536))) kr (by first|exact u8_in zo zo|exact u8_fd _ (by decide)|exact IntKind.wrap_u8 _)) (sd_run 4 (sd_see 43 (.int .u8 (a1.2.2.2.2 / 16777216 % 256)) (see_int (x:=(IntKind.u8.wrap (Int.fdiv a1.2.2.2.2 16777216))) kr (by first|exact u8_in zo zo|exact u8_fd _ (by decide)|exact IntKind.wrap_u8 _)) (sd_run 1 ?_)))))));refine sd_grow 45 39 39 5 0 0 1 (8*k) 8 4 (sK 3 8 8) (tab ebC (l.take k)) [Value.int .u8 a1.1,.int .u8 a1.2.1,.int .u8 a1.2.2.1,.int .u8 a1.2.2.2.1,.int .u8 (a1.2.2.2.2 % 256),.int .u8 (a1.2.2.2.2 / 256 % 256),.int .u8 (a1.2.2.2.2 / 65536 % 256),.int .u8 (a1.2.2.2.2 / 16777216 % 256)] (tab ebC ((l.take k)++[a1])) kr kr kr kr kr ((tab_len ebC_len _).trans (by simp;omega)) kr kr (by decide) kr zo kr (tab_snoc (l.take k) a1) (sd_see 45 (s1 4 (8*(k+1))) (see_len (n:=((8*k)+8)) kr zo) (zI 6 46 .i64 ((k+1:Nat):Int) (IntKind.i64.wrap ((k:Int)+1)) (sd_run 2 ?_)))
  refine sd_inv R1_ kr (hR1_ _ (l.length-(k+1)) _ (emOf [some 0,some 4]) zo ⟨k+1,rfl,zo,rfl⟩ ⟨sub_of kr kr ⟨hhC_b,bk_flat (tab ebC ((l.take k)++[a1])) kr (tab_plain ebC_pl _) (congrArg (tab ebC) (take_one ha1).symm),⟨⟩⟩,zt⟩ kr)
 ·obtain rfl:k=l.length:=by omega
  refine zF 3 10 ((l.length:Int)<(l.length:Int)) (sd_run 17 ?_);refine sdY (.tuple #[(s1 1 (8*l.length)),jI 0]) hX [(hhF l),(ebCo l false)] i2_ ⟨hhC_b,bk_flat (tab ebC (l.take l.length)) kr (tab_plain ebC_pl _) (congrArg (tab ebC) ep),⟨⟩⟩ ⟨rfl,rfl⟩
theorem made_cases{nd nr o dd a b im k:Int}(h:madeB nd nr (o,dd,a,b,im) k=true):dd=k∧((o=0∧a=0∧b=0)∨(o=1∧a=0∧b=0∧im<nd)∨(o=2∧a=0∧b=0∧im<nr)∨(o=3∧(0≤a∧a<k)∧(0≤b∧b<k)∧16≤im∧im≤23)∨(o=4∧(0≤a∧a<k)∧(0≤b∧b<k)∧16≤im∧im≤23)∨(o=4∧(0≤a∧a<k)∧(0≤b∧b<k)∧im=25)):=by
 unfold madeB at h;simp only[ab,ap]at h;obtain⟨h1,h⟩:=h;refine⟨h1,?_⟩
 by_cases h0:o=0
 ·rw[if_pos h0]at h;simp at h;omega
 rw[if_neg h0]at h
 by_cases h2:o=1
 ·rw[if_pos h2]at h;simp at h;omega
 rw[if_neg h2]at h
 by_cases h3:o=2
 ·rw[if_pos h3]at h;simp at h;omega
 rw[if_neg h3]at h
 by_cases h4:o=3
 ·rw[if_pos h4]at h;simp[valB]at h;omega
 rw[if_neg h4]at h
 by_cases h5:o=4
 ·rw[if_pos h5]at h;simp[valB]at h;omega
 rw[if_neg h5]at h;cases h
noncomputable def f32b:Code:=Tryz.f32.body.getD .skip
theorem rr1_s{c:List II}{od rd:List Int}{nd nr hd hr fl nx tg br tk ct vs:Int}{o dd a b im:Int}(hm:madeB nd nr (o,dd,a,b,im) dd=true)(hi:0≤im∧im<4294967296)(hnd:0≤nd∧nd≤16)(hnr:0≤nr∧nr≤16):SCall Tryz.prog T15 32 #[(pgV (s5 0 c.length) nd nr hd hr (s1 1 od.length) (s1 2 rd.length) fl nx tg br tk ct vs),(c5A o dd a b im)] (hq [(iiF c),(inF od),(inF rd)]) fun v h=>v=.bool true∧h=hq [(iiF c),(inF od),(inF rd)]:=by
 obtain⟨_,hcs⟩:=made_cases hm;rcases hcs with hcs|hcs|hcs|hcs|hcs|hcs
 ·refine zS Tryz.f32 f32b 107 3 fun X hX=>(zT 12 8 ((a:Int)≥0) (sd_run 8 ?_))
  refine zB 0 16 (decide ((a:Int)<dd)) (fun hc1=>?_) fun hc1=>?_
  ·refine zT 3 19 ((b:Int)≥0) (zE 22 31 (o:Int) 0 (zE 9 34 (a:Int) 0 (sd_run 4 (zE 0 38 (b:Int) 0 (sd_run 7 ?_)))));refine zY (.bool true) hX i3_ ⟨rfl,rfl⟩
  ·refine zE 25 31 (o:Int) 0 (zE 9 34 (a:Int) 0 (zE 4 38 (b:Int) 0 (sd_run 7 ?_)));refine zY (.bool true) hX i3_ ⟨rfl,rfl⟩
 ·refine zS Tryz.f32 f32b 107 3 fun X hX=>(zT 12 8 ((a:Int)≥0) (sd_run 8 ?_))
  refine zB 0 16 (decide ((a:Int)<dd)) (fun hc2=>?_) fun hc2=>?_
  ·refine zT 3 19 ((b:Int)≥0) (zN 22 31 (o:Int) 0 (zE 7 41 (o:Int) 1 (sd_run 9 (zE 0 44 (a:Int) 0 (zE 4 48 (b:Int) 0 (zI 7 55 .u32 nd (IntKind.u32.wrap nd) (zT 1 56 ((im:Int)<nd) (sd_run 7 ?_))))))));refine zY (.bool true) hX i3_ ⟨rfl,rfl⟩
  ·refine zN 25 31 (o:Int) 0 (zE 7 41 (o:Int) 1 (zE 9 44 (a:Int) 0 (sd_run 4 (zE 0 48 (b:Int) 0 (zI 7 55 .u32 nd (IntKind.u32.wrap nd) (zT 1 56 ((im:Int)<nd) (sd_run 7 ?_)))))));refine zY (.bool true) hX i3_ ⟨rfl,rfl⟩
 ·refine zS Tryz.f32 f32b 107 3 fun X hX=>(zT 12 8 ((a:Int)≥0) (sd_run 8 ?_))
  refine zB 0 16 (decide ((a:Int)<dd)) (fun hc3=>?_) fun hc3=>?_
  ·refine zT 3 19 ((b:Int)≥0) (zN 22 31 (o:Int) 0 (zN 7 41 (o:Int) 1 (sd_run 7 (zE 0 59 (o:Int) 2 (zE 9 62 (a:Int) 0 (zE 4 66 (b:Int) 0 (zI 7 73 .u32 nr (IntKind.u32.wrap nr) (sd_run 1 (zT 0 74 ((im:Int)<nr) (sd_run 7 ?_))))))))));refine zY (.bool true) hX i3_ ⟨rfl,rfl⟩
  ·refine zN 25 31 (o:Int) 0 (zN 7 41 (o:Int) 1 (zE 7 59 (o:Int) 2 (sd_run 9 (zE 0 62 (a:Int) 0 (zE 4 66 (b:Int) 0 (zI 7 73 .u32 nr (IntKind.u32.wrap nr) (zT 1 74 ((im:Int)<nr) (sd_run 7 ?_))))))));refine zY (.bool true) hX i3_ ⟨rfl,rfl⟩
 ·refine zS Tryz.f32 f32b 107 3 fun X hX=>(zT 12 8 ((a:Int)≥0) (zT 6 14 ((a:Int)<dd) (zT 5 19 ((b:Int)≥0) (zT 7 26 ((b:Int)<dd) (zN 15 31 (o:Int) 0 (zN 7 41 (o:Int) 1 (zN 7 59 (o:Int) 2 (zE 7 77 (o:Int) 3 (zT 11 82 ((im:Int)≥16) (zT 5 87 ((im:Int)≤23) (sd_run 7 ?_)))))))))))
  refine zY (.bool true) hX i3_ ⟨rfl,rfl⟩
 ·refine zS Tryz.f32 f32b 107 3 fun X hX=>(zT 12 8 ((a:Int)≥0) (zT 6 14 ((a:Int)<dd) (zT 5 19 ((b:Int)≥0) (zT 7 26 ((b:Int)<dd) (zN 15 31 (o:Int) 0 (zN 7 41 (o:Int) 1 (zN 7 59 (o:Int) 2 (zN 7 77 (o:Int) 3 (zE 7 90 (o:Int) 4 (zT 11 95 ((im:Int)≥16) (zT 4 99 ((im:Int)≤23) (sd_run 13 ?_))))))))))))
  refine zY (.bool true) hX i3_ ⟨rfl,rfl⟩
 ·refine zS Tryz.f32 f32b 107 3 fun X hX=>(zT 12 8 ((a:Int)≥0) (zT 6 14 ((a:Int)<dd) (zT 5 19 ((b:Int)≥0) (zT 7 26 ((b:Int)<dd) (zN 15 31 (o:Int) 0 (zN 7 41 (o:Int) 1 (zN 7 59 (o:Int) 2 (zN 7 77 (o:Int) 3 (zE 7 90 (o:Int) 4 (zT 11 95 ((im:Int)≥16) (zF 4 99 ((im:Int)≤23) (zE 5 104 (im:Int) 25 (sd_run 8 ?_)))))))))))))
  refine zY (.bool true) hX i3_ ⟨rfl,rfl⟩
noncomputable def f11b:Code:=Tryz.f11.body.getD .skip
theorem made_dst{nd nr k:Int}{x:II}(h:madeB nd nr x k=true):x.2.1=k:=by
 unfold madeB at h;simp only[ab,ap]at h;exact h.1
set_option maxHeartbeats 2000000 in
theorem rright_s{c:List II}{od rd:List Int}{nd nr hd hr fl nx tg br tk ct:Int}(hR:RightP c od rd nd nr hd hr fl tg br ct (c.length:Int))(hol:od.length<100000)(hrl:rd.length<100000)(hi:∀x∈c,0≤x.2.2.2.2∧x.2.2.2.2<4294967296):SCall Tryz.prog T15 11 #[(pgV (s5 0 c.length) nd nr hd hr (s1 1 od.length) (s1 2 rd.length) fl nx tg br tk ct (c.length:Int))] (hq [(iiF c),(inF od),(inF rd)]) fun v h=>v=.bool true∧h=hq [(iiF c),(inF od),(inF rd)]:=by
 have q1:=hR.len;have q2:=hR.nd_;have q3:=hR.nr_;have q4:=hR.hd_;have q5:=hR.hr_;have q6:=hR.ct_;have q7:fl = -1∨(0≤fl∧fl<(c.length:Int)):=hR.fl_.imp id valB_iff.1;have q8:tg = -1∨(0≤tg∧tg<(c.length:Int)):=hR.tg_.imp id valB_iff.1;rcases hR.br_ with q9|q9
 ·refine zS Tryz.f11 f11b 145 3 fun X hX=>(zQ 21 16 (c.length:Int) (c.length:Int) (zF 3 19 ((c.length:Int)>64) (zF 5 24 ((ct:Int)<1) (zF 5 29 ((ct:Int)>8) (zQ 5 34 (br:Int) 0 (zF 61 66 ((nd:Int)<0) (zF 3 69 ((nd:Int)>16) (zF 35 66 ((nr:Int)<0) (zF 3 69 ((nr:Int)>16) (zF 35 66 ((hd:Int)<0) (zF 3 69 ((hd:Int)>16) (zF 35 66 ((hr:Int)<0) (zF 3 69 ((hr:Int)>16) (sd_run 32 (sd_loop 145 (cl (cl (cr (cl (cr (cr (cr (cr f11b)))))))) [.blk 2,.next (cr (cr (cr (cr (cr f11b)))))] kr kr kr (fun m9 s9=>∃(k:Nat),m9=c.length-k∧(k≤c.length)∧s9=⟨tmL [(1,pT 3 0),(3,jN c.length),(6,jI (k:Int))],hq [(iiF c),(inF od),(inF rd),oB 34 (pgL (s5 0 c.length) nd nr hd hr (s1 1 od.length) (s1 2 rd.length) fl nx tg br tk ct (c.length:Int))]⟩) (c.length-0) _ e4_ hX ⟨0,rfl,zo,rfl⟩ ⟨zs,zt⟩ kr ?_)))))))))))))))
  rintro m9 s9 ⟨k,rfl,i1_0,rfl⟩ R1_ hR1_
  by_cases hlt:k<c.length
  ·obtain⟨a1,ha1⟩:=zR c k;have ia1:=hi _ (ah ha1);have hdst:=made_dst (hR.code k a1 ha1);refine zT 6 74 ((k:Int)<(c.length:Int)) (zX 12 80 (pT 0 (0+k*5)) k c.length (zL 1 82 (jI a1.2.1) 3 0 1 62 false iiC_len ha1 (sd_run 2 (sd_see 84 (.bool false) (see_bool kr ((eb.2 hdst):((a1.2.1:Int) != (k:Int))=false)) (zX 5 90 (pT 0 (0+k*5)) k c.length (zM 0 91 62 0 62 false iiC_len ha1 (zG 92 32 #[(pgV (s5 0 c.length) nd nr hd hr (s1 1 od.length) (s1 2 rd.length) fl nx tg br tk ct (c.length:Int)),(c5A a1.1 a1.2.1 a1.2.2.1 a1.2.2.2.1 a1.2.2.2.2)] (@rr1_s c od rd nd nr hd hr fl nx tg br tk ct (c.length:Int) a1.1 a1.2.1 a1.2.2.1 a1.2.2.2.1 a1.2.2.2.2 (by have q:=hR.code k a1 ha1;rw[←hdst]at q;exact q) ia1 hR.nd_ hR.nr_) i3_ ?_)))))));rintro v9 k9 ⟨rfl,rfl⟩;refine⟨rfl,.bool true,kr,?_⟩;refine zI 11 76 .i64 ((k+1:Nat):Int) (IntKind.i64.wrap ((k:Int)+1)) (sd_run 2 ?_);refine sd_inv R1_ kr (hR1_ _ (c.length-(k+1)) _ e4_ zo ⟨k+1,rfl,zo,rfl⟩ ⟨zs,zt⟩ kr)
  ·obtain rfl:k=c.length:=by omega
   refine zF 6 74 ((c.length:Int)<(c.length:Int)) (sd_run 46 (sd_loop 145 (cl (cl (cr (cr (cl (cl (cr (cr (cl (cl (cr (cl (cr (cr (cr (cr (cr f11b))))))))))))))))) [.blk 6,.blk 5,.next (cr (cr (cr (cl (cl (cr (cl (cr (cr (cr (cr (cr f11b)))))))))))),.loop (cl (cl (cr (cl (cr (cr (cr (cr (cr f11b))))))))),.blk 4,.next (cr (cr (cr (cr (cr (cr f11b))))))] kr kr kr (fun m9 s9=>∃(j:Nat),m9=od.length-j∧(j≤od.length)∧s9=⟨tmL [(1,pT 3 0),(3,jN c.length),(8,(s1 1 od.length)),(9,jI (j:Int)),(99,sK 4 2 2),(100,jI 2),(101,jI 0)],hq [(iiF c),(inF od),(inF rd),oB 34 (pgL (s5 0 c.length) nd nr hd hr (s1 1 od.length) (s1 2 rd.length) fl nx tg br tk ct (c.length:Int)),oB 22 [(s1 1 od.length),(s1 2 rd.length)]]⟩) (od.length-0) _ e5_ hX ⟨0,rfl,zo,rfl⟩ ⟨zs,zt⟩ kr ?_));rintro m9 s9 ⟨j,rfl,i2_0,rfl⟩ R2_ hR2_
   by_cases hlt_od:j<od.length
   ·obtain⟨a2,ha2⟩:=zR od j;obtain⟨qa1,qa2⟩:=valB_iff.1 (hR.od_ j a2 ha2);refine zT 7 108 ((j:Int)<(od.length:Int)) (zX 11 113 (pT 1 (0+j*1)) j od.length (zL 0 114 (jI a2) 3 1 0 3 false inC_len ha2 (zF 1 115 ((a2:Int)<0) (sd_run 3 (zX 0 119 (pT 1 (0+j*1)) j od.length (zL 0 120 (jI a2) 3 1 0 3 false inC_len ha2 (zF 2 122 ((a2:Int)≥(c.length:Int)) (zI 10 110 .i64 ((j+1:Nat):Int) (IntKind.i64.wrap ((j:Int)+1)) (sd_run 2 ?_)))))))));refine sd_inv R2_ kr (hR2_ _ (od.length-(j+1)) _ e5_ zo ⟨j+1,rfl,zo,rfl⟩ ⟨zs,zt⟩ kr)
   ·obtain rfl:j=od.length:=by omega
    refine zF 7 108 ((od.length:Int)<(od.length:Int)) (sd_run 39 (sd_loop 145 (cl (cl (cr (cr (cl (cl (cr (cr (cl (cl (cr (cl (cr (cr (cr (cr (cr f11b))))))))))))))))) [.blk 6,.blk 5,.next (cr (cr (cr (cl (cl (cr (cl (cr (cr (cr (cr (cr f11b)))))))))))),.loop (cl (cl (cr (cl (cr (cr (cr (cr (cr f11b))))))))),.blk 4,.next (cr (cr (cr (cr (cr (cr f11b))))))] kr kr kr (fun m9 s9=>∃(j:Nat),m9=rd.length-j∧(j≤rd.length)∧s9=⟨tmL [(1,pT 3 0),(3,jN c.length),(8,(s1 2 rd.length)),(9,jI (j:Int)),(99,sK 4 2 2),(100,jI 2),(101,jI 1)],hq [(iiF c),(inF od),(inF rd),oB 34 (pgL (s5 0 c.length) nd nr hd hr (s1 1 od.length) (s1 2 rd.length) fl nx tg br tk ct (c.length:Int)),oB 22 [(s1 1 od.length),(s1 2 rd.length)]]⟩) (rd.length-0) _ e5_ hX ⟨0,rfl,zo,rfl⟩ ⟨zs,zt⟩ kr ?_));rintro m9 s9 ⟨j,rfl,i3_0,rfl⟩ R3_ hR3_
    by_cases hlt_rd:j<rd.length
    ·obtain⟨a3,ha3⟩:=zR rd j;obtain⟨qa1,qa2⟩:=valB_iff.1 (hR.rd_ j a3 ha3);refine zT 7 108 ((j:Int)<(rd.length:Int)) (zX 11 113 (pT 2 (0+j*1)) j rd.length (zL 0 114 (jI a3) 3 2 0 3 false inC_len ha3 (zF 1 115 ((a3:Int)<0) (sd_run 3 (zX 0 119 (pT 2 (0+j*1)) j rd.length (zL 0 120 (jI a3) 3 2 0 3 false inC_len ha3 (zF 2 122 ((a3:Int)≥(c.length:Int)) (zI 10 110 .i64 ((j+1:Nat):Int) (IntKind.i64.wrap ((j:Int)+1)) (sd_run 2 ?_)))))))));refine sd_inv R3_ kr (hR3_ _ (rd.length-(j+1)) _ e5_ zo ⟨j+1,rfl,zo,rfl⟩ ⟨zs,zt⟩ kr)
    ·obtain rfl:j=rd.length:=by omega
     refine zF 7 108 ((rd.length:Int)<(rd.length:Int)) (zT 32 127 ((fl:Int)≥(-1)) (zT 5 132 ((fl:Int)<(c.length:Int)) (zT 5 137 ((tg:Int)≥(-1)) (zT 6 143 ((tg:Int)<(c.length:Int)) (sd_run 5 ?_)))));refine zY (.bool true) hX i3_ ⟨rfl,rfl⟩
 ·refine zS Tryz.f11 f11b 145 3 fun X hX=>(zQ 21 16 (c.length:Int) (c.length:Int) (zF 3 19 ((c.length:Int)>64) (zF 5 24 ((ct:Int)<1) (zF 5 29 ((ct:Int)>8) (zP 5 34 (br:Int) 0 (zF 4 38 ((br:Int)<33) (zF 4 42 ((br:Int)>37) (zQ 5 47 (tg:Int) (-1) (zF 48 66 ((nd:Int)<0) (zF 3 69 ((nd:Int)>16) (zF 35 66 ((nr:Int)<0) (zF 3 69 ((nr:Int)>16) (zF 35 66 ((hd:Int)<0) (zF 3 69 ((hd:Int)>16) (zF 35 66 ((hr:Int)<0) (zF 3 69 ((hr:Int)>16) (sd_run 32 (sd_loop 145 (cl (cl (cr (cl (cr (cr (cr (cr f11b)))))))) [.blk 2,.next (cr (cr (cr (cr (cr f11b)))))] kr kr kr (fun m9 s9=>∃(k:Nat),m9=c.length-k∧(k≤c.length)∧s9=⟨tmL [(1,pT 3 0),(3,jN c.length),(6,jI (k:Int))],hq [(iiF c),(inF od),(inF rd),oB 34 (pgL (s5 0 c.length) nd nr hd hr (s1 1 od.length) (s1 2 rd.length) fl nx tg br tk ct (c.length:Int))]⟩) (c.length-0) _ e4_ hX ⟨0,rfl,zo,rfl⟩ ⟨zs,zt⟩ kr ?_))))))))))))))))))
  rintro m9 s9 ⟨k,rfl,i4_0,rfl⟩ R4_ hR4_
  by_cases hlt:k<c.length
  ·obtain⟨a4,ha4⟩:=zR c k;have ia4:=hi _ (ah ha4);have hdst:=made_dst (hR.code k a4 ha4);refine zT 6 74 ((k:Int)<(c.length:Int)) (zX 12 80 (pT 0 (0+k*5)) k c.length (zL 1 82 (jI a4.2.1) 3 0 1 62 false iiC_len ha4 (sd_run 2 (sd_see 84 (.bool false) (see_bool kr ((eb.2 hdst):((a4.2.1:Int) != (k:Int))=false)) (zX 5 90 (pT 0 (0+k*5)) k c.length (zM 0 91 62 0 62 false iiC_len ha4 (zG 92 32 #[(pgV (s5 0 c.length) nd nr hd hr (s1 1 od.length) (s1 2 rd.length) fl nx tg br tk ct (c.length:Int)),(c5A a4.1 a4.2.1 a4.2.2.1 a4.2.2.2.1 a4.2.2.2.2)] (@rr1_s c od rd nd nr hd hr fl nx tg br tk ct (c.length:Int) a4.1 a4.2.1 a4.2.2.1 a4.2.2.2.1 a4.2.2.2.2 (by have q:=hR.code k a4 ha4;rw[←hdst]at q;exact q) ia4 hR.nd_ hR.nr_) i3_ ?_)))))));rintro v9 k9 ⟨rfl,rfl⟩;refine⟨rfl,.bool true,kr,?_⟩;refine zI 11 76 .i64 ((k+1:Nat):Int) (IntKind.i64.wrap ((k:Int)+1)) (sd_run 2 ?_);refine sd_inv R4_ kr (hR4_ _ (c.length-(k+1)) _ e4_ zo ⟨k+1,rfl,zo,rfl⟩ ⟨zs,zt⟩ kr)
  ·obtain rfl:k=c.length:=by omega
   refine zF 6 74 ((c.length:Int)<(c.length:Int)) (sd_run 46 (sd_loop 145 (cl (cl (cr (cr (cl (cl (cr (cr (cl (cl (cr (cl (cr (cr (cr (cr (cr f11b))))))))))))))))) [.blk 6,.blk 5,.next (cr (cr (cr (cl (cl (cr (cl (cr (cr (cr (cr (cr f11b)))))))))))),.loop (cl (cl (cr (cl (cr (cr (cr (cr (cr f11b))))))))),.blk 4,.next (cr (cr (cr (cr (cr (cr f11b))))))] kr kr kr (fun m9 s9=>∃(j:Nat),m9=od.length-j∧(j≤od.length)∧s9=⟨tmL [(1,pT 3 0),(3,jN c.length),(8,(s1 1 od.length)),(9,jI (j:Int)),(99,sK 4 2 2),(100,jI 2),(101,jI 0)],hq [(iiF c),(inF od),(inF rd),oB 34 (pgL (s5 0 c.length) nd nr hd hr (s1 1 od.length) (s1 2 rd.length) fl nx tg br tk ct (c.length:Int)),oB 22 [(s1 1 od.length),(s1 2 rd.length)]]⟩) (od.length-0) _ e5_ hX ⟨0,rfl,zo,rfl⟩ ⟨zs,zt⟩ kr ?_));rintro m9 s9 ⟨j,rfl,i5_0,rfl⟩ R5_ hR5_
   by_cases hlt_od:j<od.length
   ·obtain⟨a5,ha5⟩:=zR od j;obtain⟨qa1,qa2⟩:=valB_iff.1 (hR.od_ j a5 ha5);refine zT 7 108 ((j:Int)<(od.length:Int)) (zX 11 113 (pT 1 (0+j*1)) j od.length (zL 0 114 (jI a5) 3 1 0 3 false inC_len ha5 (zF 1 115 ((a5:Int)<0) (sd_run 3 (zX 0 119 (pT 1 (0+j*1)) j od.length (zL 0 120 (jI a5) 3 1 0 3 false inC_len ha5 (zF 2 122 ((a5:Int)≥(c.length:Int)) (zI 10 110 .i64 ((j+1:Nat):Int) (IntKind.i64.wrap ((j:Int)+1)) (sd_run 2 ?_)))))))));refine sd_inv R5_ kr (hR5_ _ (od.length-(j+1)) _ e5_ zo ⟨j+1,rfl,zo,rfl⟩ ⟨zs,zt⟩ kr)
   ·obtain rfl:j=od.length:=by omega
    refine zF 7 108 ((od.length:Int)<(od.length:Int)) (sd_run 39 (sd_loop 145 (cl (cl (cr (cr (cl (cl (cr (cr (cl (cl (cr (cl (cr (cr (cr (cr (cr f11b))))))))))))))))) [.blk 6,.blk 5,.next (cr (cr (cr (cl (cl (cr (cl (cr (cr (cr (cr (cr f11b)))))))))))),.loop (cl (cl (cr (cl (cr (cr (cr (cr (cr f11b))))))))),.blk 4,.next (cr (cr (cr (cr (cr (cr f11b))))))] kr kr kr (fun m9 s9=>∃(j:Nat),m9=rd.length-j∧(j≤rd.length)∧s9=⟨tmL [(1,pT 3 0),(3,jN c.length),(8,(s1 2 rd.length)),(9,jI (j:Int)),(99,sK 4 2 2),(100,jI 2),(101,jI 1)],hq [(iiF c),(inF od),(inF rd),oB 34 (pgL (s5 0 c.length) nd nr hd hr (s1 1 od.length) (s1 2 rd.length) fl nx tg br tk ct (c.length:Int)),oB 22 [(s1 1 od.length),(s1 2 rd.length)]]⟩) (rd.length-0) _ e5_ hX ⟨0,rfl,zo,rfl⟩ ⟨zs,zt⟩ kr ?_));rintro m9 s9 ⟨j,rfl,i6_0,rfl⟩ R6_ hR6_
    by_cases hlt_rd:j<rd.length
    ·obtain⟨a6,ha6⟩:=zR rd j;obtain⟨qa1,qa2⟩:=valB_iff.1 (hR.rd_ j a6 ha6);refine zT 7 108 ((j:Int)<(rd.length:Int)) (zX 11 113 (pT 2 (0+j*1)) j rd.length (zL 0 114 (jI a6) 3 2 0 3 false inC_len ha6 (zF 1 115 ((a6:Int)<0) (sd_run 3 (zX 0 119 (pT 2 (0+j*1)) j rd.length (zL 0 120 (jI a6) 3 2 0 3 false inC_len ha6 (zF 2 122 ((a6:Int)≥(c.length:Int)) (zI 10 110 .i64 ((j+1:Nat):Int) (IntKind.i64.wrap ((j:Int)+1)) (sd_run 2 ?_)))))))));refine sd_inv R6_ kr (hR6_ _ (rd.length-(j+1)) _ e5_ zo ⟨j+1,rfl,zo,rfl⟩ ⟨zs,zt⟩ kr)
    ·obtain rfl:j=rd.length:=by omega
     refine zF 7 108 ((rd.length:Int)<(rd.length:Int)) (zT 32 127 ((fl:Int)≥(-1)) (zT 5 132 ((fl:Int)<(c.length:Int)) (zT 5 137 ((tg:Int)≥(-1)) (zT 6 143 ((tg:Int)<(c.length:Int)) (sd_run 5 ?_)))));refine zY (.bool true) hX i3_ ⟨rfl,rfl⟩
def lookL:List (Int × Int)→Int→Int
 | [],_=>0
 |a::l,k=>if k=a.1 then a.2 else lookL l k
def updL:List (Int × Int)→Int→Int→List (Int × Int)
 | [],k,v=>[(k,v)]
 |a::l,k,v=>if k=a.1 then(k,v)::l else a::updL l k v
theorem look_same:∀(l:List (Int × Int)) (k v:Int),lookL (updL l k v) k=v
 | [],k,v=>by simp[updL,lookL]
 |a::l,k,v=>by
  unfold updL;split
  ·simp[lookL]
  ·rename_i q;unfold lookL;rw[if_neg q];exact look_same l k v
theorem look_other:∀(l:List (Int × Int)) {j k:Int} (v:Int),j≠k→lookL (updL l k v) j=lookL l j
 | [],j,k,v,h=>by simp[updL,lookL,h]
 |a::l,j,k,v,h=>by
  unfold updL;split
  ·rename_i q;subst q;unfold lookL;rw[if_neg h,if_neg h]
  ·unfold lookL;rw[look_other l v h]
theorem look_mem:∀(l:List (Int × Int)) (k:Int) (p:Int→Prop),p 0→(∀a∈l,p a.2)→p (lookL l k)
 | [],_,p,h0,_=>h0
 |a::l,k,p,h0,h=>by
  unfold lookL;split
  ·exact h a (by simp)
  ·exact look_mem l k p h0 fun b hb=>h b (by simp[hb])
theorem upd_mem:∀{l:List (Int × Int)} {k v:Int} {a:Int × Int},a∈updL l k v→a=(k,v)∨a∈l
 | [],k,v,a,h=>by simp[updL]at h;exact .inl h
 |b::l,k,v,a,h=>by
  unfold updL at h;split at h
  ·rcases eG.1 h with q|q
   ·exact .inl q
   ·exact .inr (by simp[q])
  ·rcases eG.1 h with q|q
   ·exact .inr (by simp[q])
   ·exact(upd_mem q).imp id fun q=>by simp[q]
def meetB(a b:IV):Bool:=(decide (a.2.1<b.2.2)&&decide (b.2.1<a.2.2)) || decide (a.2.1=b.2.1)
structure Ivs(l:List IV):Prop where
 at_:∀(i:Nat) (x:IV),l[i]? = some x→x.2.1=i∧(i:Int)≤x.2.2∧x.2.2≤(l.length:Int)
def meetN(l:List IV)(i n:Nat):Bool:=match l[i]?,l[n]? with|some a,some b=>meetB a b|_,_=>false
def takenB(l:List IV)(pl:List Int)(n:Nat)(k:Int)(j:Nat):Bool:=(List.range j).any fun i=>(pl[i]? == some k)&&meetN l i n
theorem takenB_succ(l:List IV)(pl:List Int)(n:Nat)(k:Int)(j:Nat):takenB l pl n k (j+1)=(takenB l pl n k j || ((pl[j]? == some k)&&meetN l j n)):=by
 unfold takenB;rw[List.range_succ,List.any_append];simp
theorem takenB_iff{l:List IV}{pl:List Int}{n:Nat}{k:Int}{j:Nat}:takenB l pl n k j=true↔∃i,i<j∧pl[i]? = some k∧meetN l i n=true:=by
 unfold takenB;rw[aZ];constructor
 ·rintro⟨i,h1,h2⟩;simp at h1 h2;exact⟨i,h1,h2.1,h2.2⟩
 ·rintro⟨i,h1,h2,h3⟩;exact⟨i,by simpa using h1,by simp[h2,h3]⟩
theorem all_in:∀(K:Nat) (l:List Int),(∀k,k<K→(k:Int)∈l)→K≤l.length
 |0,l,_=>iu _
 |K+1,l,h=>by
  have h1:=h K (by omega);have h2:=all_in K (l.erase (K:Int)) fun k hk=>(List.mem_erase_of_ne (by omega)).2 (h k (by omega))
  rw[List.length_erase_of_mem h1]at h2;have:=List.length_pos_of_mem h1;omega
theorem taken_le{l:List IV}{pl:List Int}{n K:Nat}(h:∀k,k<K→takenB l pl n (k:Int) pl.length=true):K≤pl.length :=
 all_in K pl fun k hk=>by
  obtain⟨i,_,h2,_⟩:=takenB_iff.1 (h k hk);exact ah h2
structure FreeP(l:List IV)(pl:List Int)(n k:Nat):Prop where
 no:takenB l pl n (k:Int) pl.length=false
 all:∀j,j<k→takenB l pl n (j:Int) pl.length=true
theorem FreeP.le{l:List IV}{pl:List Int}{n k:Nat}(h:FreeP l pl n k):k≤pl.length:=taken_le h.all
theorem FreeP.apart{l:List IV}{pl:List Int}{n k:Nat}(h:FreeP l pl n k){i:Nat}(hi:pl[i]? = some (k:Int)):meetN l i n=false:=by
 have hl:=(ae.1 hi).1;cases hm:meetN l i n with
 |false=>rfl
 |true=>have:=takenB_iff.2 ⟨i,hl,hi,hm⟩;rw[h.no]at this;cases this
theorem meet_comm(a b:IV):meetB a b=meetB b a:=by unfold meetB;rw[ag];simp;omega
theorem meetN_comm(l:List IV)(i n:Nat):meetN l i n=meetN l n i:=by
 unfold meetN;cases l[i]? <;> cases l[n]? <;> simp only
 exact meet_comm _ _
theorem meet_both{l:List IV}(hl:Ivs l){i k n:Nat}(hi:i<n)(hk:k<n)(h1:meetN l i n=true)(h2:meetN l k n=true):meetN l i k=true:=by
 unfold meetN at *;cases e1:l[i]? with
 |none=>simp[e1]at h1
 |some a=>cases e2:l[k]? with
  |none=>simp[e2]at h2
  |some b=>cases e3:l[n]? with
   |none=>simp[e1,e3]at h1
   |some c =>
    obtain⟨a1,a2,_⟩:=hl.at_ i a e1;obtain⟨b1,b2,_⟩:=hl.at_ k b e2;obtain⟨c1,c2,_⟩:=hl.at_ n c e3;simp only[e1,e2,e3,meetB,eN,ab,ap]at h1 h2 ⊢;omega
structure PlanN(l:List IV)(regs:Nat)(n:Nat)(rg sl:List Int)(slots:Int):Prop where
 lr:rg.length=l.length
 ls:sl.length=l.length
 s0:0≤slots∧slots≤n
 late:∀i,n≤i→i<l.length→rg[i]? = some (-1)∧sl[i]? = some (-1)
 place:∀i r s,i<n→rg[i]? = some r→sl[i]? = some s→(0≤r∧r<(regs:Int)∧s = -1)∨(r = -1∧0≤s∧s<slots)
 apR:∀i k r,i<k→k<n→rg[i]? = some r→rg[k]? = some r→r ≠ -1→meetN l i k=false
 apS:∀i k s,i<k→k<n→sl[i]? = some s→sl[k]? = some s→s ≠ -1→meetN l i k=false
theorem rep_at(n i:Nat)(x:Int)(h:i<n):(List.replicate n x)[i]? = some x:=by rw[List.getElem?_replicate,if_pos h]
theorem plan0(l:List IV)(regs:Nat):PlanN l regs 0 (List.replicate l.length (-1)) (List.replicate l.length (-1)) 0 where
 lr:=by simp
 ls:=by simp
 s0:=⟨aK _,aK _⟩
 late:=fun i _ hi=>⟨rep_at _ _ _ hi,rep_at _ _ _ hi⟩
 place:=fun i r s h=>by omega
 apR:=fun i k r _ h=>by omega
 apS:=fun i k r _ h=>by omega
section
variable {l:List IV}{regs n:Nat}{rg sl:List Int}{slots:Int}
theorem PlanN.reg(h:PlanN l regs n rg sl slots)(hn:n<l.length){r:Nat}(hf:FreeP l rg n r)(hr:r<regs):PlanN l regs (n+1) (rg.set n (r:Int)) sl slots where
 lr:=by simp[h.lr]
 ls:=h.ls
 s0:=⟨h.s0.1,by have:=h.s0.2;omega⟩
 late:=fun i hi hl=>by
  obtain⟨a,b⟩:=h.late i (by omega) hl;exact⟨by rw[az (by omega)];exact a,b⟩
 place:=fun i r' s hi h1 h2=>by
  by_cases hin:i=n
  ·subst hin;rw[aM (by rw[h.lr];exact hn)]at h1;cases h1;have:=(h.late i (ak _) hn).2;rw[this]at h2;cases h2;exact .inl ⟨by omega,by omega,rfl⟩
  ·rw[az (by omega)]at h1;exact h.place i r' s (by omega) h1 h2
 apR:=fun i k r' hik hk h1 h2 hne=>by
  by_cases hkn:k=n
  ·subst hkn;rw[aM (by rw[h.lr];exact hn)]at h2;cases h2;rw[az (by omega)]at h1;exact hf.apart h1
  ·rw[az (by omega)]at h1 h2;exact h.apR i k r' hik (by omega) h1 h2 hne
 apS:=fun i k s hik hk h1 h2 hne=>by
  by_cases hkn:k=n
  ·subst hkn;have:=(h.late k (ak _) hn).2;rw[this]at h2;cases h2;exact absurd rfl hne
  ·exact h.apS i k s hik (by omega) h1 h2 hne
theorem PlanN.spill(h:PlanN l regs n rg sl slots)(hn:n<l.length){s:Nat}(hf:FreeP l sl n s):PlanN l regs (n+1) (rg.set n (-1)) (sl.set n (s:Int)) (max slots ((s:Int)+1)) where
 lr:=by simp[h.lr]
 ls:=by simp[h.ls]
 s0:=⟨by have:=h.s0.1;omega,by
  have h1:=h.s0.2
  have:s≤n:=by
   -- all that is taken is below n
   refine aA (all_in s (sl.take n) fun k hk=>?_) (by simp;omega);obtain⟨i,_,h2,_⟩:=takenB_iff.1 (hf.all k hk)
   by_cases hi:i<n
   ·exact ah (i:=i) (by rw[aW,if_pos hi];exact h2)
   ·have hil:=(ae.1 h2).1;rw[h.ls]at hil;have:=(h.late i (by omega) hil).2;rw[h2]at this;cases this
  omega⟩
 late:=fun i hi hl=>by
  obtain⟨a,b⟩:=h.late i (by omega) hl;exact⟨by rw[az (by omega)];exact a,by rw[az (by omega)];exact b⟩
 place:=fun i r' s' hi h1 h2=>by
  by_cases hin:i=n
  ·subst hin;rw[aM (by rw[h.lr];exact hn)]at h1;rw[aM (by rw[h.ls];exact hn)]at h2;cases h1;cases h2;exact .inr ⟨rfl,by omega,by omega⟩
  ·rw[az (by omega)]at h1 h2;rcases h.place i r' s' (by omega) h1 h2 with q|⟨q1,q2,q3⟩
   ·exact .inl q
   ·exact .inr ⟨q1,q2,by omega⟩
 apR:=fun i k r' hik hk h1 h2 hne=>by
  by_cases hkn:k=n
  ·subst hkn;rw[aM (by rw[h.lr];exact hn)]at h2;cases h2;exact absurd rfl hne
  ·rw[az (by omega)]at h1 h2;exact h.apR i k r' hik (by omega) h1 h2 hne
 apS:=fun i k s' hik hk h1 h2 hne=>by
  by_cases hkn:k=n
  ·subst hkn;rw[aM (by rw[h.ls];exact hn)]at h2;cases h2;rw[az (by omega)]at h1;exact hf.apart h1
  ·rw[az (by omega)]at h1 h2;exact h.apS i k s' hik (by omega) h1 h2 hne
theorem PlanN.swap(h:PlanN l regs n rg sl slots)(hl:Ivs l)(hn:n<l.length){k s:Nat}{r:Int}(hk:k<n)(hr:rg[k]? = some r)(hr1:r ≠ -1)(hm:meetN l k n=true)(hf:FreeP l sl k s):
    PlanN l regs (n+1) ((rg.set n r).set k (-1)) (sl.set k (s:Int)) (max slots ((s:Int)+1)) where
 lr:=by simp[h.lr]
 ls:=by simp[h.ls]
 s0:=⟨by have:=h.s0.1;omega,by
  have h1:=h.s0.2
  have:s≤n:=by
   refine aA (all_in s (sl.take n) fun k' hk'=>?_) (by simp;omega);obtain⟨i,_,h2,_⟩:=takenB_iff.1 (hf.all k' hk')
   by_cases hi:i<n
   ·exact ah (i:=i) (by rw[aW,if_pos hi];exact h2)
   ·have hil:=(ae.1 h2).1;rw[h.ls]at hil;have:=(h.late i (by omega) hil).2;rw[h2]at this;cases this
  omega⟩
 late:=fun i hi hl'=>by
  obtain⟨a,b⟩:=h.late i (by omega) hl';exact⟨by rw[az (by omega),az (by omega)];exact a,by rw[az (by omega)];exact b⟩
 place:=fun i r' s' hi h1 h2=>by
  have hks:∃s0,sl[k]? = some s0:=⟨_,ac (by rw[h.ls];omega)⟩;obtain⟨s0,hs0⟩:=hks;have hpk:=h.place k r s0 hk hr hs0
  by_cases hik:i=k
  ·subst hik;rw[aM (by simp[h.lr];omega)]at h1;rw[aM (by rw[h.ls];omega)]at h2;cases h1;cases h2;exact .inr ⟨rfl,by omega,by omega⟩
  ·rw[az (by omega)]at h1 h2
   by_cases hin:i=n
   ·subst hin;rw[aM (by rw[h.lr];exact hn)]at h1;cases h1;have:=(h.late i (ak _) hn).2;rw[this]at h2;cases h2;rcases hpk with⟨q1,q2,_⟩|⟨q1,_⟩
    ·exact .inl ⟨q1,q2,rfl⟩
    ·exact absurd q1 hr1
   ·rw[az (by omega)]at h1;rcases h.place i r' s' (by omega) h1 h2 with q|⟨q1,q2,q3⟩
    ·exact .inl q
    ·exact .inr ⟨q1,q2,by omega⟩
 apR:=fun i j r' hij hj h1 h2 hne=>by
  by_cases hik:i=k
  ·subst hik;rw[aM (by simp[h.lr];omega)]at h1;cases h1;exact absurd rfl hne
  by_cases hjk:j=k
  ·subst hjk;rw[aM (by simp[h.lr];omega)]at h2;cases h2;exact absurd rfl hne
  rw[az (by omega)]at h1 h2
  by_cases hjn:j=n
  ·subst hjn;rw[aM (by rw[h.lr];exact hn)]at h2;cases h2;rw[az (by omega)]at h1;cases hmi:meetN l i j with
   |false=>rfl
   |true =>
    have hb:=meet_both hl (i:=i) (k:=k) hij hk hmi hm;rcases Nat.lt_or_gt_of_ne hik with q|q
    ·rw[h.apR i k r q hk h1 hr hr1]at hb;cases hb
    ·rw[meetN_comm,h.apR k i r q (by omega) hr h1 hr1]at hb;cases hb
  ·rw[az (by omega)]at h1 h2;exact h.apR i j r' hij (by omega) h1 h2 hne
 apS:=fun i j s' hij hj h1 h2 hne=>by
  by_cases hjn:j=n
  ·subst hjn;rw[az (by omega)]at h2;have:=(h.late j (ak _) hn).2;rw[this]at h2;cases h2;exact absurd rfl hne
  by_cases hik:i=k
  ·subst hik;rw[aM (by rw[h.ls];omega)]at h1;cases h1;rw[az (by omega)]at h2;rw[meetN_comm];exact hf.apart h2
  by_cases hjk:j=k
  ·subst hjk;rw[aM (by rw[h.ls];omega)]at h2;cases h2;rw[az (by omega)]at h1;exact hf.apart h1
  rw[az (by omega)]at h1 h2;exact h.apS i j s' hij (by omega) h1 h2 hne
end
def liveAt(x:IV)(p:Int):Bool:=(decide (x.2.1≤p)&&decide (x.2.2>p)) || (decide (x.2.1=p)&&decide (x.2.2=p))
def cntAt(l:List IV)(p:Int):Nat:=(l.filter fun x=>liveAt x p).length
theorem press_free{l:List IV}{regs n:Nat}{rg sl:List Int}{slots:Int}(hl:Ivs l)(h:PlanN l regs n rg sl slots)(hn:n<l.length){r:Nat}(hf:FreeP l rg n r)(hp:cntAt l (n:Int)≤regs):r<regs:=by
 rcases aY r regs with q|q
 ·exact q
 exfalso
 -- those that hold a register and meet n
 have hx:l[n]? = some l[n]:=ac hn;obtain⟨e1,e2,_⟩:=hl.at_ n _ hx
 have h1:regs≤(((l.take n).filter fun x=>liveAt x (n:Int)).map fun x=>(rg[x.2.1.toNat]?).getD 0).length:=all_in regs _ fun k hk=>by
  obtain⟨i,hi,h2,h3⟩:=takenB_iff.1 (hf.all k (by omega))
  have hin:i<n:=by
   rcases aY i n with q|q
   ·exact q
   ·rw[h.lr]at hi;have:=(h.late i q hi).1;rw[h2]at this;cases this
  have hil:i<l.length:=by omega
  have hxi:l[i]? = some l[i]:=ac hil;obtain⟨a1,a2,_⟩:=hl.at_ i _ hxi;refine iH.2 ⟨l[i],List.mem_filter.2 ⟨ah (i:=i) (by rw[aW,if_pos hin];exact hxi),?_⟩,?_⟩
  ·unfold meetN at h3;rw[hxi,hx]at h3;simp only[meetB,eN,ab,ap]at h3;simp only[liveAt,eN,ab,ap];omega
  ·rw[a1,show(i:Int).toNat=i by omega,h2];rfl
 rw[List.length_map]at h1
 have h2:cntAt l (n:Int)=((l.take n).filter fun x=>liveAt x (n:Int)).length+((l.drop n).filter fun x=>liveAt x (n:Int)).length:=by
  unfold cntAt
  conv=>lhs;rw[←eg n l]
  rw[List.filter_append,ar]
 have h3:1≤((l.drop n).filter fun x=>liveAt x (n:Int)).length:=by
  refine List.length_pos_of_mem (a:=l[n]) (List.mem_filter.2 ⟨ah (i:=0) (by rw[ew];exact hx),?_⟩);simp only[liveAt,eN,ab,ap];omega
 omega
def rdP(rg sl:List Int)(hm km:List (Int × Int))(i:Nat):Int:=if rg.getD i 0 = -1 then lookL km (sl.getD i 0)else lookL hm (rg.getD i 0)
def rdV(rg sl:List Int)(hm km:List (Int × Int)):List Int:=(List.range rg.length).map (rdP rg sl hm km)
@[simp] theorem rdV_len(rg sl:List Int)(hm km:List (Int × Int)):(rdV rg sl hm km).length=rg.length:=by simp[rdV]
theorem rdV_at{rg sl:List Int}{hm km:List (Int × Int)}{i:Nat}(h:i<rg.length):(rdV rg sl hm km).getD i 0=rdP rg sl hm km i:=by
 rw[aj];simp[rdV,h]
def M32(l:List (Int × Int)):Prop:=∀a∈l,0≤a.2∧a.2<4294967296
theorem M32.nil:M32 []:=fun a h=>by cases h
theorem M32.upd{l:List (Int × Int)}(h:M32 l){k v:Int}(hv:0≤v∧v<4294967296):M32 (updL l k v):=fun a ha=>by
 rcases upd_mem ha with rfl|q
 ·exact hv
 ·exact h a q
theorem M32.look{l:List (Int × Int)}(h:M32 l)(k:Int):0≤lookL l k∧lookL l k<4294967296:=look_mem l k (fun x=>0≤x∧x<4294967296) ⟨aK _,by decide⟩ h
theorem rdV_32{rg sl:List Int}{hm km:List (Int × Int)}(h:M32 hm)(k:M32 km):V32 (rdV rg sl hm km):=fun x hx=>by
 unfold rdV at hx;obtain⟨i,_,rfl⟩:=iH.1 hx;unfold rdP;split
 ·exact k.look _
 ·exact h.look _
structure PlanA(l:List IV)(rg sl:List Int):Prop where
 lr:rg.length=l.length
 ls:sl.length=l.length
 one:∀(i:Nat) (r s:Int),rg[i]? = some r→sl[i]? = some s→(0≤r∧s = -1)∨(r = -1∧0≤s)
 apR:∀(i k:Nat) (r:Int),i<k→rg[i]? = some r→rg[k]? = some r→r ≠ -1→meetN l i k=false
 apS:∀(i k:Nat) (s:Int),i<k→sl[i]? = some s→sl[k]? = some s→s ≠ -1→meetN l i k=false
theorem PlanN.all{l:List IV}{regs:Nat}{rg sl:List Int}{slots:Int}(h:PlanN l regs l.length rg sl slots):PlanA l rg sl where
 lr:=h.lr
 ls:=h.ls
 one:=fun i r s h1 h2=>by
  have:=(ae.1 h1).1;rcases h.place i r s (by rw[h.lr]at this;exact this) h1 h2 with⟨a,_,b⟩|⟨a,b,_⟩
  ·exact .inl ⟨a,b⟩
  ·exact .inr ⟨a,b⟩
 apR:=fun i k r hik h1 h2 hne=>h.apR i k r hik (by have:=(ae.1 h2).1;rw[h.lr]at this;exact this) h1 h2 hne
 apS:=fun i k r hik h1 h2 hne=>h.apS i k r hik (by have:=(ae.1 h2).1;rw[h.ls]at this;exact this) h1 h2 hne
def stepH(rg sl:List Int)(n:Nat)(v:Int)(hm:List (Int × Int)):List (Int × Int):=if rg.getD n 0 = -1 then hm else updL hm (rg.getD n 0) v
def stepK(rg sl:List Int)(n:Nat)(v:Int)(km:List (Int × Int)):List (Int × Int):=if rg.getD n 0 = -1 then updL km (sl.getD n 0) v else km
def EvI(l:List IV)(V:List Int)(rg sl:List Int)(n:Nat)(hm km:List (Int × Int)):Prop:=∀(i:Nat) (a:IV),i<n→l[i]? = some a→(n:Int)≤a.2.2→rdP rg sl hm km i=V.getD i 0
theorem getD_of{l:List Int}{i:Nat}{x d:Int}(h:l[i]? = some x):l.getD i d=x:=by rw[aj,h];rfl
theorem evi_step{l:List IV}(hl:Ivs l){V:List Int}{rg sl:List Int}(hp:PlanA l rg sl){n:Nat}(hn:n<l.length){hm km:List (Int × Int)}(h:EvI l V rg sl n hm km){v:Int}{V':List Int}(hV':V'=V.set n v)(hVl:n<V.length):
    EvI l V' rg sl (n+1) (stepH rg sl n v hm) (stepK rg sl n v km):=by
 subst hV';intro i a hi ha hto;obtain⟨rn,hrn⟩:∃x,rg[n]? = some x:=⟨_,ac (by rw[hp.lr];exact hn)⟩;obtain⟨sn,hsn⟩:∃x,sl[n]? = some x:=⟨_,ac (by rw[hp.ls];exact hn)⟩;obtain⟨ri,hri⟩:∃x,rg[i]? = some x:=⟨_,ac (by rw[hp.lr];exact(ae.1 ha).1)⟩;obtain⟨si,hsi⟩:∃x,sl[i]? = some x:=⟨_,ac (by rw[hp.ls];exact(ae.1 ha).1)⟩;have hon:=hp.one n rn sn hrn hsn;have hoi:=hp.one i ri si hri hsi;unfold rdP stepH stepK;rw[getD_of hrn,getD_of hsn,getD_of hri,getD_of hsi]
 by_cases hin:i=n
 ·subst hin;rw[hrn]at hri;rw[hsn]at hsi;cases hri;cases hsi;have e:(V.set i v).getD i 0=v:=getD_of (aM hVl);rw[e]
  by_cases q:rn = -1
  ·rw[if_pos q,if_pos q];exact look_same _ _ _
  ·rw[if_neg q,if_neg q];exact look_same _ _ _
 ·have e:(V.set n v).getD i 0=V.getD i 0:=by rw[aj,aj,az (by omega)]
  rw[e];have hold:=h i a (by omega) ha (by omega);unfold rdP at hold;rw[getD_of hri,getD_of hsi]at hold
  have hm1:meetN l i n=true:=by
   have hb:l[n]? = some l[n]:=ac hn;obtain⟨a1,a2,_⟩:=hl.at_ i a ha;obtain⟨b1,b2,_⟩:=hl.at_ n _ hb;unfold meetN;rw[ha,hb];simp only[meetB,eN,ab,ap];omega
  by_cases q:ri = -1
  ·rw[if_pos q]at hold;rw[if_pos q]
   by_cases q2:rn = -1
   ·rw[if_pos q2]
    have hne:si≠sn:=fun e=>by
     rw[←e]at hsn;have:=hp.apS i n si (by omega) hsi hsn (by omega);rw[hm1]at this;cases this
    rw[look_other _ _ hne];exact hold
   ·rw[if_neg q2];exact hold
  ·rw[if_neg q]at hold;rw[if_neg q]
   by_cases q2:rn = -1
   ·rw[if_pos q2];exact hold
   ·rw[if_neg q2]
    have hne:ri≠rn:=fun e=>by
     rw[←e]at hrn;have:=hp.apR i n ri (by omega) hri hrn q;rw[hm1]at this;cases this
    rw[look_other _ _ hne];exact hold
theorem mkV_congr{d r V W:List Int}{x:II}(h:x.1=3∨x.1=4→V.getD x.2.2.1.toNat 0=W.getD x.2.2.1.toNat 0∧V.getD x.2.2.2.1.toNat 0=W.getD x.2.2.2.1.toNat 0)(ho:x.1=0∨x.1=1∨x.1=2∨x.1=3∨x.1=4):mkV d r V x=mkV d r W x:=by
 unfold mkV;rcases ho with e|e|e|e|e
 ·rw[if_pos e,if_pos e]
 ·rw[if_neg (by omega),if_pos e,if_neg (by omega),if_pos e]
 ·rw[if_neg (by omega),if_neg (by omega),if_pos e,if_neg (by omega),if_neg (by omega),if_pos e]
 ·obtain⟨a,b⟩:=h (.inl e);rw[a,b]
 ·obtain⟨a,b⟩:=h (.inr e);rw[a,b]
theorem putL_congr{V W l:List Int}{n:Nat}{out:List Int}(h:∀x∈out,V.getD x.toNat 0=W.getD x.toNat 0):putL V l n out=putL W l n out:=by
 unfold putL
 congr 1
 exact List.map_congr_left h
structure Iv(n:Nat)(l:List IV)(S:Nat→Prop)(G:Nat→Int→Prop):Prop where
 len:l.length=n
 at_:∀(i:Nat) (a:IV),l[i]? = some a→a.1=(i:Int)∧a.2.1=(i:Int)∧(i:Int)≤a.2.2∧a.2.2≤(n:Int)∧((i:Int)<a.2.2↔S i)∧∀t,G i t→t≤a.2.2
theorem Iv.mono{n:Nat}{l:List IV}{S S':Nat→Prop}{G G':Nat→Int→Prop}(h:Iv n l S G)(hs:∀i,S i↔S' i)(hg:∀i t,G' i t→G i t):Iv n l S' G' :=
 ⟨h.len,fun i a ha=>by
  obtain⟨h1,h2,h3,h4,h5,h6⟩:=h.at_ i a ha
  exact⟨h1,h2,h3,h4,h5.trans (hs i),fun t ht=>h6 t (hg i t ht)⟩⟩
theorem iv_seed(n:Nat):Iv n (seedl n) (fun _=>False) (fun _ _=>False):=by
 refine⟨by simp,fun i a h=>?_⟩
 have:a=((i:Int),(i:Int),(i:Int)):=by
  obtain⟨hi,rfl⟩:=ae.1 h;simp[seedl]
 subst this;have hi:=(ae.1 h).1;simp at hi;refine⟨rfl,rfl,aK _,?_,⟨fun h=>?_,fun h=>h.elim⟩,fun _ h=>h.elim⟩<;>(try dsimp only at *)<;>omega
theorem Iv.use{n:Nat}{l:List IV}{S:Nat→Prop}{G:Nat→Int→Prop}(h:Iv n l S G){x:Nat}{t:Int}(hx:x<n)(h1:(x:Int)<t)(h2:t≤(n:Int)):Iv n (usel t l x) (fun i=>S i∨i=x) (fun i u=>G i u∨(i=x∧u=t)):=by
 refine⟨by rw[usel_len];exact h.len,fun i a ha=>?_⟩;have hxl:x<l.length:=by rw[h.len];exact hx
 have e:usel t l x=l.set x ((l[x]).1,(l[x]).2.1,max (l[x]).2.2 t):=by
  unfold usel;rw[ac hxl]
 rw[e,eA]at ha
 by_cases hi:x=i
 ·rw[if_pos hi,if_pos hxl]at ha;cases ha;obtain⟨g1,g2,g3,g4,g5,g6⟩:=h.at_ x _ (ac hxl);subst hi;refine⟨g1,g2,?_,?_,⟨fun _=>.inr rfl,fun _=>?_⟩,fun u hu=>?_⟩
  ·dsimp only;omega
  ·dsimp only;omega
  ·dsimp only;omega
  ·dsimp only;rcases hu with hu|⟨_,hu⟩
   ·have:=g6 u hu;omega
   ·omega
 ·rw[if_neg hi]at ha;obtain⟨g1,g2,g3,g4,g5,g6⟩:=h.at_ i a ha;refine⟨g1,g2,g3,g4,g5.trans ⟨.inl,fun q=>q.elim id fun q=>absurd q.symm hi⟩,fun u hu=>?_⟩;rcases hu with hu|⟨q,_⟩
  ·exact g6 u hu
  ·exact absurd q.symm hi
def cu(c:List II)(k i:Nat):Prop:=∃j x,j<k∧c[j]? = some x∧(x.1=3∨x.1=4)∧(x.2.2.1=(i:Int)∨x.2.2.2.1=(i:Int))
def cg(c:List II)(k i:Nat)(t:Int):Prop:=∃(j:Nat) (x:II),j<k∧c[j]? = some x∧(x.1=3∨x.1=4)∧(x.2.2.1=(i:Int)∨x.2.2.2.1=(i:Int))∧t=(j:Int)
theorem iv_code{c:List II}{nd nr:Int}(hc:∀(k:Nat) (x:II),c[k]? = some x→madeB nd nr x k=true):∀k,k≤c.length→Iv c.length (codeL c k) (cu c k) (cg c k):=by
 intro k
 induction k with
 |zero=>exact fun _=>(iv_seed c.length).mono (fun i=>⟨fun h=>h.elim,fun⟨j,_,h,_⟩=>by omega⟩) (fun i t ⟨j,_,h,_⟩=>by omega)
 |succ k ih =>
  intro hk;have hx:c[k]? = some (c[k]'(by omega)):=ac _;generalize c[k]'(by omega)=x at hx;have h0:=ih (by omega)
  by_cases hop:x.1=3∨x.1=4
  ·obtain⟨⟨a1,a2⟩,b1,b2⟩:=made_ab (hc k x hx) hop;obtain⟨A,hA⟩:=aa a1;obtain⟨B,hB⟩:=aa b1;rw[codeL_use hx hop,hA,hB,useI_nat,useI_nat];refine((h0.use (x:=A) (t:=k) zo zo zo).use (x:=B) (t:=k) zo zo zo).mono (fun i=>⟨?_,?_⟩) (fun i t=>?_)
   ·rintro((⟨j,y,h1,h2,h3,h4⟩|rfl)|rfl)
    ·exact⟨j,y,by omega,h2,h3,h4⟩
    ·exact⟨k,x,by omega,hx,hop,.inl hA⟩
    ·exact⟨k,x,by omega,hx,hop,.inr hB⟩
   ·rintro⟨j,y,h1,h2,h3,h4⟩
    by_cases hj:j=k
    ·subst hj;rw[hx]at h2;cases h2;rcases h4 with h4|h4
     ·exact .inl (.inr (by omega))
     ·exact .inr (by omega)
    ·exact .inl (.inl ⟨j,y,by omega,h2,h3,h4⟩)
   ·rintro⟨j,y,h1,h2,h3,h4,h5⟩
    by_cases hj:j=k
    ·subst hj;rw[hx]at h2;cases h2;rcases h4 with h4|h4
     ·exact .inl (.inr ⟨by omega,h5⟩)
     ·exact .inr ⟨by omega,h5⟩
    ·exact .inl (.inl ⟨j,y,by omega,h2,h3,h4,h5⟩)
  ·rw[codeL_no hx hop];refine h0.mono (fun i=>⟨?_,?_⟩) (fun i t=>?_)
   ·rintro⟨j,y,h1,h2,h3,h4⟩;exact⟨j,y,by omega,h2,h3,h4⟩
   ·rintro⟨j,y,h1,h2,h3,h4⟩
    by_cases hj:j=k
    ·subst hj;rw[hx]at h2;cases h2;exact absurd h3 hop
    ·exact⟨j,y,by omega,h2,h3,h4⟩
   ·rintro⟨j,y,h1,h2,h3,h4,h5⟩
    by_cases hj:j=k
    ·subst hj;rw[hx]at h2;cases h2;exact absurd h3 hop
    ·exact⟨j,y,by omega,h2,h3,h4,h5⟩
theorem iv_out{n:Nat}:∀(xs:List Int) {l:List IV} {S:Nat→Prop} {G:Nat→Int→Prop},Iv n l S G→(∀x∈xs,0≤x∧x<(n:Int))→Iv n (outL n l xs) (fun i=>S i∨(i:Int)∈xs) (fun i t=>G i t∨((i:Int)∈xs∧t=(n:Int)))
 | [],l,S,G,h,_=>h.mono (fun i=>by simp) (fun i t h=>by simpa using h)
 |x::xs,l,S,G,h,hx=>by
  obtain⟨x1,x2⟩:=hx x (eI ..);obtain⟨X,rfl⟩:=aa x1;have:=iv_out xs (h.use (x:=X) (t:=n) (by omega) x2 (aK _)) (fun y hy=>hx y (eu _ hy));show Iv n (outL n (useI n l X) xs) _ _;rw[useI_nat];refine this.mono (fun i=>?_) (fun i t hg=>?_)
  ·simp only[eG];constructor
   ·rintro((h|rfl)|h)
    ·exact .inl h
    ·exact .inr (.inl rfl)
    ·exact .inr (.inr h)
   ·rintro(h|h|h)
    ·exact .inl (.inl h)
    ·exact .inl (.inr (by omega))
    ·exact .inr h
  ·rcases hg with hg|⟨hg,ht⟩
   ·exact .inl (.inl hg)
   ·rcases eG.1 hg with h|h
    ·exact .inl (.inr ⟨by omega,ht⟩)
    ·exact .inr ⟨h,ht⟩
theorem iv_one{n:Nat}{l:List IV}{S:Nat→Prop}{G:Nat→Int→Prop}(h:Iv n l S G){x:Int}(hx:x = -1∨valB x n=true):Iv n (useI n l x) (fun i=>S i∨(i:Int)=x) (fun i t=>G i t∨((i:Int)=x∧t=(n:Int))):=by
 rcases hx with rfl|hx
 ·rw[useI_no (by omega)];exact h.mono (fun i=>⟨.inl,fun q=>q.elim id fun q=>by omega⟩) (fun i t q=>q.elim id fun q=>by omega)
 ·obtain⟨x1,x2⟩:=valB_iff.1 hx;obtain⟨X,rfl⟩:=aa x1;rw[useI_nat]
  exact(h.use (x:=X) (t:=n) (by omega) x2 (aK _)).mono (fun i=>by constructor<;>(rintro(h|h);exact .inl h;exact .inr (by omega))) (fun i t q=>by
   rcases q with q|⟨q1,q2⟩
   ·exact .inl q
   ·exact .inr ⟨by omega,q2⟩)
theorem iv_of{c:List II}{od rd:List Int}{nd nr hd hr fl tg br ct:Int}(h:RightP c od rd nd nr hd hr fl tg br ct (c.length:Int)):Iv c.length (ofL c od rd fl tg) (fun i=>cu c c.length i∨(i:Int)∈od∨(i:Int)∈rd∨(i:Int)=fl∨(i:Int)=tg) (fun i t=>cg c c.length i t∨(((i:Int)∈od∨(i:Int)∈rd∨(i:Int)=fl∨(i:Int)=tg)∧t=(c.length:Int))):=by
 have h1:=iv_code h.code c.length (ak _);have h2:=iv_out od h1 (fun x hx=>by obtain⟨j,hj⟩:=List.getElem?_of_mem hx;exact valB_iff.1 (h.od_ j x hj));have h3:=iv_out rd h2 (fun x hx=>by obtain⟨j,hj⟩:=List.getElem?_of_mem hx;exact valB_iff.1 (h.rd_ j x hj));have h4:=iv_one h3 h.fl_;have h5:=iv_one h4 h.tg_;refine h5.mono (fun i=>?_) (fun i t q=>?_)
 ·simp only[or_assoc]
 ·rcases q with q|⟨q|q|q|q,ht⟩
  ·exact .inl (.inl (.inl (.inl q)))
  ·exact .inl (.inl (.inl (.inr ⟨q,ht⟩)))
  ·exact .inl (.inl (.inr ⟨q,ht⟩))
  ·exact .inl (.inr ⟨q,ht⟩)
  ·exact .inr ⟨q,ht⟩
theorem ivs_of{c:List II}{od rd:List Int}{nd nr hd hr fl tg br ct:Int}(h:RightP c od rd nd nr hd hr fl tg br ct (c.length:Int)):Ivs (ofL c od rd fl tg) :=
 ⟨fun i x hx=>by
  obtain⟨_,h1,h2,h3,_⟩:=(iv_of h).at_ i x hx
  rw[ofL_len];exact⟨h1,h2,h3⟩⟩
end Ls
end Go.Proofs.YtihacfclecanjaaGreat
