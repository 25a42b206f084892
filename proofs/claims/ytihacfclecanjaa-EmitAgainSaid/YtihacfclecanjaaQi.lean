/- Chapter 22: what code does from a state that is laid. -/
import Derived.Test.YtihacfclecanjaaQh
set_option linter.unusedVariables false
set_option linter.unusedSimpArgs false
namespace Go.Proofs.Ytihacfclecanjaa
open Go Go.Ev Go.RowKit
set_option maxRecDepth 100000
namespace Ls
theorem code_fit {c : List II} {od rd rg sl d r : List Int} {nd nr hd hr fl nx tg br tk ct pc f0 slots : Int} {E : List II} (hR : RightP c od rd nd nr hd hr fl tg br ct (c.length : Int)) (hi : ∀ x ∈ c, 0 ≤ x.2.2.2.2 ∧ x.2.2.2.2 < 4294967296) (hp : PlanN (ofL c od rd fl tg) 7 c.length rg sl slots) (hE : E = emitC rg sl nd nr hd hr fl nx tg br tk ct c od rd) (hnx : u32P nx) (htk : u32P tk) (d32 : V32 d) (r32 : V32 r) (hdl : d.length ≤ 16) (hrl : r.length ≤ 16) (hf : 0 ≤ f0 ∧ f0 ≤ 15) (hfit : ((nd ≤ (d.length : Int) ∧ (d.length : Int) + hd ≤ 16) ∧ (nr ≤ (r.length : Int) ∧ (r.length : Int) + hr ≤ 16) ∧ ((d.length : Int) - nd + (od.length : Int) ≤ 16) ∧ ((r.length : Int) - nr + (rd.length : Int) ≤ 16))) : CodeP E d r pc f0 1 (putL (evW c d r rg sl c.length) d nd.toNat od) (putL (evW c d r rg sl c.length) r nr.toNat rd) (leftP (evW c d r rg sl c.length) nx tg br tk (leftF (evW c d r rg sl c.length) fl f0)) (leftF (evW c d r rg sl c.length) fl f0) ct := by
 have hpl : PlB rg sl c.length := plb_of hp (by rw [ofL_len]) hR.len;have hlr : rg.length = c.length := by rw [hp.lr, ofL_len]
 have hct : u32P ct := ⟨by have := hR.ct_; omega, by have := hR.ct_; omega⟩;have h3 := hR.nd_; have h4 := hR.nr_;obtain ⟨g1, g2, g3⟩ := emitC_r hR hi hpl hnx htk hct (hd := hd) (hr := hr);rw [← hE] at g1 g2;refine ⟨g1, g2, fun s hl => ?_, ?_, ?_, ?_, .inl rfl⟩
 ·rw [hE]; exact (emit_ok hR hi hpl hlr hl hnx htk hct).1 hfit
 ·rw [putL_len9 _ _ _ (by omega)]; omega
 ·rw [putL_len9 _ _ _ (by omega)]; omega
 ·unfold leftF; split
  ·exact hf
  ·omega
theorem code_unfit {c : List II} {od rd rg sl d r : List Int} {nd nr hd hr fl nx tg br tk ct pc f0 slots : Int} {E : List II} (hR : RightP c od rd nd nr hd hr fl tg br ct (c.length : Int)) (hi : ∀ x ∈ c, 0 ≤ x.2.2.2.2 ∧ x.2.2.2.2 < 4294967296) (hp : PlanN (ofL c od rd fl tg) 7 c.length rg sl slots) (hE : E = emitC rg sl nd nr hd hr fl nx tg br tk ct c od rd) (hnx : u32P nx) (htk : u32P tk) (d32 : V32 d) (r32 : V32 r) (hdl : d.length ≤ 16) (hrl : r.length ≤ 16) (hf : 0 ≤ f0 ∧ f0 ≤ 15) (hno : ¬ ((nd ≤ (d.length : Int) ∧ (d.length : Int) + hd ≤ 16) ∧ (nr ≤ (r.length : Int) ∧ (r.length : Int) + hr ≤ 16) ∧ ((d.length : Int) - nd + (od.length : Int) ≤ 16) ∧ ((r.length : Int) - nr + (rd.length : Int) ≤ 16))) : CodeP E d r pc f0 2 d r pc f0 0 := by
 have hpl : PlB rg sl c.length := plb_of hp (by rw [ofL_len]) hR.len;have hlr : rg.length = c.length := by rw [hp.lr, ofL_len]
 have hct : u32P ct := ⟨by have := hR.ct_; omega, by have := hR.ct_; omega⟩;obtain ⟨g1, g2, g3⟩ := emitC_r hR hi hpl hnx htk hct (hd := hd) (hr := hr);rw [← hE] at g1 g2;refine ⟨g1, g2, fun s hl => ?_, hdl, hrl, hf, .inr rfl⟩;rw [hE];obtain ⟨t, h1, h2⟩ := (emit_ok hR hi hpl hlr hl hnx htk hct).2 hno;exact ⟨t, h1, by rw [h2]; exact ⟨hl.pc, hl.fl, hl.nd, hl.nr, hl.lay.ld, hl.lay.lr, hl.ct⟩⟩
theorem code_any {c : List II} {od rd rg sl d r : List Int} {nd nr hd hr fl nx tg br tk ct pc f0 slots : Int} {E : List II} (hR : RightP c od rd nd nr hd hr fl tg br ct (c.length : Int)) (hi : ∀ x ∈ c, 0 ≤ x.2.2.2.2 ∧ x.2.2.2.2 < 4294967296) (hp : PlanN (ofL c od rd fl tg) 7 c.length rg sl slots) (hE : E = emitC rg sl nd nr hd hr fl nx tg br tk ct c od rd) (hnx : u32P nx) (htk : u32P tk) (d32 : V32 d) (r32 : V32 r) (hdl : d.length ≤ 16) (hrl : r.length ≤ 16) (hf : 0 ≤ f0 ∧ f0 ≤ 15) : ∃ im D R pc1 fl1 ct1, CodeP E d r pc f0 im D R pc1 fl1 ct1 := by
 by_cases h : ((nd ≤ (d.length : Int) ∧ (d.length : Int) + hd ≤ 16) ∧ (nr ≤ (r.length : Int) ∧ (r.length : Int) + hr ≤ 16) ∧ ((d.length : Int) - nd + (od.length : Int) ≤ 16) ∧ ((r.length : Int) - nr + (rd.length : Int) ≤ 16))
 ·exact ⟨_, _, _, _, _, _, code_fit hR hi hp hE hnx htk d32 r32 hdl hrl hf h⟩
 ·exact ⟨_, _, _, _, _, _, code_unfit hR hi hp hE hnx htk d32 r32 hdl hrl hf h⟩
end Ls
end Go.Proofs.Ytihacfclecanjaa
