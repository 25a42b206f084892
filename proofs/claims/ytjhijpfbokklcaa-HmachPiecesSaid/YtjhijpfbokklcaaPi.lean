/- Chapter 4: what a step does, plainly; both Steps do it. -/
import Derived.Test.YtjhijpfbokklcaaPg
import Derived.Test.YtjhijpfbokklcaaPh
namespace Go.Proofs.Ytjhijpfbokklcaa
open Go Go.Ev Go.RowKit
set_option linter.unusedVariables false
set_option linter.unusedSimpArgs false
set_option maxRecDepth 100000
namespace Hm
def Mach.reg (m : Mach) (k : Int) : Int := (m.R[k.toNat]?).getD 0
def Mach.place (m : Mach) (ra im : Int) : Int := IntKind.u64.wrap (m.reg ra + im)
def Mach.to (m : Mach) (pc : Int) : Mach := ⟨m.R, m.Wd, m.C, pc⟩
def Mach.setR (m : Mach) (rd v : Int) : Mach := ⟨m.R.set rd.toNat v, m.Wd, m.C, m.pc + 1⟩
/-- What an instruction does to a machine. -/
def Mach.stepI (m : Mach) : Ins5 → Int × Mach
  | (op, rd, ra, rb, im) =>
    if op = 0 then (0, m.to (m.pc + 1))
    else if op = 1 then (0, m.setR rd im)
    else if op = 14 then (if m.place ra im < m.Wd.length then (0, m.setR rd ((m.Wd[(m.place ra im).toNat]?).getD 0)) else (4, m))
    else if op = 15 then (if m.place ra im < m.Wd.length then (0, ⟨m.R, m.Wd.set (m.place ra im).toNat (IntKind.u32.wrap (m.reg rb)), m.C, m.pc + 1⟩) else (4, m))
    else if op = 16 then (0, m.to (if m.reg ra = 0 then im else m.pc + 1))
    else if op = 17 then (0, m.to (if m.reg ra = 0 then m.pc + 1 else im))
    else if op = 18 then (0, m.to im)
    else if op = 19 then (1, m)
    else (0, m.setR rd (rck op.toNat (m.reg ra) (m.reg rb)))
def Mach.step (m : Mach) : Int × Mach := match m.C[m.pc.toNat]? with
  | some i => m.stepI i
  | none => (2, m)
def okI (i : Ins5) : Prop := (0 ≤ i.1 ∧ i.1 < 20) ∧ (0 ≤ i.2.1 ∧ i.2.1 < 16) ∧ (0 ≤ i.2.2.1 ∧ i.2.2.1 < 16) ∧ (0 ≤ i.2.2.2.1 ∧ i.2.2.2.1 < 16) ∧ (0 ≤ i.2.2.2.2 ∧ i.2.2.2.2 < 4294967296)
/-- A machine in memory. -/
structure MA (H : Heap) (ty : TypeId) (M W : Nat) (cp : Value) (m : Mach) : Prop where
  hM : H.get M = some ⟨macC m.R W m.Wd.length cp m.pc, ty, false⟩
  hW : H.get W = some ⟨m.Wd.map (Value.int .u32), 30, false⟩
  hC : Gr H 0 48 5 cp m.C.length (insC m.C)
  hT : 49 ≤ ty
  r16 : m.R.length = 16
  wl : m.Wd.length ≤ 65536
  cl : m.C.length ≤ 100000
  mn : M < H.n
  wn : W < H.n
  pc0 : 0 ≤ m.pc
  pc1 : m.pc ≤ 4294967296
  rr : ∀ x ∈ m.R, 0 ≤ x ∧ x < 18446744073709551616
  ww : ∀ x ∈ m.Wd, 0 ≤ x ∧ x < 4294967296
  ii : ∀ i ∈ m.C, okI i
theorem MA.mw {H : Heap} {ty : TypeId} {M W : Nat} {cp : Value} {m : Mach} (h : MA H ty M W cp m) : M ≠ W := fun e => by
  have h1 := h.hM; have h2 := h.hW; have h3 := h.hT
  rw [e, h2] at h1
  injection h1 with h1; injection h1 with _ h1 _
  subst h1; exact absurd h3 (by decide)
/-- What lies in memory above a line, or beside two blocks. -/
structure Fr2 (H H' : Heap) (M W : Nat) : Prop where
  n : H.n ≤ H'.n
  get : ∀ b, b < H.n → b ≠ M → b ≠ W → H'.get b = H.get b
theorem MA.of {H H' : Heap} {ty : TypeId} {M W : Nat} {cp : Value} {m : Mach} {R Wd : List Int} {pc : Int} (h : MA H ty M W cp m) (t : MTo H H' ty M W m.Wd.length cp R Wd pc) (h1 : R.length = 16) (h2 : Wd.length = m.Wd.length) (h3 : 0 ≤ pc) (h4 : pc ≤ 4294967296)
    (h5 : ∀ x ∈ R, 0 ≤ x ∧ x < 18446744073709551616) (h6 : ∀ x ∈ Wd, 0 ≤ x ∧ x < 4294967296) : MA H' ty M W cp ⟨R, Wd, m.C, pc⟩ := by
  refine ⟨by rw [h2]; exact t.gM, t.gW, ?_, h.hT, h1, by rw [h2]; exact h.wl, h.cl, Nat.lt_of_lt_of_le h.mn t.hn, Nat.lt_of_lt_of_le h.wn t.hn, h3, h4, h5, h6, h.ii⟩
  refine ⟨h.hC.size, ?_⟩
  rcases h.hC.at_ with e | ⟨B, e1, e2, e3, e4⟩
  · exact .inl e
  · refine .inr ⟨B, e1, ?_, Nat.lt_of_lt_of_le e3 t.hn, e4⟩
    rw [t.fr B e3 (fun e => ?_) (fun e => ?_)]
    · exact e2
    · have hm := h.hM; have ht := h.hT
      rw [← e, e2] at hm
      injection hm with hm; injection hm with _ hm _
      subst hm; exact absurd ht (by decide)
    · have hm := h.hW
      rw [← e, e2] at hm
      injection hm with hm; injection hm with _ hm _
      cases hm
theorem set_in {l : List Int} {k : Nat} {v hi : Int} (h : ∀ x ∈ l, 0 ≤ x ∧ x < hi) (h0 : 0 ≤ v) (h1 : v < hi) : ∀ x ∈ l.set k v, 0 ≤ x ∧ x < hi := fun x hx => by
  rcases List.mem_or_eq_of_mem_set hx with hx | rfl
  · exact h x hx
  · exact ⟨h0, h1⟩
theorem wrap32_in (x : Int) : 0 ≤ IntKind.u32.wrap x ∧ IntKind.u32.wrap x < 4294967296 := by rw [IntKind.wrap_u32]; omega
def StepPost (H : Heap) (ty : TypeId) (M W : Nat) (cp : Value) (m : Mach) : Value → Heap → Prop := fun r H' => r = .int .i64 m.step.1 ∧ MA H' ty M W cp m.step.2 ∧ Fr2 H H' M W
theorem step_post {H : Heap} {ty : TypeId} {M W : Nat} {cp : Value} {m : Mach} {f : FuncId} {args : Array Value} {code : Int} {R Wd : List Int} {pc : Int} (h : MA H ty M W cp m) (hs : m.step = (code, ⟨R, Wd, m.C, pc⟩)) (h1 : R.length = 16) (h2 : Wd.length = m.Wd.length) (h3 : 0 ≤ pc) (h4 : pc ≤ 4294967296)
    (h5 : ∀ x ∈ R, 0 ≤ x ∧ x < 18446744073709551616) (h6 : ∀ x ∈ Wd, 0 ≤ x ∧ x < 4294967296) (hc : ACall Try.prog T8 f args H fun r H' => r = .int .i64 code ∧ MTo H H' ty M W m.Wd.length cp R Wd pc) : ACall Try.prog T8 f args H (StepPost H ty M W cp m) :=
  hc.mono fun r H' ⟨hr, t⟩ => ⟨by rw [hs]; exact hr, by rw [hs]; exact h.of t h1 h2 h3 h4 h5 h6, t.hn, t.fr⟩
theorem step_ma {H : Heap} {M W : Nat} {cp : Value} {m : Mach} (h : MA H 62 M W cp m) : ACall Try.prog T8 21 #[.pointer (some ⟨M, 0, none⟩)] H (StepPost H 62 M W cp m) := by
  obtain ⟨R, Wd, C, pc⟩ := m
  have hmw := h.mw
  obtain ⟨gM, gW, hCg, _, hR, hn, hcl, hM, hW, hp0, hp1, hrr, hww, hii⟩ := id h
  simp only at gM gW hCg hR hn hcl hp0 hp1 hrr hww hii
  rcases hCg.at_ with ⟨rfl, hl⟩ | ⟨B, rfl, gC, hC, _⟩
  · obtain rfl : C = [] := List.length_eq_zero_iff.1 hl
    exact step_post h (by simp [Mach.step]) hR rfl hp0 hp1 hrr hww (step_nil gM gW hR hmw hM hW hp0)
  · by_cases hlt : pc.toNat < C.length
    · obtain ⟨k, rfl⟩ : ∃ k : Nat, pc = k := ⟨pc.toNat, by omega⟩
      rw [Int.toNat_natCast] at hlt
      obtain ⟨⟨op, rd, ra, rb, im⟩, hk⟩ : ∃ i, C[k]? = some i := ⟨_, List.getElem?_eq_getElem hlt⟩
      obtain ⟨⟨o0, o1⟩, ⟨d0, d1⟩, ⟨a0, a1⟩, ⟨b0, b1⟩, hi0, hi1⟩ := hii _ (List.mem_of_getElem? hk)
      simp only at o0 o1 d0 d1 a0 a1 b0 b1 hi0 hi1
      obtain ⟨rd, rfl⟩ : ∃ k : Nat, rd = k := ⟨rd.toNat, by omega⟩
      obtain ⟨ra, rfl⟩ : ∃ k : Nat, ra = k := ⟨ra.toNat, by omega⟩
      obtain ⟨rb, rfl⟩ : ∃ k : Nat, rb = k := ⟨rb.toNat, by omega⟩
      obtain ⟨xa, ea⟩ : ∃ x, R[ra]? = some x := ⟨_, List.getElem?_eq_getElem (by omega)⟩
      obtain ⟨xb, eb⟩ : ∃ x, R[rb]? = some x := ⟨_, List.getElem?_eq_getElem (by omega)⟩
      obtain ⟨ha0, ha1⟩ := hrr _ (List.mem_of_getElem? ea)
      obtain ⟨hb0, hb1⟩ := hrr _ (List.mem_of_getElem? eb)
      obtain ⟨pl, hpl, hpl2⟩ : ∃ pl : Nat, IntKind.u64.wrap (xa + im) = ((pl : Nat) : Int) ∧ pl < 18446744073709551616 := ⟨(IntKind.u64.wrap (xa + im)).toNat, by have := wrap64_in (xa + im); omega, by have := wrap64_in (xa + im); omega⟩
      have hMC : M ≠ B := fun e => by rw [e, gC] at gM; injection gM with gM; injection gM with _ gM _; cases gM
      have hWC : W ≠ B := fun e => by rw [e, gC] at gW; injection gW with gW; injection gW with _ gW _; cases gW
      have hst : Mach.step ⟨R, Wd, C, (k : Int)⟩ = Mach.stepI ⟨R, Wd, C, (k : Int)⟩ (op, (rd : Int), (ra : Int), (rb : Int), im) := by simp only [Mach.step, Int.toNat_natCast, hk]
      have era : ∀ pc, Mach.reg ⟨R, Wd, C, pc⟩ (ra : Int) = xa := fun pc => by simp [Mach.reg, ea]
      have erb : ∀ pc, Mach.reg ⟨R, Wd, C, pc⟩ (rb : Int) = xb := fun pc => by simp [Mach.reg, eb]
      have epl : ∀ pc, Mach.place ⟨R, Wd, C, pc⟩ (ra : Int) im = pl := fun pc => by rw [Mach.place, era, hpl]
      rcases (by omega : op = 0 ∨ op = 1 ∨ op = 14 ∨ op = 15 ∨ op = 16 ∨ op = 17 ∨ op = 18 ∨ op = 19 ∨ (2 ≤ op ∧ op ≤ 13)) with rfl | rfl | rfl | rfl | rfl | rfl | rfl | rfl | ⟨ho1, ho2⟩
      · exact step_post h (by rw [hst]; simp [Mach.stepI, Mach.to, Mach.setR, era, erb, epl]) hR rfl (by omega) (by omega) hrr hww (step_nop hk hlt (by omega) (by omega) (by omega) (by omega) hi0 hi1 ea eb ha0 ha1 hb0 hb1 hpl hpl2 hn rfl gC hC hMC hWC gM gW hR hmw hM hW)
      · exact step_post h (by rw [hst]; simp [Mach.stepI, Mach.to, Mach.setR, era, erb, epl]) (by rw [List.length_set]; exact hR) rfl (by omega) (by omega) (set_in hrr hi0 (by omega)) hww (step_li hk hlt (by omega) (by omega) (by omega) (by omega) hi0 hi1 ea eb ha0 ha1 hb0 hb1 hpl hpl2 hn rfl gC hC hMC hWC gM gW hR hmw hM hW)
      · by_cases hp : pl < Wd.length
        · obtain ⟨wv, ew⟩ : ∃ x, Wd[pl]? = some x := ⟨_, List.getElem?_eq_getElem hp⟩
          obtain ⟨hw0, hw1⟩ := hww _ (List.mem_of_getElem? ew)
          have ew2 : Wd[pl] = wv := by rw [List.getElem?_eq_getElem hp] at ew; exact Option.some.inj ew
          exact step_post h (by rw [hst]; simp [Mach.stepI, Mach.to, Mach.setR, era, erb, epl, hp, ew2]) (by rw [List.length_set]; exact hR) rfl (by omega) (by omega) (set_in hrr hw0 (by omega)) hww (step_ld hk hlt (by omega) (by omega) (by omega) (by omega) hi0 hi1 ea eb ha0 ha1 hb0 hb1 hpl hpl2 hn rfl gC hC hMC hWC gM gW hR hmw hM hW hp ew hw0 hw1)
        · exact step_post h (by rw [hst]; simp [Mach.stepI, Mach.to, Mach.setR, era, erb, epl, hp]) hR rfl (by omega) (by omega) hrr hww (step_ldb hk hlt (by omega) (by omega) (by omega) (by omega) hi0 hi1 ea eb ha0 ha1 hb0 hb1 hpl hpl2 hn rfl gC hC hMC hWC gM gW hR hmw hM hW (show Wd.length ≤ pl by omega))
      · by_cases hp : pl < Wd.length
        · exact step_post h (by rw [hst]; simp [Mach.stepI, Mach.to, Mach.setR, era, erb, epl, hp]) hR (List.length_set ..) (by omega) (by omega) hrr (set_in hww (wrap32_in _).1 (wrap32_in _).2) (step_st hk hlt (by omega) (by omega) (by omega) (by omega) hi0 hi1 ea eb ha0 ha1 hb0 hb1 hpl hpl2 hn rfl gC hC hMC hWC gM gW hR hmw hM hW hp)
        · exact step_post h (by rw [hst]; simp [Mach.stepI, Mach.to, Mach.setR, era, erb, epl, hp]) hR rfl (by omega) (by omega) hrr hww (step_stb hk hlt (by omega) (by omega) (by omega) (by omega) hi0 hi1 ea eb ha0 ha1 hb0 hb1 hpl hpl2 hn rfl gC hC hMC hWC gM gW hR hmw hM hW (show Wd.length ≤ pl by omega))
      · by_cases hx : xa = 0
        · exact step_post h (by rw [hst]; simp [Mach.stepI, Mach.to, Mach.setR, era, erb, epl, hx]) hR rfl hi0 (by omega) hrr hww (step_bzt hk hlt (by omega) (by omega) (by omega) (by omega) hi0 hi1 ea eb ha0 ha1 hb0 hb1 hpl hpl2 hn rfl gC hC hMC hWC gM gW hR hmw hM hW hx)
        · exact step_post h (by rw [hst]; simp [Mach.stepI, Mach.to, Mach.setR, era, erb, epl, hx]) hR rfl (by omega) (by omega) hrr hww (step_bzf hk hlt (by omega) (by omega) (by omega) (by omega) hi0 hi1 ea eb ha0 ha1 hb0 hb1 hpl hpl2 hn rfl gC hC hMC hWC gM gW hR hmw hM hW hx)
      · by_cases hx : xa = 0
        · exact step_post h (by rw [hst]; simp [Mach.stepI, Mach.to, Mach.setR, era, erb, epl, hx]) hR rfl (by omega) (by omega) hrr hww (step_bnf hk hlt (by omega) (by omega) (by omega) (by omega) hi0 hi1 ea eb ha0 ha1 hb0 hb1 hpl hpl2 hn rfl gC hC hMC hWC gM gW hR hmw hM hW hx)
        · exact step_post h (by rw [hst]; simp [Mach.stepI, Mach.to, Mach.setR, era, erb, epl, hx]) hR rfl hi0 (by omega) hrr hww (step_bnt hk hlt (by omega) (by omega) (by omega) (by omega) hi0 hi1 ea eb ha0 ha1 hb0 hb1 hpl hpl2 hn rfl gC hC hMC hWC gM gW hR hmw hM hW hx)
      · exact step_post h (by rw [hst]; simp [Mach.stepI, Mach.to, Mach.setR, era, erb, epl]) hR rfl hi0 (by omega) hrr hww (step_jmp hk hlt (by omega) (by omega) (by omega) (by omega) hi0 hi1 ea eb ha0 ha1 hb0 hb1 hpl hpl2 hn rfl gC hC hMC hWC gM gW hR hmw hM hW)
      · exact step_post h (by rw [hst]; simp [Mach.stepI, Mach.to, Mach.setR, era, erb, epl]) hR rfl (by omega) (by omega) hrr hww (step_exit hk hlt (by omega) (by omega) (by omega) (by omega) hi0 hi1 ea eb ha0 ha1 hb0 hb1 hpl hpl2 hn rfl gC hC hMC hWC gM gW hR hmw hM hW)
      · have hr := rck_in op.toNat (a := xa) (b := xb) (by simp only [u64B, Bool.and_eq_true, decide_eq_true_eq]; omega) (by simp only [u64B, Bool.and_eq_true, decide_eq_true_eq]; omega)
        exact step_post h (by rw [hst]; unfold Mach.stepI; simp only [if_neg (by omega : ¬ op = 0), if_neg (by omega : ¬ op = 1), if_neg (by omega : ¬ op = 14), if_neg (by omega : ¬ op = 15), if_neg (by omega : ¬ op = 16), if_neg (by omega : ¬ op = 17), if_neg (by omega : ¬ op = 18), if_neg (by omega : ¬ op = 19)]; simp [Mach.setR, era, erb]) (by rw [List.length_set]; exact hR) rfl (by omega) (by omega) (set_in hrr hr.1 hr.2) hww (step_alu hk hlt (by omega) (by omega) (by omega) (by omega) hi0 hi1 ea eb ha0 ha1 hb0 hb1 hpl hpl2 hn rfl gC hC hMC hWC gM gW hR hmw hM hW ho1 ho2)
    · exact step_post h (by simp only [Mach.step]; rw [List.getElem?_eq_none (by omega)]) hR rfl hp0 hp1 hrr hww (step_out gM gW hR hmw hM hW hp0 (by omega))
theorem rstep_ma {H : Heap} {M W : Nat} {cp : Value} {m : Mach} (h : MA H 58 M W cp m) : ACall Try.prog T8 25 #[.pointer (some ⟨M, 0, none⟩)] H (StepPost H 58 M W cp m) := by
  obtain ⟨R, Wd, C, pc⟩ := m
  have hmw := h.mw
  obtain ⟨gM, gW, hCg, _, hR, hn, hcl, hM, hW, hp0, hp1, hrr, hww, hii⟩ := id h
  simp only at gM gW hCg hR hn hcl hp0 hp1 hrr hww hii
  rcases hCg.at_ with ⟨rfl, hl⟩ | ⟨B, rfl, gC, hC, _⟩
  · obtain rfl : C = [] := List.length_eq_zero_iff.1 hl
    exact step_post h (by simp [Mach.step]) hR rfl hp0 hp1 hrr hww (rstep_nil gM gW hR hmw hM hW hp0)
  · by_cases hlt : pc.toNat < C.length
    · obtain ⟨k, rfl⟩ : ∃ k : Nat, pc = k := ⟨pc.toNat, by omega⟩
      rw [Int.toNat_natCast] at hlt
      obtain ⟨⟨op, rd, ra, rb, im⟩, hk⟩ : ∃ i, C[k]? = some i := ⟨_, List.getElem?_eq_getElem hlt⟩
      obtain ⟨⟨o0, o1⟩, ⟨d0, d1⟩, ⟨a0, a1⟩, ⟨b0, b1⟩, hi0, hi1⟩ := hii _ (List.mem_of_getElem? hk)
      simp only at o0 o1 d0 d1 a0 a1 b0 b1 hi0 hi1
      obtain ⟨rd, rfl⟩ : ∃ k : Nat, rd = k := ⟨rd.toNat, by omega⟩
      obtain ⟨ra, rfl⟩ : ∃ k : Nat, ra = k := ⟨ra.toNat, by omega⟩
      obtain ⟨rb, rfl⟩ : ∃ k : Nat, rb = k := ⟨rb.toNat, by omega⟩
      obtain ⟨xa, ea⟩ : ∃ x, R[ra]? = some x := ⟨_, List.getElem?_eq_getElem (by omega)⟩
      obtain ⟨xb, eb⟩ : ∃ x, R[rb]? = some x := ⟨_, List.getElem?_eq_getElem (by omega)⟩
      obtain ⟨ha0, ha1⟩ := hrr _ (List.mem_of_getElem? ea)
      obtain ⟨hb0, hb1⟩ := hrr _ (List.mem_of_getElem? eb)
      obtain ⟨pl, hpl, hpl2⟩ : ∃ pl : Nat, IntKind.u64.wrap (xa + im) = ((pl : Nat) : Int) ∧ pl < 18446744073709551616 := ⟨(IntKind.u64.wrap (xa + im)).toNat, by have := wrap64_in (xa + im); omega, by have := wrap64_in (xa + im); omega⟩
      have hMC : M ≠ B := fun e => by rw [e, gC] at gM; injection gM with gM; injection gM with _ gM _; cases gM
      have hWC : W ≠ B := fun e => by rw [e, gC] at gW; injection gW with gW; injection gW with _ gW _; cases gW
      have hst : Mach.step ⟨R, Wd, C, (k : Int)⟩ = Mach.stepI ⟨R, Wd, C, (k : Int)⟩ (op, (rd : Int), (ra : Int), (rb : Int), im) := by simp only [Mach.step, Int.toNat_natCast, hk]
      have era : ∀ pc, Mach.reg ⟨R, Wd, C, pc⟩ (ra : Int) = xa := fun pc => by simp [Mach.reg, ea]
      have erb : ∀ pc, Mach.reg ⟨R, Wd, C, pc⟩ (rb : Int) = xb := fun pc => by simp [Mach.reg, eb]
      have epl : ∀ pc, Mach.place ⟨R, Wd, C, pc⟩ (ra : Int) im = pl := fun pc => by rw [Mach.place, era, hpl]
      rcases (by omega : op = 0 ∨ op = 1 ∨ op = 2 ∨ op = 14 ∨ op = 15 ∨ op = 16 ∨ op = 17 ∨ op = 18 ∨ op = 19 ∨ (3 ≤ op ∧ op ≤ 13)) with rfl | rfl | rfl | rfl | rfl | rfl | rfl | rfl | rfl | ⟨ho1, ho2⟩
      · exact step_post h (by rw [hst]; simp [Mach.stepI, Mach.to, Mach.setR, era, erb, epl]) hR rfl (by omega) (by omega) hrr hww (rstep_nop hk hlt (by omega) (by omega) (by omega) (by omega) hi0 hi1 ea eb ha0 ha1 hb0 hb1 hpl hpl2 hn rfl gC hC hMC hWC gM gW hR hmw hM hW)
      · exact step_post h (by rw [hst]; simp [Mach.stepI, Mach.to, Mach.setR, era, erb, epl]) (by rw [List.length_set]; exact hR) rfl (by omega) (by omega) (set_in hrr hi0 (by omega)) hww (rstep_li hk hlt (by omega) (by omega) (by omega) (by omega) hi0 hi1 ea eb ha0 ha1 hb0 hb1 hpl hpl2 hn rfl gC hC hMC hWC gM gW hR hmw hM hW)
      · exact step_post h (by rw [hst]; simp [Mach.stepI, Mach.to, Mach.setR, era, erb, epl, rck]) (by rw [List.length_set]; exact hR) rfl (by omega) (by omega) (set_in hrr ha0 ha1) hww (rstep_mov hk hlt (by omega) (by omega) (by omega) (by omega) hi0 hi1 ea eb ha0 ha1 hb0 hb1 hpl hpl2 hn rfl gC hC hMC hWC gM gW hR hmw hM hW)
      · by_cases hp : pl < Wd.length
        · obtain ⟨wv, ew⟩ : ∃ x, Wd[pl]? = some x := ⟨_, List.getElem?_eq_getElem hp⟩
          obtain ⟨hw0, hw1⟩ := hww _ (List.mem_of_getElem? ew)
          have ew2 : Wd[pl] = wv := by rw [List.getElem?_eq_getElem hp] at ew; exact Option.some.inj ew
          exact step_post h (by rw [hst]; simp [Mach.stepI, Mach.to, Mach.setR, era, erb, epl, hp, ew2]) (by rw [List.length_set]; exact hR) rfl (by omega) (by omega) (set_in hrr hw0 (by omega)) hww (rstep_ld hk hlt (by omega) (by omega) (by omega) (by omega) hi0 hi1 ea eb ha0 ha1 hb0 hb1 hpl hpl2 hn rfl gC hC hMC hWC gM gW hR hmw hM hW hp ew hw0 hw1)
        · exact step_post h (by rw [hst]; simp [Mach.stepI, Mach.to, Mach.setR, era, erb, epl, hp]) hR rfl (by omega) (by omega) hrr hww (rstep_ldb hk hlt (by omega) (by omega) (by omega) (by omega) hi0 hi1 ea eb ha0 ha1 hb0 hb1 hpl hpl2 hn rfl gC hC hMC hWC gM gW hR hmw hM hW (show Wd.length ≤ pl by omega))
      · by_cases hp : pl < Wd.length
        · exact step_post h (by rw [hst]; simp [Mach.stepI, Mach.to, Mach.setR, era, erb, epl, hp]) hR (List.length_set ..) (by omega) (by omega) hrr (set_in hww (wrap32_in _).1 (wrap32_in _).2) (rstep_st hk hlt (by omega) (by omega) (by omega) (by omega) hi0 hi1 ea eb ha0 ha1 hb0 hb1 hpl hpl2 hn rfl gC hC hMC hWC gM gW hR hmw hM hW hp)
        · exact step_post h (by rw [hst]; simp [Mach.stepI, Mach.to, Mach.setR, era, erb, epl, hp]) hR rfl (by omega) (by omega) hrr hww (rstep_stb hk hlt (by omega) (by omega) (by omega) (by omega) hi0 hi1 ea eb ha0 ha1 hb0 hb1 hpl hpl2 hn rfl gC hC hMC hWC gM gW hR hmw hM hW (show Wd.length ≤ pl by omega))
      · by_cases hx : xa = 0
        · exact step_post h (by rw [hst]; simp [Mach.stepI, Mach.to, Mach.setR, era, erb, epl, hx]) hR rfl hi0 (by omega) hrr hww (rstep_bzt hk hlt (by omega) (by omega) (by omega) (by omega) hi0 hi1 ea eb ha0 ha1 hb0 hb1 hpl hpl2 hn rfl gC hC hMC hWC gM gW hR hmw hM hW hx)
        · exact step_post h (by rw [hst]; simp [Mach.stepI, Mach.to, Mach.setR, era, erb, epl, hx]) hR rfl (by omega) (by omega) hrr hww (rstep_bzf hk hlt (by omega) (by omega) (by omega) (by omega) hi0 hi1 ea eb ha0 ha1 hb0 hb1 hpl hpl2 hn rfl gC hC hMC hWC gM gW hR hmw hM hW hx)
      · by_cases hx : xa = 0
        · exact step_post h (by rw [hst]; simp [Mach.stepI, Mach.to, Mach.setR, era, erb, epl, hx]) hR rfl (by omega) (by omega) hrr hww (rstep_bnf hk hlt (by omega) (by omega) (by omega) (by omega) hi0 hi1 ea eb ha0 ha1 hb0 hb1 hpl hpl2 hn rfl gC hC hMC hWC gM gW hR hmw hM hW hx)
        · exact step_post h (by rw [hst]; simp [Mach.stepI, Mach.to, Mach.setR, era, erb, epl, hx]) hR rfl hi0 (by omega) hrr hww (rstep_bnt hk hlt (by omega) (by omega) (by omega) (by omega) hi0 hi1 ea eb ha0 ha1 hb0 hb1 hpl hpl2 hn rfl gC hC hMC hWC gM gW hR hmw hM hW hx)
      · exact step_post h (by rw [hst]; simp [Mach.stepI, Mach.to, Mach.setR, era, erb, epl]) hR rfl hi0 (by omega) hrr hww (rstep_jmp hk hlt (by omega) (by omega) (by omega) (by omega) hi0 hi1 ea eb ha0 ha1 hb0 hb1 hpl hpl2 hn rfl gC hC hMC hWC gM gW hR hmw hM hW)
      · exact step_post h (by rw [hst]; simp [Mach.stepI, Mach.to, Mach.setR, era, erb, epl]) hR rfl (by omega) (by omega) hrr hww (rstep_exit hk hlt (by omega) (by omega) (by omega) (by omega) hi0 hi1 ea eb ha0 ha1 hb0 hb1 hpl hpl2 hn rfl gC hC hMC hWC gM gW hR hmw hM hW)
      · have hr := rck_in op.toNat (a := xa) (b := xb) (by simp only [u64B, Bool.and_eq_true, decide_eq_true_eq]; omega) (by simp only [u64B, Bool.and_eq_true, decide_eq_true_eq]; omega)
        exact step_post h (by rw [hst]; unfold Mach.stepI; simp only [if_neg (by omega : ¬ op = 0), if_neg (by omega : ¬ op = 1), if_neg (by omega : ¬ op = 14), if_neg (by omega : ¬ op = 15), if_neg (by omega : ¬ op = 16), if_neg (by omega : ¬ op = 17), if_neg (by omega : ¬ op = 18), if_neg (by omega : ¬ op = 19)]; simp [Mach.setR, era, erb]) (by rw [List.length_set]; exact hR) rfl (by omega) (by omega) (set_in hrr hr.1 hr.2) hww (rstep_alu hk hlt (by omega) (by omega) (by omega) (by omega) hi0 hi1 ea eb ha0 ha1 hb0 hb1 hpl hpl2 hn rfl gC hC hMC hWC gM gW hR hmw hM hW ho1 ho2)
    · exact step_post h (by simp only [Mach.step]; rw [List.getElem?_eq_none (by omega)]) hR rfl hp0 hp1 hrr hww (rstep_out gM gW hR hmw hM hW hp0 (by omega))
end Hm
end Go.Proofs.Ytjhijpfbokklcaa
