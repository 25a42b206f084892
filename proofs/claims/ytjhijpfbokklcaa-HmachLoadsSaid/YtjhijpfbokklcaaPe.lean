/- Chapter 4: bytes read one instruction behind the other. -/
import Derived.Test.YtjhijpfbokklcaaPd
namespace Go.Proofs.Ytjhijpfbokklcaa
open Go Go.Ev Go.RowKit
set_option linter.unusedVariables false
set_option linter.unusedSimpArgs false
set_option maxRecDepth 100000
namespace Hm
/-- How many there is room for. -/
structure CapV (pt : Option Addr) (len cap : Nat) : Prop where
  at_ : (len ≤ cap ∧ cap < unk) ∨ (cap = unk + 1 ∧ pt ≠ none)
def blk (p : Option Addr) : Option Nat := p.map (·.block)
theorem aslice_sl {T : Tab} {t e : TypeId} (hu : T.under t = some (.slice e)) (hs : T.size e = some 1) {a : Option Addr} {len cap : Nat} (lo hi : Nat) {vlo vhi : Option Value}
    (hlo : (vlo = none ∧ lo = 0) ∨ vlo = some (.int .i64 (Int.ofNat lo))) (hhi : (vhi = none ∧ hi = len) ∨ vhi = some (.int .i64 (Int.ofNat hi))) :
    aslice T t (.slice a len cap) vlo vhi none = (bif lo.ble hi then bif unk.ble cap then (match a with | some ⟨b, off, none⟩ => bif hi.ble len && cap.beq (unk + 1) then some (.slice (some ⟨b, off + lo * 1, none⟩) (hi - lo) (unk + 1)) else none | _ => none) else bif hi.ble cap then some (.slice (bif cap.beq lo then a else a.map (·.add (lo * 1))) (hi - lo) (cap - lo)) else none else none) := by
  rcases hlo with ⟨rfl, rfl⟩ | rfl <;> rcases hhi with ⟨rfl, rfl⟩ | rfl <;> (unfold aslice; simp only [hu, hs]; rfl)
theorem aslice_byts {T : Tab} {t e : TypeId} {H : Heap} {pt : Option Addr} {cap : Nat} {l : List Int} (hu : T.under t = some (.slice e)) (hs : T.size e = some 1) (h : Byts H (.slice pt l.length cap) l) (hc : CapV pt l.length cap) (lo hi : Nat) {vlo vhi : Option Value}
    (hlo : (vlo = none ∧ lo = 0) ∨ vlo = some (.int .i64 (Int.ofNat lo))) (hhi : (vhi = none ∧ hi = l.length) ∨ vhi = some (.int .i64 (Int.ofNat hi))) (h1 : lo ≤ hi) (h2 : hi ≤ l.length) :
    ∃ pt' cap', aslice T t (.slice pt l.length cap) vlo vhi none = some (.slice pt' (hi - lo) cap') ∧ Byts H (.slice pt' (hi - lo) cap') ((l.take hi).drop lo) ∧ CapV pt' (hi - lo) cap' ∧ blk pt' = blk pt := by
  have hlen : ((l.take hi).drop lo).length = hi - lo := by simp; omega
  have e1 : lo.ble hi = true := by rw [ble_dec]; simp [h1]
  have e2 : hi.ble l.length = true := by rw [ble_dec]; simp [h2]
  have sub : ∀ {A off c : Nat} {cells : List Value} {el : TypeId} {ro : Bool}, H.get A = some ⟨cells, el, ro⟩ → A < H.n → (∀ k (h : k < l.length), cells[off + k * 1]? = some (.int .u8 l[k]) ∧ 0 ≤ l[k] ∧ l[k] < 256) → ∀ o, (lo < hi → o = off + lo) → Byts H (.slice (some ⟨A, o, none⟩) (hi - lo) c) ((l.take hi).drop lo) := by
    intro A off c cells el ro g hA hb o ho
    rw [← hlen]
    refine ⟨.inr ⟨A, o, c, cells, el, ro, rfl, g, hA, fun k hk => ?_⟩⟩
    rw [hlen] at hk
    have := hb (lo + k) (by omega)
    rw [List.getElem_drop, List.getElem_take]
    rw [ho (by omega), show off + lo + k * 1 = off + (lo + k) * 1 by omega]
    exact this
  rcases h.at_ with ⟨c, he, rfl⟩ | ⟨A, off, c, cells, el, ro, he, g, hA, hb⟩
  · simp only [List.length_nil] at h2
    obtain rfl : hi = 0 := by omega
    obtain rfl : lo = 0 := by omega
    obtain rfl : pt = none := by injection he
    rcases hc.at_ with ⟨hc1, hc2⟩ | ⟨_, hn⟩
    · have e3 : unk.ble cap = false := by rw [ble_dec]; simp; omega
      have e4 : (0 : Nat).ble cap = true := by rw [ble_dec]; simp
      refine ⟨none, cap, ?_, ⟨.inl ⟨cap, rfl, rfl⟩⟩, ⟨.inl ⟨by omega, hc2⟩⟩, rfl⟩
      rw [aslice_sl hu hs 0 0 hlo hhi, e1, e3, e4]
      cases cap.beq 0 <;> rfl
    · exact absurd rfl hn
  · obtain ⟨rfl, rfl⟩ : pt = some ⟨A, off, none⟩ ∧ c = cap := by injection he with h1 h2 h3; exact ⟨h1, h3.symm⟩
    rcases hc.at_ with ⟨hc1, hc2⟩ | ⟨rfl, _⟩
    · have e3 : unk.ble c = false := by rw [ble_dec]; simp; omega
      have e4 : hi.ble c = true := by rw [ble_dec]; simp; omega
      by_cases hcl : c = lo
      · have e5 : c.beq lo = true := by rw [beq_dec]; simp [hcl]
        refine ⟨some ⟨A, off, none⟩, c - lo, ?_, sub g hA hb off (by omega), ⟨.inl ⟨by omega, by omega⟩⟩, rfl⟩
        rw [aslice_sl hu hs lo hi hlo hhi, e1, e3, e4, e5]; rfl
      · have e5 : c.beq lo = false := by rw [beq_dec]; simp [hcl]
        refine ⟨some ⟨A, off + lo, none⟩, c - lo, ?_, sub g hA hb (off + lo) (fun _ => rfl), ⟨.inl ⟨by omega, by omega⟩⟩, rfl⟩
        rw [aslice_sl hu hs lo hi hlo hhi, e1, e3, e4, e5]
        simp only [cond_true, cond_false, Option.map_some, Nat.mul_one]
        rw [Addr.add_lit]
    · have e3 : unk.ble (unk + 1) = true := by rw [ble_dec]; simp
      have e4 : (unk + 1).beq (unk + 1) = true := by rw [beq_dec]; simp
      refine ⟨some ⟨A, off + lo, none⟩, unk + 1, ?_, sub g hA hb (off + lo) (fun _ => rfl), ⟨.inr ⟨rfl, by simp⟩⟩, rfl⟩
      rw [aslice_sl hu hs lo hi hlo hhi, e1, e3]
      simp only [e2, e4, cond_true, Bool.and_self, Nat.mul_one]
theorem ha_sl {P : Program} {T : Tab} {tm : Tr Value} {o : Oper} {H0 H H' : Heap} {t : TypeId} {x : Operand} {lo hi mx : Option Operand} {u v : Value} {l h m : Option Value} (ho : o.op = .slice t x lo hi mx) (hx : aeval tm x = some u) (h1 : aevalo tm lo = some l) (h2 : aevalo tm hi = some h) (h3 : aevalo tm mx = some m) (hH : H0 = H) (h4 : aslice T t u l h m = some v) (hH' : H = H') : aop P T tm o H0 = some (.val v, H') := by
  subst hH hH'
  unfold aop
  simp only [ho, hx, h1, h2, h3, h4, orVal, val]
theorem Gr.byts {H : Heap} {lo : Nat} {v : Value} {l : List Int} (hb : ∀ x ∈ l, 0 ≤ x ∧ x < 256) (h : Gr H lo 5 1 v l.length (l.map (Value.int .u8))) : Byts H v l := by
  rcases h.at_ with ⟨h1, h2⟩ | ⟨B, h1, h2, h3, _⟩
  · exact ⟨.inl ⟨0, h1, List.length_eq_zero_iff.1 h2⟩⟩
  · exact ⟨.inr ⟨B, 0, _, _, _, _, h1, h2, h3, fun k hk => ⟨by rw [List.getElem?_map, show 0 + k * 1 = k by omega, List.getElem?_eq_getElem hk]; rfl, hb _ (List.getElem_mem hk)⟩⟩⟩
theorem Gr.ne {H : Heap} {lo : Nat} {e : TypeId} {s len n c : Nat} {v : Value} {xs : List Value} (h : Gr H lo e s v len xs) {B2 : Nat} (hB : H.n ≤ B2) (B : Nat) (hv : v = .slice (some ⟨B, 0, none⟩) len (unk + s)) : blockOf (.slice (some ⟨B2, 0, none⟩) n c) ≠ some B := by
  intro h0
  simp only [blockOf, Option.some.injEq] at h0
  rcases h.at_ with ⟨h1, _⟩ | ⟨B3, h1, _, h3, _⟩
  · rw [h1] at hv; cases hv
  · rw [h1] at hv
    injection hv with hv _ _
    injection hv with hv
    injection hv with hv _ _
    omega
def insCs (i : Ins5) : List Value := [.int .i64 i.1, .int .i64 i.2.1, .int .i64 i.2.2.1, .int .i64 i.2.2.2.1, .int .u32 i.2.2.2.2]
def insC (is : List Ins5) : List Value := is.flatMap insCs
theorem insC_snoc (is : List Ins5) (i : Ins5) : insC (is ++ [i]) = insC is ++ insCs i := by simp [insC]
theorem insC_len (is : List Ins5) : (insC is).length = is.length * 5 := by
  induction is with
  | nil => rfl
  | cons a l ih => simp only [insC, List.flatMap_cons, List.length_append] at ih ⊢; rw [ih]; simp [insCs]; omega
theorem insC_at : ∀ (is : List Ins5) (k : Nat) (i : Ins5), is[k]? = some i → ((insC is).drop (0 + k * 5)).take 5 = insCs i := by
  intro is
  induction is with
  | nil => intro k i h; simp at h
  | cons a l ih =>
    intro k i h
    cases k with
    | zero => simp at h; subst h; simp [insC, insCs]
    | succ k =>
      have h2 := ih k i (by simpa using h)
      have e : (insC (a :: l)).drop (0 + (k + 1) * 5) = (insC l).drop (0 + k * 5) := by
        show (insCs a ++ insC l).drop _ = _
        rw [show 0 + (k + 1) * 5 = (insCs a).length + (0 + k * 5) by simp [insCs]; omega, List.drop_length_add_append]
      rw [e, h2]
theorem Gr.snoc {H : Heap} {lo : Nat} {v : Value} {is : List Ins5} {a b c d n : Int} (h : Gr H lo 48 5 v (is.length + 1) (insC is ++ [.int .i64 a, .int .i64 b, .int .i64 c, .int .i64 d, .int .u32 n])) : Gr H lo 48 5 v (is ++ [(a, b, c, d, n)]).length (insC (is ++ [(a, b, c, d, n)])) := by
  rw [insC_snoc, List.length_append]
  exact h
/-- Instructions that bytes begin with. -/
structure Dec (l : List Int) (is : List Ins5) : Prop where
  len : 8 * is.length ≤ l.length
  rd : ∀ k (h : k < is.length), readL ((l.drop (8 * k)).take 8) = (is[k], 0)
theorem Dec.nil {l : List Int} : Dec l [] := ⟨by simp, fun k h => by simp at h⟩
theorem Dec.snoc {l : List Int} {is : List Ins5} {i : Ins5} (h : Dec l is) (h8 : 8 * is.length + 8 ≤ l.length) (hr : readL ((l.drop (8 * is.length)).take 8) = (i, 0)) : Dec l (is ++ [i]) := by
  refine ⟨by simp; omega, fun k hk => ?_⟩
  simp at hk
  rcases Nat.lt_or_ge k is.length with h1 | h1
  · rw [List.getElem_append_left h1]; exact h.rd k h1
  · obtain rfl : k = is.length := by omega
    simp; exact hr
theorem Dec.excl {l : List Int} {is js : List Ins5} (h : Dec l is) (hl : l.length = 8 * is.length) (hj : Dec l js) (h8 : 8 * js.length < l.length) (hr : (readL ((l.drop (8 * js.length)).take 8)).2 ≠ 0) : False := by
  have := h.rd js.length (by omega)
  rw [this] at hr
  exact hr rfl
theorem Dec.uniq {l : List Int} {is js : List Ins5} (h : Dec l is) (hl : l.length = 8 * is.length) (hj : Dec l js) (hl' : l.length = 8 * js.length) : is = js := by
  refine List.ext_getElem (by omega) fun k h1 h2 => ?_
  have e1 := h.rd k h1
  have e2 := hj.rd k h2
  rw [e1] at e2
  exact (Prod.mk.inj e2).1
noncomputable def f29b : Code := Try.f29.body.getD .skip
theorem f29_body : Try.f29.body = some f29b := by kernel_rfl
theorem f29_fn : T8.fn 29 = some Try.f29 := by kernel_rfl
set_option maxHeartbeats 1000000 in
theorem all_any {H : Heap} {pt : Option Addr} {cap : Nat} {l : List Int} (hB : Byts H (.slice pt l.length cap) l) (hC : CapV pt l.length cap) (hll : l.length ≤ 100000) : ACall Try.prog T8 29 #[.slice pt l.length cap] H fun v H' => ∃ is ov, Up H.n H H' ∧ Dec l is ∧ ((l.length = 8 * is.length ∧ v = .tuple #[ov, .int .i64 0] ∧ Gr H' H.n 48 5 ov is.length (insC is) ∧ (is = [] → ov = .slice none 0 0)) ∨ (8 * is.length < l.length ∧ ∃ er : Int, er ≠ 0 ∧ (readL ((l.drop (8 * is.length)).take 8)).2 = er ∧ v = .tuple #[.slice none 0 0, .int .i64 er])) := by
  refine acall_cf 29 (initTm 0 #[(.slice pt l.length cap)]) rfl f29_fn f29_body rfl rfl ?_
  refine cf_go 13 ?_
  refine cf_loop 29 (cl (cl (cl (cr (cr f29b))))) [.blk 0, .next (cr (cr (cr f29b)))] (by kernel_rfl) (by kernel_rfl) (by kernel_rfl) (fun m st => ∃ (is : List Ins5) (r : List Int) (pt : Option Addr) (cap : Nat) (ov : Value) (H1 : Heap), m = r.length ∧ Dec l is ∧ l.drop (8 * is.length) = r ∧ Byts H (.slice pt r.length cap) r ∧ CapV pt r.length cap ∧ Kn st.tm [(0, (.slice pt r.length cap)), (4, ov)] ∧ st.H = H1 ∧ Up H.n H H1 ∧ Gr H1 H.n 48 5 ov is.length (insC is) ∧ (is = [] → ov = .slice none 0 0)) (l.length) ⟨[], l, pt, cap, .slice none 0 0, H, rfl, .nil, rfl, hB, hC, ⟨by kernel_rfl, by kernel_rfl, True.intro⟩, by kernel_rfl, Up.refl H, Gr.nil, fun _ => rfl⟩ ?_
  rintro m st ⟨is, r, pt, cap, ov, H1, hm, hdec, hr, hB1, hC1, hkn, hH, uH1, hgr, hnil⟩ Rr1 hRr1
  refine cf_kn [(0, (.slice pt r.length cap)), (4, ov)] hkn hH fun tm => ?_
  have nH1 := uH1.n
  have hdl := hdec.len
  have hrl : r.length = l.length - 8 * is.length := by rw [← hr]; simp
  by_cases h0 : r.length = 0
  · skip
    refine cf_go 6 ?_
    refine cf_see 9 (.bool false) (see_bool (by kernel_rfl) ((decide_eq_false (by omega)) : ((decide (((r.length : Nat) : Int) > 0))) = false)) ?_
    refine cf_go 16 ?_
    refine cf_end (.tuple #[ov, .int .i64 0]) H1 (by kernel_rfl) (by kernel_rfl) (by kernel_rfl) ?_
    exact ⟨is, ov, uH1.trans (Up.refl H1 : Up H.n H1 H1), hdec, .inl ⟨by omega, rfl, hgr, hnil⟩⟩
  · skip
    by_cases h8 : 8 ≤ r.length
    · skip
      have h8l : (r.take 8).length = 8 := by simp; omega
      have hin := readL_in (r.take 8)
      rcases hd : readL (r.take 8) with ⟨⟨a, b, c, d, n⟩, er⟩
      rw [hd] at hin
      have her : er = 12 ∨ er = 0 := by rcases hin with ⟨h1, _⟩ | ⟨_, h2⟩ | ⟨_, h2⟩; exact absurd h8l h1; exact .inl (Prod.mk.inj h2).2; exact .inr h2
      rcases her with rfl | rfl
      · skip
        refine cf_go 6 ?_
        refine cf_see 9 (.bool true) (see_bool (by kernel_rfl) ((decide_eq_true (by omega)) : ((decide (((r.length : Nat) : Int) > 0))) = true)) ?_
        refine cf_go 12 ?_
        refine cf_see 14 (.int .i64 8) (see_int (x := (if ((r.length : Nat) : Int) < 8 then ((r.length : Nat) : Int) else 8)) (by kernel_rfl) (if_neg (by omega))) ?_
        obtain ⟨pt1_, cap1_, hs1_, hB1_, hC1_, hP1_⟩ := aslice_byts (T := T8) (t := 23) (e := 5) (by kernel_rfl) (by kernel_rfl) hB1 hC1 0 8 (vlo := none) (vhi := (some (.int .i64 (Int.ofNat 8)))) (.inl ⟨rfl, rfl⟩) (.inr rfl) (by omega) (by omega)
        rw [List.drop_zero] at hB1_
        refine cf_val 15 (.slice pt1_ (8 - 0) cap1_) H1 (by kernel_rfl) (ha_sl (H := H1) (t := 23) (x := .tmp 11) (lo := none) (hi := (some (.tmp 14))) (mx := none) (u := (.slice pt r.length cap)) (l := none) (h := (some (.int .i64 (Int.ofNat 8)))) (m := none) (by kernel_rfl) (by kernel_rfl) (by kernel_rfl) (by kernel_rfl) (by kernel_rfl) (by kernel_rfl) hs1_ (by kernel_rfl)) ?_
        refine cf_call 16 34 #[(.slice pt1_ (8 - 0) cap1_)] H1 (by kernel_rfl) (by kernel_rfl) (by kernel_rfl) (dec_to (hB1_.keep (H' := H1) (by omega) (fun b hb => by rw [uH1.get _ (by omega)])) hd) ?_
        rintro _ H1_ ⟨rfl, uH1_⟩
        have nH1_ := uH1_.n
        refine cf_go 3 ?_
        obtain ⟨H2_, hH2_⟩ : ∃ x : Heap, x = H1_.push ⟨[Value.int .i64 0, .int .i64 0, .int .i64 0, .int .i64 0, .int .u32 0], 48, false⟩ := ⟨_, rfl⟩
        have nH2_ : H2_.n = H1_.n + 1 := by rw [hH2_]; rfl
        refine cf_val 5 (.pointer (some ⟨H1_.n, 0, none⟩)) H2_ (by kernel_rfl) ((by kernel_rfl : _ = some (Res.val (.pointer (some ⟨H1_.n, 0, none⟩)), H1_.push ⟨[Value.int .i64 0, .int .i64 0, .int .i64 0, .int .i64 0, .int .u32 0], 48, false⟩)).trans (by rw [← hH2_])) ?_
        have gH2_H1__n : H2_.get (H1_.n) = some ⟨[Value.int .i64 0, .int .i64 0, .int .i64 0, .int .i64 0, .int .u32 0], 48, false⟩ := by rw [hH2_]; exact (Heap.get_push _ _ _).trans (if_pos rfl)
        obtain ⟨H3_, hH3_⟩ : ∃ x : Heap, x = H2_.put (H1_.n) ⟨[Value.int .i64 a, .int .i64 b, .int .i64 c, .int .i64 d, .int .u32 n], 48, false⟩ := ⟨_, rfl⟩
        have nH3_ : H3_.n = H2_.n := by rw [hH3_]; rfl
        refine cf_skip H3_ (by kernel_rfl) ((by kernel_rfl : _ = skp (astore T8 48 (.pointer (some ⟨H1_.n, 0, none⟩)) (.agg #[.int .i64 a, .int .i64 b, .int .i64 c, .int .i64 d, .int .u32 n]) H2_)).trans (by rw [astore_to gH2_H1__n (by kernel_rfl), ← hH3_]; rfl)) ?_
        refine cf_go 24 ?_
        refine cf_end (.tuple #[.slice none 0 0, .int .i64 12]) H3_ (by kernel_rfl) (by kernel_rfl) (by kernel_rfl) ?_
        exact ⟨is, ov, uH1.trans (show Up H.n H1 H3_ from ⟨by omega, fun b hb => by rw [hH3_, Heap.get_put, if_neg (by omega), hH2_, Heap.get_push, if_neg (by omega), uH1_.get _ (by omega)]⟩), hdec, .inr ⟨by omega, 12, by simp, by rw [hr, hd], rfl⟩⟩
      · skip
        refine cf_go 6 ?_
        refine cf_see 9 (.bool true) (see_bool (by kernel_rfl) ((decide_eq_true (by omega)) : ((decide (((r.length : Nat) : Int) > 0))) = true)) ?_
        refine cf_go 12 ?_
        refine cf_see 14 (.int .i64 8) (see_int (x := (if ((r.length : Nat) : Int) < 8 then ((r.length : Nat) : Int) else 8)) (by kernel_rfl) (if_neg (by omega))) ?_
        obtain ⟨pt2_, cap2_, hs2_, hB2_, hC2_, hP2_⟩ := aslice_byts (T := T8) (t := 23) (e := 5) (by kernel_rfl) (by kernel_rfl) hB1 hC1 0 8 (vlo := none) (vhi := (some (.int .i64 (Int.ofNat 8)))) (.inl ⟨rfl, rfl⟩) (.inr rfl) (by omega) (by omega)
        rw [List.drop_zero] at hB2_
        refine cf_val 15 (.slice pt2_ (8 - 0) cap2_) H1 (by kernel_rfl) (ha_sl (H := H1) (t := 23) (x := .tmp 11) (lo := none) (hi := (some (.tmp 14))) (mx := none) (u := (.slice pt r.length cap)) (l := none) (h := (some (.int .i64 (Int.ofNat 8)))) (m := none) (by kernel_rfl) (by kernel_rfl) (by kernel_rfl) (by kernel_rfl) (by kernel_rfl) (by kernel_rfl) hs2_ (by kernel_rfl)) ?_
        refine cf_call 16 34 #[(.slice pt2_ (8 - 0) cap2_)] H1 (by kernel_rfl) (by kernel_rfl) (by kernel_rfl) (dec_to (hB2_.keep (H' := H1) (by omega) (fun b hb => by rw [uH1.get _ (by omega)])) hd) ?_
        rintro _ H4_ ⟨rfl, uH4_⟩
        have nH4_ := uH4_.n
        refine cf_go 3 ?_
        obtain ⟨H5_, hH5_⟩ : ∃ x : Heap, x = H4_.push ⟨[Value.int .i64 0, .int .i64 0, .int .i64 0, .int .i64 0, .int .u32 0], 48, false⟩ := ⟨_, rfl⟩
        have nH5_ : H5_.n = H4_.n + 1 := by rw [hH5_]; rfl
        refine cf_val 5 (.pointer (some ⟨H4_.n, 0, none⟩)) H5_ (by kernel_rfl) ((by kernel_rfl : _ = some (Res.val (.pointer (some ⟨H4_.n, 0, none⟩)), H4_.push ⟨[Value.int .i64 0, .int .i64 0, .int .i64 0, .int .i64 0, .int .u32 0], 48, false⟩)).trans (by rw [← hH5_])) ?_
        have gH5_H4__n : H5_.get (H4_.n) = some ⟨[Value.int .i64 0, .int .i64 0, .int .i64 0, .int .i64 0, .int .u32 0], 48, false⟩ := by rw [hH5_]; exact (Heap.get_push _ _ _).trans (if_pos rfl)
        obtain ⟨H6_, hH6_⟩ : ∃ x : Heap, x = H5_.put (H4_.n) ⟨[Value.int .i64 a, .int .i64 b, .int .i64 c, .int .i64 d, .int .u32 n], 48, false⟩ := ⟨_, rfl⟩
        have nH6_ : H6_.n = H5_.n := by rw [hH6_]; rfl
        refine cf_skip H6_ (by kernel_rfl) ((by kernel_rfl : _ = skp (astore T8 48 (.pointer (some ⟨H4_.n, 0, none⟩)) (.agg #[.int .i64 a, .int .i64 b, .int .i64 c, .int .i64 d, .int .u32 n]) H5_)).trans (by rw [astore_to gH5_H4__n (by kernel_rfl), ← hH6_]; rfl)) ?_
        refine cf_go 16 ?_
        have gH6_H4__n : H6_.get (H4_.n) = some ⟨[Value.int .i64 a, .int .i64 b, .int .i64 c, .int .i64 d, .int .u32 n], 48, false⟩ := by rw [hH6_]; exact (Heap.get_put _ _ _ _).trans (if_pos rfl)
        refine cf_val 23 (.agg #[.int .i64 a, .int .i64 b, .int .i64 c, .int .i64 d, .int .u32 n]) H6_ (by kernel_rfl) ((by kernel_rfl : _ = val (aload T8 48 (.pointer (some ⟨H4_.n, 0, none⟩)) H6_) H6_).trans (val_of ((aload_at gH6_H4__n).trans (by kernel_rfl)))) ?_
        obtain ⟨H7_, hH7_⟩ : ∃ x : Heap, x = H6_.push ⟨[Value.int .i64 a, .int .i64 b, .int .i64 c, .int .i64 d, .int .u32 n], 48, false⟩ := ⟨_, rfl⟩
        have nH7_ : H7_.n = H6_.n + 1 := by rw [hH7_]; rfl
        refine cf_val 24 (.slice (some ⟨H6_.n, 0, none⟩) 1 1) H7_ (by kernel_rfl) ((by kernel_rfl : _ = some (Res.val (.slice (some ⟨H6_.n, 0, none⟩) 1 1), H6_.push ⟨[Value.int .i64 a, .int .i64 b, .int .i64 c, .int .i64 d, .int .u32 n], 48, false⟩)).trans (by rw [← hH7_])) ?_
        have gH7_H6__n : H7_.get (H6_.n) = some ⟨[Value.int .i64 a, .int .i64 b, .int .i64 c, .int .i64 d, .int .u32 n], 48, false⟩ := by rw [hH7_]; exact (Heap.get_push _ _ _).trans (if_pos rfl)
        obtain ⟨ovH8_, H8_, hapH8_, hgrH8_, uH8_, frH8_, nH8_, hvH8_⟩ := aappend_gr (T := T8) (st := 22) (xt := 22) (e := 48) (xd := .slice 48) (s0 := 4) (by_ := 39) (z := .agg #[.int .i64 0, .int .i64 0, .int .i64 0, .int .i64 0, .int .u32 0]) (by kernel_rfl) (by kernel_rfl) rfl (by kernel_rfl) (by kernel_rfl) (by kernel_rfl) (lo := H.n) (hgr.keep (lo' := H.n) (by omega) (fun b hb1 hb2 => by rw [hH7_, Heap.get_push, if_neg (by omega), hH6_, Heap.get_put, if_neg (by omega), hH5_, Heap.get_push, if_neg (by omega), uH4_.get _ (by omega)])) (x := .slice (some ⟨H6_.n, 0, none⟩) 1 1) (asrc_blk (l := [Value.int .i64 a, .int .i64 b, .int .i64 c, .int .i64 d, .int .u32 n]) gH7_H6__n rfl rfl) rfl rfl (by omega) (Gr.ne hgr (by omega)) (by omega) (by omega)
        refine cf_val 25 ovH8_ H8_ (by kernel_rfl) ((by kernel_rfl : _ = val2 (aappend T8 22 22 ov (.slice (some ⟨H6_.n, 0, none⟩) 1 1) H7_)).trans (by rw [hapH8_]; rfl)) ?_
        refine cf_go 5 ?_
        obtain ⟨pt3_, cap3_, hs3_, hB3_, hC3_, hP3_⟩ := aslice_byts (T := T8) (t := 23) (e := 5) (by kernel_rfl) (by kernel_rfl) hB1 hC1 8 r.length (vlo := (some (.int .i64 (Int.ofNat 8)))) (vhi := none) (.inr rfl) (.inl ⟨rfl, rfl⟩) (by omega) (by omega)
        rw [List.take_length] at hB3_
        refine cf_val 27 (.slice pt3_ (r.length - 8) cap3_) H8_ (by kernel_rfl) (ha_sl (H := H8_) (t := 23) (x := .tmp 26) (lo := (some (.const (.int .i64 8)))) (hi := none) (mx := none) (u := (.slice pt r.length cap)) (l := (some (.int .i64 (Int.ofNat 8)))) (h := none) (m := none) (by kernel_rfl) (by kernel_rfl) (by kernel_rfl) (by kernel_rfl) (by kernel_rfl) (by kernel_rfl) hs3_ (by kernel_rfl)) ?_
        refine cf_go 3 ?_
        have hrd : (List.drop 8 r).length = r.length - 8 := by simp
        have hB9 : Byts H (.slice pt3_ (List.drop 8 r).length cap3_) (List.drop 8 r) := by rw [hrd]; exact hB3_
        have hC9 : CapV pt3_ (List.drop 8 r).length cap3_ := by rw [hrd]; exact hC3_
        have hgr9 : Gr H8_ H.n 48 5 ovH8_ (is.length + 1) (insC is ++ [.int .i64 a, .int .i64 b, .int .i64 c, .int .i64 d, .int .u32 n]) := hgrH8_
        have hq : r.length - 8 = (List.drop 8 r).length := by simp
        refine cf_inv Rr1 (by kernel_rfl) (hRr1 _ ⟨(List.drop 8 r).length, by rw [hrd]; omega, is ++ [(a, b, c, d, n)], List.drop 8 r, pt3_, cap3_, ovH8_, H8_, rfl, hdec.snoc (by omega) (by rw [hr]; exact hd), by rw [← hr]; simp [Nat.mul_add], hB9, hC9, ⟨by rw [← hq]; kernel_rfl, by kernel_rfl, True.intro⟩, by kernel_rfl, uH1.trans (show Up H.n H1 H8_ from ⟨by omega, fun b hb => by rw [uH8_.get _ (by omega), hH7_, Heap.get_push, if_neg (by omega), hH6_, Heap.get_put, if_neg (by omega), hH5_, Heap.get_push, if_neg (by omega), uH4_.get _ (by omega)]⟩), Gr.snoc hgr9, fun e => by simp at e⟩)
    · skip
      rcases hd : readL (r.take r.length) with ⟨⟨a, b, c, d, n⟩, er⟩
      have her : er = 10 := by have := readL_ne (l := r.take r.length) (by simp; omega); rw [hd] at this; exact (Prod.mk.inj this).2
      subst her
      refine cf_go 6 ?_
      refine cf_see 9 (.bool true) (see_bool (by kernel_rfl) ((decide_eq_true (by omega)) : ((decide (((r.length : Nat) : Int) > 0))) = true)) ?_
      refine cf_go 12 ?_
      refine cf_see 14 (.int .i64 ((r.length : Nat) : Int)) (see_int (x := (if ((r.length : Nat) : Int) < 8 then ((r.length : Nat) : Int) else 8)) (by kernel_rfl) (if_pos (by omega))) ?_
      obtain ⟨pt4_, cap4_, hs4_, hB4_, hC4_, hP4_⟩ := aslice_byts (T := T8) (t := 23) (e := 5) (by kernel_rfl) (by kernel_rfl) hB1 hC1 0 r.length (vlo := none) (vhi := (some (.int .i64 (Int.ofNat r.length)))) (.inl ⟨rfl, rfl⟩) (.inr rfl) (by omega) (by omega)
      rw [List.drop_zero] at hB4_
      refine cf_val 15 (.slice pt4_ (r.length - 0) cap4_) H1 (by kernel_rfl) (ha_sl (H := H1) (t := 23) (x := .tmp 11) (lo := none) (hi := (some (.tmp 14))) (mx := none) (u := (.slice pt r.length cap)) (l := none) (h := (some (.int .i64 (Int.ofNat r.length)))) (m := none) (by kernel_rfl) (by kernel_rfl) (by kernel_rfl) (by kernel_rfl) (by kernel_rfl) (by kernel_rfl) hs4_ (by kernel_rfl)) ?_
      refine cf_call 16 34 #[(.slice pt4_ (r.length - 0) cap4_)] H1 (by kernel_rfl) (by kernel_rfl) (by kernel_rfl) (dec_to (hB4_.keep (H' := H1) (by omega) (fun b hb => by rw [uH1.get _ (by omega)])) hd) ?_
      rintro _ H9_ ⟨rfl, uH9_⟩
      have nH9_ := uH9_.n
      refine cf_go 3 ?_
      obtain ⟨H10_, hH10_⟩ : ∃ x : Heap, x = H9_.push ⟨[Value.int .i64 0, .int .i64 0, .int .i64 0, .int .i64 0, .int .u32 0], 48, false⟩ := ⟨_, rfl⟩
      have nH10_ : H10_.n = H9_.n + 1 := by rw [hH10_]; rfl
      refine cf_val 5 (.pointer (some ⟨H9_.n, 0, none⟩)) H10_ (by kernel_rfl) ((by kernel_rfl : _ = some (Res.val (.pointer (some ⟨H9_.n, 0, none⟩)), H9_.push ⟨[Value.int .i64 0, .int .i64 0, .int .i64 0, .int .i64 0, .int .u32 0], 48, false⟩)).trans (by rw [← hH10_])) ?_
      have gH10_H9__n : H10_.get (H9_.n) = some ⟨[Value.int .i64 0, .int .i64 0, .int .i64 0, .int .i64 0, .int .u32 0], 48, false⟩ := by rw [hH10_]; exact (Heap.get_push _ _ _).trans (if_pos rfl)
      obtain ⟨H11_, hH11_⟩ : ∃ x : Heap, x = H10_.put (H9_.n) ⟨[Value.int .i64 a, .int .i64 b, .int .i64 c, .int .i64 d, .int .u32 n], 48, false⟩ := ⟨_, rfl⟩
      have nH11_ : H11_.n = H10_.n := by rw [hH11_]; rfl
      refine cf_skip H11_ (by kernel_rfl) ((by kernel_rfl : _ = skp (astore T8 48 (.pointer (some ⟨H9_.n, 0, none⟩)) (.agg #[.int .i64 a, .int .i64 b, .int .i64 c, .int .i64 d, .int .u32 n]) H10_)).trans (by rw [astore_to gH10_H9__n (by kernel_rfl), ← hH11_]; rfl)) ?_
      refine cf_go 24 ?_
      have hd8 : readL (List.take 8 r) = ((a, b, c, d, n), 10) := by rw [List.take_of_length_le (by omega : r.length ≤ 8)]; rw [List.take_of_length_le (Nat.le_refl _)] at hd; exact hd
      refine cf_end (.tuple #[.slice none 0 0, .int .i64 10]) H11_ (by kernel_rfl) (by kernel_rfl) (by kernel_rfl) ?_
      exact ⟨is, ov, uH1.trans (show Up H.n H1 H11_ from ⟨by omega, fun b hb => by rw [hH11_, Heap.get_put, if_neg (by omega), hH10_, Heap.get_push, if_neg (by omega), uH9_.get _ (by omega)]⟩), hdec, .inr ⟨by omega, 10, by simp, by rw [hr, hd8], rfl⟩⟩
noncomputable def f15b : Code := Try.f15.body.getD .skip
theorem f15_body : Try.f15.body = some f15b := by kernel_rfl
theorem f15_fn : T8.fn 15 = some Try.f15 := by kernel_rfl
set_option maxHeartbeats 1000000 in
theorem rall_any {H : Heap} {pt : Option Addr} {cap : Nat} {l : List Int} (hB : Byts H (.slice pt l.length cap) l) (hC : CapV pt l.length cap) (hll : l.length ≤ 100000) : ACall Try.prog T8 15 #[.slice pt l.length cap] H fun v H' => ∃ is ov, Up H.n H H' ∧ Dec l is ∧ ((l.length = 8 * is.length ∧ v = .tuple #[ov, .bool true] ∧ Gr H' H.n 48 5 ov is.length (insC is) ∧ (is = [] → ov = .slice none 0 0)) ∨ (8 * is.length < l.length ∧ (readL ((l.drop (8 * is.length)).take 8)).2 ≠ 0 ∧ ∃ o, v = .tuple #[o, .bool false])) := by
  refine acall_cf 28 (initTm 0 #[(.slice pt l.length cap)]) rfl f15_fn f15_body rfl rfl ?_
  refine cf_go 13 ?_
  refine cf_loop 28 (cl (cl (cl (cr (cr f15b))))) [.blk 0, .next (cr (cr (cr f15b)))] (by kernel_rfl) (by kernel_rfl) (by kernel_rfl) (fun m st => ∃ (is : List Ins5) (r : List Int) (pt : Option Addr) (cap : Nat) (ov : Value) (H1 : Heap), m = r.length ∧ Dec l is ∧ l.drop (8 * is.length) = r ∧ Byts H (.slice pt r.length cap) r ∧ CapV pt r.length cap ∧ Kn st.tm [(0, (.slice pt r.length cap)), (4, ov)] ∧ st.H = H1 ∧ Up H.n H H1 ∧ Gr H1 H.n 48 5 ov is.length (insC is) ∧ (is = [] → ov = .slice none 0 0)) (l.length) ⟨[], l, pt, cap, .slice none 0 0, H, rfl, .nil, rfl, hB, hC, ⟨by kernel_rfl, by kernel_rfl, True.intro⟩, by kernel_rfl, Up.refl H, Gr.nil, fun _ => rfl⟩ ?_
  rintro m st ⟨is, r, pt, cap, ov, H1, hm, hdec, hr, hB1, hC1, hkn, hH, uH1, hgr, hnil⟩ Rr1 hRr1
  refine cf_kn [(0, (.slice pt r.length cap)), (4, ov)] hkn hH fun tm => ?_
  have nH1 := uH1.n
  have hdl := hdec.len
  have hrl : r.length = l.length - 8 * is.length := by rw [← hr]; simp
  by_cases h8 : 8 ≤ r.length
  · skip
    have h8l : (r.take 8).length = 8 := by simp; omega
    have hin := readL_in (r.take 8)
    rcases hd : readL (r.take 8) with ⟨⟨a, b, c, d, n⟩, er⟩
    rw [hd] at hin
    have her : er = 12 ∨ er = 0 := by rcases hin with ⟨h1, _⟩ | ⟨_, h2⟩ | ⟨_, h2⟩; exact absurd h8l h1; exact .inl (Prod.mk.inj h2).2; exact .inr h2
    rcases her with rfl | rfl
    · skip
      refine cf_go 6 ?_
      refine cf_see 9 (.bool true) (see_bool (by kernel_rfl) ((decide_eq_true (by omega)) : ((decide (((r.length : Nat) : Int) ≥ 8))) = true)) ?_
      refine cf_go 9 ?_
      obtain ⟨pt1_, cap1_, hs1_, hB1_, hC1_, hP1_⟩ := aslice_byts (T := T8) (t := 23) (e := 5) (by kernel_rfl) (by kernel_rfl) hB1 hC1 0 8 (vlo := none) (vhi := (some (.int .i64 (Int.ofNat 8)))) (.inl ⟨rfl, rfl⟩) (.inr rfl) (by omega) (by omega)
      rw [List.drop_zero] at hB1_
      refine cf_val 12 (.slice pt1_ (8 - 0) cap1_) H1 (by kernel_rfl) (ha_sl (H := H1) (t := 23) (x := .tmp 11) (lo := none) (hi := (some (.const (.int .i64 8)))) (mx := none) (u := (.slice pt r.length cap)) (l := none) (h := (some (.int .i64 (Int.ofNat 8)))) (m := none) (by kernel_rfl) (by kernel_rfl) (by kernel_rfl) (by kernel_rfl) (by kernel_rfl) (by kernel_rfl) hs1_ (by kernel_rfl)) ?_
      refine cf_call 13 30 #[(.slice pt1_ (8 - 0) cap1_)] H1 (by kernel_rfl) (by kernel_rfl) (by kernel_rfl) (rdec_to (k := false) (hB1_.keep (H' := H1) (by omega) (fun b hb => by rw [uH1.get _ (by omega)])) hd rfl) ?_
      rintro _ H1_ ⟨rfl, uH1_⟩
      have nH1_ := uH1_.n
      refine cf_go 3 ?_
      obtain ⟨H2_, hH2_⟩ : ∃ x : Heap, x = H1_.push ⟨[Value.int .i64 0, .int .i64 0, .int .i64 0, .int .i64 0, .int .u32 0], 48, false⟩ := ⟨_, rfl⟩
      have nH2_ : H2_.n = H1_.n + 1 := by rw [hH2_]; rfl
      refine cf_val 5 (.pointer (some ⟨H1_.n, 0, none⟩)) H2_ (by kernel_rfl) ((by kernel_rfl : _ = some (Res.val (.pointer (some ⟨H1_.n, 0, none⟩)), H1_.push ⟨[Value.int .i64 0, .int .i64 0, .int .i64 0, .int .i64 0, .int .u32 0], 48, false⟩)).trans (by rw [← hH2_])) ?_
      have gH2_H1__n : H2_.get (H1_.n) = some ⟨[Value.int .i64 0, .int .i64 0, .int .i64 0, .int .i64 0, .int .u32 0], 48, false⟩ := by rw [hH2_]; exact (Heap.get_push _ _ _).trans (if_pos rfl)
      obtain ⟨H3_, hH3_⟩ : ∃ x : Heap, x = H2_.put (H1_.n) ⟨[Value.int .i64 a, .int .i64 b, .int .i64 c, .int .i64 d, .int .u32 n], 48, false⟩ := ⟨_, rfl⟩
      have nH3_ : H3_.n = H2_.n := by rw [hH3_]; rfl
      refine cf_skip H3_ (by kernel_rfl) ((by kernel_rfl : _ = skp (astore T8 48 (.pointer (some ⟨H1_.n, 0, none⟩)) (.agg #[.int .i64 a, .int .i64 b, .int .i64 c, .int .i64 d, .int .u32 n]) H2_)).trans (by rw [astore_to gH2_H1__n (by kernel_rfl), ← hH3_]; rfl)) ?_
      refine cf_go 23 ?_
      refine cf_end (.tuple #[.slice none 0 0, .bool false]) H3_ (by kernel_rfl) (by kernel_rfl) (by kernel_rfl) ?_
      exact ⟨is, ov, uH1.trans (show Up H.n H1 H3_ from ⟨by omega, fun b hb => by rw [hH3_, Heap.get_put, if_neg (by omega), hH2_, Heap.get_push, if_neg (by omega), uH1_.get _ (by omega)]⟩), hdec, .inr ⟨by omega, by rw [hr, hd]; simp, _, rfl⟩⟩
    · skip
      refine cf_go 6 ?_
      refine cf_see 9 (.bool true) (see_bool (by kernel_rfl) ((decide_eq_true (by omega)) : ((decide (((r.length : Nat) : Int) ≥ 8))) = true)) ?_
      refine cf_go 9 ?_
      obtain ⟨pt2_, cap2_, hs2_, hB2_, hC2_, hP2_⟩ := aslice_byts (T := T8) (t := 23) (e := 5) (by kernel_rfl) (by kernel_rfl) hB1 hC1 0 8 (vlo := none) (vhi := (some (.int .i64 (Int.ofNat 8)))) (.inl ⟨rfl, rfl⟩) (.inr rfl) (by omega) (by omega)
      rw [List.drop_zero] at hB2_
      refine cf_val 12 (.slice pt2_ (8 - 0) cap2_) H1 (by kernel_rfl) (ha_sl (H := H1) (t := 23) (x := .tmp 11) (lo := none) (hi := (some (.const (.int .i64 8)))) (mx := none) (u := (.slice pt r.length cap)) (l := none) (h := (some (.int .i64 (Int.ofNat 8)))) (m := none) (by kernel_rfl) (by kernel_rfl) (by kernel_rfl) (by kernel_rfl) (by kernel_rfl) (by kernel_rfl) hs2_ (by kernel_rfl)) ?_
      refine cf_call 13 30 #[(.slice pt2_ (8 - 0) cap2_)] H1 (by kernel_rfl) (by kernel_rfl) (by kernel_rfl) (rdec_to (k := true) (hB2_.keep (H' := H1) (by omega) (fun b hb => by rw [uH1.get _ (by omega)])) hd rfl) ?_
      rintro _ H4_ ⟨rfl, uH4_⟩
      have nH4_ := uH4_.n
      refine cf_go 3 ?_
      obtain ⟨H5_, hH5_⟩ : ∃ x : Heap, x = H4_.push ⟨[Value.int .i64 0, .int .i64 0, .int .i64 0, .int .i64 0, .int .u32 0], 48, false⟩ := ⟨_, rfl⟩
      have nH5_ : H5_.n = H4_.n + 1 := by rw [hH5_]; rfl
      refine cf_val 5 (.pointer (some ⟨H4_.n, 0, none⟩)) H5_ (by kernel_rfl) ((by kernel_rfl : _ = some (Res.val (.pointer (some ⟨H4_.n, 0, none⟩)), H4_.push ⟨[Value.int .i64 0, .int .i64 0, .int .i64 0, .int .i64 0, .int .u32 0], 48, false⟩)).trans (by rw [← hH5_])) ?_
      have gH5_H4__n : H5_.get (H4_.n) = some ⟨[Value.int .i64 0, .int .i64 0, .int .i64 0, .int .i64 0, .int .u32 0], 48, false⟩ := by rw [hH5_]; exact (Heap.get_push _ _ _).trans (if_pos rfl)
      obtain ⟨H6_, hH6_⟩ : ∃ x : Heap, x = H5_.put (H4_.n) ⟨[Value.int .i64 a, .int .i64 b, .int .i64 c, .int .i64 d, .int .u32 n], 48, false⟩ := ⟨_, rfl⟩
      have nH6_ : H6_.n = H5_.n := by rw [hH6_]; rfl
      refine cf_skip H6_ (by kernel_rfl) ((by kernel_rfl : _ = skp (astore T8 48 (.pointer (some ⟨H4_.n, 0, none⟩)) (.agg #[.int .i64 a, .int .i64 b, .int .i64 c, .int .i64 d, .int .u32 n]) H5_)).trans (by rw [astore_to gH5_H4__n (by kernel_rfl), ← hH6_]; rfl)) ?_
      refine cf_go 16 ?_
      have gH6_H4__n : H6_.get (H4_.n) = some ⟨[Value.int .i64 a, .int .i64 b, .int .i64 c, .int .i64 d, .int .u32 n], 48, false⟩ := by rw [hH6_]; exact (Heap.get_put _ _ _ _).trans (if_pos rfl)
      refine cf_val 19 (.agg #[.int .i64 a, .int .i64 b, .int .i64 c, .int .i64 d, .int .u32 n]) H6_ (by kernel_rfl) ((by kernel_rfl : _ = val (aload T8 48 (.pointer (some ⟨H4_.n, 0, none⟩)) H6_) H6_).trans (val_of ((aload_at gH6_H4__n).trans (by kernel_rfl)))) ?_
      obtain ⟨H7_, hH7_⟩ : ∃ x : Heap, x = H6_.push ⟨[Value.int .i64 a, .int .i64 b, .int .i64 c, .int .i64 d, .int .u32 n], 48, false⟩ := ⟨_, rfl⟩
      have nH7_ : H7_.n = H6_.n + 1 := by rw [hH7_]; rfl
      refine cf_val 20 (.slice (some ⟨H6_.n, 0, none⟩) 1 1) H7_ (by kernel_rfl) ((by kernel_rfl : _ = some (Res.val (.slice (some ⟨H6_.n, 0, none⟩) 1 1), H6_.push ⟨[Value.int .i64 a, .int .i64 b, .int .i64 c, .int .i64 d, .int .u32 n], 48, false⟩)).trans (by rw [← hH7_])) ?_
      have gH7_H6__n : H7_.get (H6_.n) = some ⟨[Value.int .i64 a, .int .i64 b, .int .i64 c, .int .i64 d, .int .u32 n], 48, false⟩ := by rw [hH7_]; exact (Heap.get_push _ _ _).trans (if_pos rfl)
      obtain ⟨ovH8_, H8_, hapH8_, hgrH8_, uH8_, frH8_, nH8_, hvH8_⟩ := aappend_gr (T := T8) (st := 22) (xt := 22) (e := 48) (xd := .slice 48) (s0 := 4) (by_ := 39) (z := .agg #[.int .i64 0, .int .i64 0, .int .i64 0, .int .i64 0, .int .u32 0]) (by kernel_rfl) (by kernel_rfl) rfl (by kernel_rfl) (by kernel_rfl) (by kernel_rfl) (lo := H.n) (hgr.keep (lo' := H.n) (by omega) (fun b hb1 hb2 => by rw [hH7_, Heap.get_push, if_neg (by omega), hH6_, Heap.get_put, if_neg (by omega), hH5_, Heap.get_push, if_neg (by omega), uH4_.get _ (by omega)])) (x := .slice (some ⟨H6_.n, 0, none⟩) 1 1) (asrc_blk (l := [Value.int .i64 a, .int .i64 b, .int .i64 c, .int .i64 d, .int .u32 n]) gH7_H6__n rfl rfl) rfl rfl (by omega) (Gr.ne hgr (by omega)) (by omega) (by omega)
      refine cf_val 21 ovH8_ H8_ (by kernel_rfl) ((by kernel_rfl : _ = val2 (aappend T8 22 22 ov (.slice (some ⟨H6_.n, 0, none⟩) 1 1) H7_)).trans (by rw [hapH8_]; rfl)) ?_
      refine cf_go 5 ?_
      obtain ⟨pt3_, cap3_, hs3_, hB3_, hC3_, hP3_⟩ := aslice_byts (T := T8) (t := 23) (e := 5) (by kernel_rfl) (by kernel_rfl) hB1 hC1 8 r.length (vlo := (some (.int .i64 (Int.ofNat 8)))) (vhi := none) (.inr rfl) (.inl ⟨rfl, rfl⟩) (by omega) (by omega)
      rw [List.take_length] at hB3_
      refine cf_val 23 (.slice pt3_ (r.length - 8) cap3_) H8_ (by kernel_rfl) (ha_sl (H := H8_) (t := 23) (x := .tmp 22) (lo := (some (.const (.int .i64 8)))) (hi := none) (mx := none) (u := (.slice pt r.length cap)) (l := (some (.int .i64 (Int.ofNat 8)))) (h := none) (m := none) (by kernel_rfl) (by kernel_rfl) (by kernel_rfl) (by kernel_rfl) (by kernel_rfl) (by kernel_rfl) hs3_ (by kernel_rfl)) ?_
      refine cf_go 3 ?_
      have hrd : (List.drop 8 r).length = r.length - 8 := by simp
      have hB9 : Byts H (.slice pt3_ (List.drop 8 r).length cap3_) (List.drop 8 r) := by rw [hrd]; exact hB3_
      have hC9 : CapV pt3_ (List.drop 8 r).length cap3_ := by rw [hrd]; exact hC3_
      have hgr9 : Gr H8_ H.n 48 5 ovH8_ (is.length + 1) (insC is ++ [.int .i64 a, .int .i64 b, .int .i64 c, .int .i64 d, .int .u32 n]) := hgrH8_
      have hq : r.length - 8 = (List.drop 8 r).length := by simp
      refine cf_inv Rr1 (by kernel_rfl) (hRr1 _ ⟨(List.drop 8 r).length, by rw [hrd]; omega, is ++ [(a, b, c, d, n)], List.drop 8 r, pt3_, cap3_, ovH8_, H8_, rfl, hdec.snoc (by omega) (by rw [hr]; exact hd), by rw [← hr]; simp [Nat.mul_add], hB9, hC9, ⟨by rw [← hq]; kernel_rfl, by kernel_rfl, True.intro⟩, by kernel_rfl, uH1.trans (show Up H.n H1 H8_ from ⟨by omega, fun b hb => by rw [uH8_.get _ (by omega), hH7_, Heap.get_push, if_neg (by omega), hH6_, Heap.get_put, if_neg (by omega), hH5_, Heap.get_push, if_neg (by omega), uH4_.get _ (by omega)]⟩), Gr.snoc hgr9, fun e => by simp at e⟩)
  · skip
    by_cases h0 : r.length = 0
    · skip
      refine cf_go 6 ?_
      refine cf_see 9 (.bool false) (see_bool (by kernel_rfl) ((decide_eq_false (by omega)) : ((decide (((r.length : Nat) : Int) ≥ 8))) = false)) ?_
      refine cf_go 14 ?_
      refine cf_see 27 (.bool true) (see_bool (by kernel_rfl) ((beq_iff_eq.2 (by omega)) : ((((r.length : Nat) : Int) == 0)) = true)) ?_
      refine cf_go 5 ?_
      refine cf_end (.tuple #[ov, .bool true]) H1 (by kernel_rfl) (by kernel_rfl) (by kernel_rfl) ?_
      exact ⟨is, ov, uH1.trans (Up.refl H1 : Up H.n H1 H1), hdec, .inl ⟨by omega, rfl, hgr, hnil⟩⟩
    · skip
      refine cf_go 6 ?_
      refine cf_see 9 (.bool false) (see_bool (by kernel_rfl) ((decide_eq_false (by omega)) : ((decide (((r.length : Nat) : Int) ≥ 8))) = false)) ?_
      refine cf_go 14 ?_
      refine cf_see 27 (.bool false) (see_bool (by kernel_rfl) ((beq_eq_false_iff_ne.2 (by omega)) : ((((r.length : Nat) : Int) == 0)) = false)) ?_
      refine cf_go 5 ?_
      refine cf_end (.tuple #[ov, .bool false]) H1 (by kernel_rfl) (by kernel_rfl) (by kernel_rfl) ?_
      exact ⟨is, ov, uH1.trans (Up.refl H1 : Up H.n H1 H1), hdec, .inr ⟨by omega, by rw [hr, readL_ne (by simp; omega)]; simp, _, rfl⟩⟩
end Hm
end Go.Proofs.Ytjhijpfbokklcaa
