/- Memory under other names: from what comes in to a contract. -/
import Derived.Test.YtahikechkggbfaaEvMh
import Derived.Test.YtahikechkggbfaaEvRo
import Derived.ChangeShapes
import Derived.WideShapes
namespace Go.Ev
open Go Go.RowKit Go.ChangeShapes Go.WideShapes
set_option linter.unusedVariables false
set_option linter.unusedSimpArgs false
theorem tab_map {α : Type} (f : α → Value) (l : List α) : tab (fun x => [f x]) l = l.map f := by
  unfold tab
  induction l with
  | nil => rfl
  | cons a l ih => rw [List.flatMap_cons, ih]; rfl
/-- A value of a small memory and one that came in. -/
def RV (e : Em) (m : Map) (v v' : Value) : Prop := ∃ u, RN e v u ∧ VR m u v'
def RVs (e : Em) (m : Map) : List Value → List Value → Prop
  | [], [] => True
  | v :: l, v' :: l' => RV e m v v' ∧ RVs e m l l'
  | _, _ => False
theorem RV.mono {e e1 : Em} {m m1 : Map} (he : e.le e1) (hm : m.le m1) {v v' : Value} (h : RV e m v v') : RV e1 m1 v v' :=
  let ⟨u, h1, h2⟩ := h; ⟨u, h1.mono he, h2.mono hm⟩
theorem RV.same {e : Em} {m : Map} {v : Value} (h : plain v = true) : RV e m v v := ⟨v, .same h, .same h⟩
theorem RVs.spec {e : Em} {m : Map} : ∀ {l l' : List Value}, RVs e m l l' → ∃ us, RNs e l us ∧ VRs m us l' := by
  intro l
  induction l with
  | nil => intro l' h; cases l' with
    | nil => exact ⟨[], RNs.nil, VRs.nil⟩
    | cons => exact h.elim
  | cons v l ih => intro l' h; cases l' with
    | nil => exact h.elim
    | cons v' l' =>
      obtain ⟨⟨u, h1, h2⟩, h3⟩ := h
      obtain ⟨us, h4, h5⟩ := ih h3
      exact ⟨u :: us, RNs.cons h1 h4, VRs.cons h2 h5⟩
theorem RV.agg {e : Em} {m : Map} {l l' : List Value} (h : RVs e m l l') : RV e m (.agg ⟨l⟩) (.agg ⟨l'⟩) := by
  obtain ⟨us, h1, h2⟩ := h.spec
  exact ⟨.agg ⟨us⟩, RNs.agg (xs := ⟨l⟩) (ys := ⟨us⟩) h1, VRs.agg (xs := ⟨us⟩) (ys := ⟨l'⟩) h2⟩
/-- Memory that came in, as a small one sees it. -/
structure SRep [Bs] (P : Program) (obs : List (Option Ob)) (l : List (Option Nat)) (m : Map) (H : Heap) (W : World) : Prop where
  rep : RoRep P m H W
  hn : HN (emOf l) (hq obs) H
  len : l.length = obs.length
theorem SRep.start [Bs] {P : Program} {W : World} (hw : OnBs W) : SRep P [] [] (fun _ => none) ⟨.lf, 0⟩ W :=
  ⟨RoRep.start hw, ⟨fun b o h => (by simp [hq_get] at h), fun b x h => (by simp [emOf] at h), fun b c h => (by simp [emOf] at h), fun b c o h => (by simp [hq_get] at h), fun b o h => (by simp [hq_get] at h), fun b1 b2 c h => (by simp [emOf] at h)⟩, rfl⟩
theorem emOf_le (l : List (Option Nat)) (x : Option Nat) : (emOf l).le (emOf (l ++ [x])) := fun b y h => by
  have hb : b < l.length := (List.getElem?_eq_some_iff.1 h).1
  show (l ++ [x])[b]? = some y
  rw [List.getElem?_append_left hb]; exact h
theorem emOf_snoc {l : List (Option Nat)} {x : Option Nat} {b : Nat} {y : Option Nat} (h : emOf (l ++ [x]) b = some y) : (b < l.length ∧ emOf l b = some y) ∨ (b = l.length ∧ y = x) := by
  have hb : b < (l ++ [x]).length := (List.getElem?_eq_some_iff.1 h).1
  simp at hb
  by_cases hl : b < l.length
  · rw [show emOf (l ++ [x]) b = (l ++ [x])[b]? from rfl, List.getElem?_append_left hl] at h
    exact .inl ⟨hl, h⟩
  · have : b = l.length := by omega
    subst this
    simp at h
    exact .inr ⟨rfl, h.symm⟩
theorem hq_snoc {obs : List (Option Ob)} {x : Option Ob} {b : Nat} {o : Ob} (h : (hq (obs ++ [x])).get b = some o) : (b < obs.length ∧ (hq obs).get b = some o) ∨ (b = obs.length ∧ x = some o) := by
  have h := hq_some h
  have hb : b < (obs ++ [x]).length := (List.getElem?_eq_some_iff.1 h).1
  simp at hb
  by_cases hl : b < obs.length
  · rw [List.getElem?_append_left hl] at h
    exact .inl ⟨hl, by rw [hq_get, h]⟩
  · have : b = obs.length := by omega
    subst this
    simp at h
    exact .inr ⟨rfl, h⟩
/-- One slice more. -/
theorem SRep.row [Bs] {P : Program} {T : Tab} (hP : ProgOk P T) {obs : List (Option Ob)} {l : List (Option Nat)} {m : Map} {H : Heap} {W : World} (h : SRep P obs l m H W) {e : TypeId} {es : Nat} (hs : T.size e = some es) {A : Option Addr} {cells : List Value} {len cap : Nat} (hA : RowW W A cells) (hp : cells.all plain = true) (hl : A = none → len = 0) (hlen : cells.length = len * es) (hes : 0 < es) (hcap : len ≤ cap) :
    ∃ (x : Option Nat) (m' : Map) (H' : Heap), SRep P (obs ++ [some ⟨cells, e, true⟩]) (l ++ [x]) m' H' W ∧ m.le m' ∧ (emOf l).le (emOf (l ++ [x])) ∧ RV (emOf (l ++ [x])) m' (.slice (some ⟨obs.length, 0, none⟩) len (unk + es)) (.slice A len (if A = none then 0 else cap)) := by
  obtain ⟨inf, hinf, hsz⟩ := hP.tab.size e es hs
  have hle := fun x => emOf_le l x
  have ghost : cells = [] → A = none → len = 0 → ∃ (x : Option Nat) (m' : Map) (H' : Heap), SRep P (obs ++ [some ⟨cells, e, true⟩]) (l ++ [x]) m' H' W ∧ m.le m' ∧ (emOf l).le (emOf (l ++ [x])) ∧ RV (emOf (l ++ [x])) m' (.slice (some ⟨obs.length, 0, none⟩) len (unk + es)) (.slice A len (if A = none then 0 else cap)) := by
    rintro rfl rfl rfl
    refine ⟨none, m, H, ⟨h.rep, ⟨fun b o q => ?_, fun b y q => ?_, fun b c q => ?_, fun b c o q1 q2 => ?_, fun b o q1 q2 => ?_, fun b1 b2 c q1 q2 l1 l2 => ?_⟩, by simp [h.len]⟩, fun _ _ q => q, hle none, .slice none 0 0, .nils (by show (l ++ [none])[obs.length]? = _; rw [← h.len]; simp) (by omega), by rw [if_pos rfl]; exact .same rfl⟩
    · have := hq_wf _ _ _ q; exact this
    · rcases emOf_snoc q with ⟨q1, _⟩ | ⟨q1, _⟩ <;> (rw [hq_n]; simp; have := h.len; omega)
    · rcases emOf_snoc q with ⟨_, q2⟩ | ⟨_, q2⟩
      · exact h.hn.rng _ _ q2
      · cases q2
    · rcases emOf_snoc q2 with ⟨q3, q4⟩ | ⟨_, q4⟩
      · rcases hq_snoc q1 with ⟨_, q5⟩ | ⟨q5, _⟩
        · obtain ⟨cs, g1, g2⟩ := h.hn.blk _ _ _ q5 q4
          exact ⟨cs, g1, g2.mono (hle none)⟩
        · have := h.len; omega
      · cases q4
    · rcases emOf_snoc q2 with ⟨q3, q4⟩ | ⟨q3, q4⟩
      · rcases hq_snoc q1 with ⟨_, q5⟩ | ⟨q5, _⟩
        · exact h.hn.gh _ _ q5 q4
        · have := h.len; omega
      · rcases hq_snoc q1 with ⟨q5, _⟩ | ⟨_, q5⟩
        · have := h.len; omega
        · cases q5; rfl
    · rcases emOf_snoc q1 with ⟨a1, a2⟩ | ⟨_, a2⟩
      · rcases emOf_snoc q2 with ⟨b1', b2'⟩ | ⟨_, b2'⟩
        · have lv : ∀ b, b < l.length → ((hq (obs ++ [some ⟨[], e, true⟩])).get b).isSome → ((hq obs).get b).isSome := fun b hb hv => by
            obtain ⟨o, ho⟩ := Option.isSome_iff_exists.1 hv
            rcases hq_snoc ho with ⟨_, q5⟩ | ⟨q5, _⟩
            · rw [q5]; rfl
            · have := h.len; omega
          exact h.hn.inj _ _ _ a2 b2' (lv _ a1 l1) (lv _ b1' l2)
        · cases b2'
      · cases a2
  have some_ : ∀ (b off : Nat), A = some ⟨b, off, none⟩ → (∃ L : Ev.Loc, BlkOk P m ⟨cells, e, true⟩ L W ∧ L.c = b ∧ L.esz = es ∧ off + cap * es ≤ L.sz ∧ (len = 0 ∨ off = L.o)) → ∃ (x : Option Nat) (m' : Map) (H' : Heap), SRep P (obs ++ [some ⟨cells, e, true⟩]) (l ++ [x]) m' H' W ∧ m.le m' ∧ (emOf l).le (emOf (l ++ [x])) ∧ RV (emOf (l ++ [x])) m' (.slice (some ⟨obs.length, 0, none⟩) len (unk + es)) (.slice A len (if A = none then 0 else cap)) := by
    rintro b off rfl ⟨L, hk, rfl, rfl, hsz2, hoff⟩
    obtain ⟨k1, k2⟩ := h.rep.push (o := ⟨cells, e, true⟩) (L := L) rfl hk
    have hn1 : (H.push ⟨cells, e, true⟩).n = H.n + 1 := Heap.n_push ..
    have hin : ∀ b c, emOf (l ++ [some H.n]) b = some (some c) → (b < l.length ∧ emOf l b = some (some c)) ∨ (b = l.length ∧ c = H.n) := fun b c q => by
      rcases emOf_snoc q with q | ⟨q1, q2⟩
      · exact .inl q
      · cases q2; exact .inr ⟨q1, rfl⟩
    refine ⟨some H.n, _, _, ⟨k1, ⟨fun b o q => ?_, fun b y q => ?_, fun b c q => ?_, fun b c o q1 q2 => ?_, fun b o q1 q2 => ?_, fun b1 b2 c q1 q2 l1 l2 => ?_⟩, by simp [h.len]⟩, k2, hle _, .slice (some ⟨H.n, 0, none⟩) len (unk + L.esz), .slice (by show (l ++ [some H.n])[obs.length]? = _; rw [← h.len]; simp), ?_⟩
    · exact hq_wf _ _ _ q
    · rcases emOf_snoc q with ⟨q1, _⟩ | ⟨q1, _⟩ <;> (rw [hq_n]; simp; have := h.len; omega)
    · rw [hn1]
      rcases hin b c q with ⟨_, q2⟩ | ⟨_, rfl⟩
      · have := h.hn.rng _ _ q2; omega
      · omega
    · rcases hin b c q2 with ⟨q3, q4⟩ | ⟨q3, rfl⟩
      · rcases hq_snoc q1 with ⟨_, q5⟩ | ⟨q5, _⟩
        · obtain ⟨cs, g1, g2⟩ := h.hn.blk _ _ _ q5 q4
          have := h.hn.rng _ _ q4
          exact ⟨cs, by rw [Heap.get_push, if_neg (by omega)]; exact g1, g2.mono (hle _)⟩
        · have := h.len; omega
      · rcases hq_snoc q1 with ⟨q5, _⟩ | ⟨_, q5⟩
        · have := h.len; omega
        · cases q5
          exact ⟨cells, by rw [Heap.get_push, if_pos rfl], RNs.of_plain hp⟩
    · rcases emOf_snoc q2 with ⟨q3, q4⟩ | ⟨q3, q4⟩
      · rcases hq_snoc q1 with ⟨_, q5⟩ | ⟨q5, _⟩
        · exact h.hn.gh _ _ q5 q4
        · have := h.len; omega
      · cases q4
    · have lv : ∀ b, b < l.length → ((hq (obs ++ [some ⟨cells, e, true⟩])).get b).isSome → ((hq obs).get b).isSome := fun b hb hv => by
        obtain ⟨o, ho⟩ := Option.isSome_iff_exists.1 hv
        rcases hq_snoc ho with ⟨_, q5⟩ | ⟨q5, _⟩
        · rw [q5]; rfl
        · have := h.len; omega
      rcases hin _ _ q1 with ⟨a1, a2⟩ | ⟨a1, a2⟩
      · rcases hin _ _ q2 with ⟨b1', b2'⟩ | ⟨b1', b2'⟩
        · exact h.hn.inj _ _ _ a2 b2' (lv _ a1 l1) (lv _ b1' l2)
        · have := h.hn.rng _ _ a2; omega
      · rcases hin _ _ q2 with ⟨b1', b2'⟩ | ⟨b1', b2'⟩
        · have := h.hn.rng _ _ b2'; omega
        · omega
    · rw [if_neg (by simp)]
      refine .slice (L := L) (by simp) (.inr ⟨rfl, hcap, hsz2, ?_⟩)
      rcases hoff with q | q
      · exact .inl q
      · exact .inr (by omega)
  rcases hA.at_ with ⟨rfl, rfl⟩ | ⟨b, off, cs, e', fz, rfl, h1, h2, h3⟩
  · exact ghost rfl rfl (hl rfl)
  · rcases h2 with rfl | h2
    · have hl0 : len = 0 := by
        have q : len * es = 0 := hlen.symm
        rcases Nat.mul_eq_zero.1 q with q | q
        · exact q
        · omega
      exact some_ b off rfl ⟨Ev.Loc.mk b 0 (off + cap * es) es, ⟨cs, e', fz, h1, by simp, fun i x hx => by simp at hx, fun h => by simp at h, inf, hinf, hsz⟩, rfl, rfl, Nat.le_refl _, .inl hl0⟩
    · exact some_ b off rfl ⟨Ev.Loc.mk b off (off + cap * es) es, ⟨cs, e', fz, h1, by simpa using h2, fun i x hx => ⟨x, h3 i x hx, .same (List.all_eq_true.1 hp x (List.mem_of_getElem? hx))⟩, fun h => by simp at h, inf, hinf, hsz⟩, rfl, rfl, Nat.le_refl _, .inr rfl⟩
/-- A slice that came in: its cells, its length. -/
structure InRow (W : World) (v : Value) (cells : List Value) (len : Nat) : Prop where
  ex : ∃ A cap, v = .slice A len cap ∧ (A = none → cap = 0) ∧ RowW W A cells ∧ (A = none → len = 0) ∧ len ≤ cap ∧ cap ≤ maxLen
theorem InRow.len {W : World} {v : Value} {cells : List Value} {len : Nat} (h : InRow W v cells len) : len ≤ maxLen := by
  obtain ⟨A, cap, _, _, _, _, h1, h2⟩ := h.ex; omega
theorem in_ints {P : Program} {H : Type} {enc : TypeId × Value → H} {W : World} {r : Reach} {b0 : Nat} {t e : TypeId} {kd : IntKind} (ht : P.underlying t = some (.slice e)) (he : P.underlying e = some (.int kd)) (h1 : P.cellsOf e = 1) {ec : Int → List Value} (hec : ∀ x, ec x = [.int kd x]) {v : Value} {d : DataW H} {ps : List MemPlace} (hv : Value.okWide P W r b0 t v) (h : DataW.Trod enc P W 0 (fun _ => true) true t v d ps) :
    ∃ l : List Int, InRow W v (tab ec l) l.length ∧ (∀ x ∈ l, (Lit.int kd x).wf = true) := by
  have hec2 : ec = fun x => [.int kd x] := funext hec
  subst hec2
  have key : ∀ (A : Option Addr) (cap : Nat) (l : List Int), v = .slice A l.length cap → RowW W A (l.map (Value.int kd)) → l.length ≤ cap → cap ≤ maxLen → (A = none → cap = 0) → InRow W v (tab (fun x => [.int kd x]) l) l.length := fun A cap l e q hl hm hc => by
    refine ⟨A, cap, e, hc, by rw [tab_map]; exact q, fun hA => ?_, hl, hm⟩
    have := hc hA; omega
  obtain ⟨a0, len, cap, rfl⟩ := okWide_slice ht hv
  obtain ⟨fuel, hf⟩ := h
  rcases open_ints ht he h1 hf with ⟨hcs, hx⟩ | ⟨a, len', cap', zs, hcs, _, hl, hm, hz, hx, hcell, hwz⟩
  · simp [Value.cells] at hcs
    obtain ⟨rfl, rfl, rfl⟩ := hcs
    exact ⟨[], key none 0 [] rfl ⟨.inl ⟨rfl, rfl⟩⟩ (by simp) (by unfold maxLen; omega) (fun _ => rfl), fun _ h => (by cases h)⟩
  · simp [Value.cells] at hcs
    obtain ⟨rfl, rfl, rfl⟩ := hcs
    simp only [if_true] at hz
    have hlen : (zs.take len).length = len := by simp; omega
    obtain ⟨hspot, hb⟩ := has_block ht hv
    refine ⟨zs.take len, key (some a) cap (zs.take len) (by rw [hlen]) (RowW.of_cells hspot hb fun i x hx => ?_) (by rw [hlen]; exact hl) hm (fun h => by cases h), fun x hx => hwz x (List.mem_of_mem_take hx)⟩
    rw [List.getElem?_map, List.getElem?_take] at hx
    split at hx
    · rename_i hi
      have hc := hcell i (by omega)
      rw [hc, List.getD_eq_getElem?_getD]
      cases hz2 : zs[i]? with
      | none => rw [hz2] at hx; cases hx
      | some y => rw [hz2] at hx; exact hx
    · cases hx
theorem SRep.in_ [Bs] {P : Program} {T : Tab} (hP : ProgOk P T) {obs : List (Option Ob)} {l : List (Option Nat)} {m : Map} {H : Heap} {W : World} (h : SRep P obs l m H W) {e : TypeId} {es : Nat} (hs : T.size e = some es) {v : Value} {cells : List Value} {len : Nat} (hA : InRow W v cells len) (hp : cells.all plain = true) (hlen : cells.length = len * es) (hes : 0 < es) :
    ∃ (x : Option Nat) (m' : Map) (H' : Heap), SRep P (obs ++ [some ⟨cells, e, true⟩]) (l ++ [x]) m' H' W ∧ m.le m' ∧ (emOf l).le (emOf (l ++ [x])) ∧ RV (emOf (l ++ [x])) m' (.slice (some ⟨obs.length, 0, none⟩) len (unk + es)) v := by
  obtain ⟨A, cap, rfl, hc, hA, hl, h1, h2⟩ := hA.ex
  obtain ⟨x, m', H', g1, g2, g3, g4⟩ := h.row hP hs hA hp hl hlen hes h1
  refine ⟨x, m', H', g1, g2, g3, ?_⟩
  split at g4
  · rename_i q; rw [hc q]; exact g4
  · exact g4
theorem wf_i64 {n : Int} (h : (Lit.int .i64 n).wf = true) : -9223372036854775808 ≤ n ∧ n ≤ 9223372036854775807 := by
  simp [Lit.wf, IntKind.min, IntKind.max, IntKind.signed, IntKind.bits] at h; omega
theorem wf_u32 {n : Int} (h : (Lit.int .u32 n).wf = true) : 0 ≤ n ∧ n < 4294967296 := by
  simp [Lit.wf, IntKind.min, IntKind.max, IntKind.signed, IntKind.bits] at h; omega
theorem wf_u64 {n : Int} (h : (Lit.int .u64 n).wf = true) : 0 ≤ n ∧ n < 18446744073709551616 := by
  simp [Lit.wf, IntKind.min, IntKind.max, IntKind.signed, IntKind.bits] at h; omega
theorem wf_u8 {n : Int} (h : (Lit.int .u8 n).wf = true) : 0 ≤ n ∧ n < 256 := by
  simp [Lit.wf, IntKind.min, IntKind.max, IntKind.signed, IntKind.bits] at h; omega
theorem calls_s [Bs] {P : Program} {T : Tab} (hP : ProgOk P T) {f : FuncId} {args args' : Array Value} {v : Value} {obs : List (Option Ob)} {l : List (Option Nat)} {m : Map} {H : Heap} {W : World} {R : Value → Heap → Prop} (hc : SCall P T f args (hq obs) R) (hR : ∀ r h, R r h → r = v) (hv : closed v = true) (hr : SRep P obs l m H W) (ha : RVs (emOf l) m args.toList args'.toList) : Calls P f args' W fun e w' => e = .returned v ∧ Below W.heap.size W w' := by
  obtain ⟨us, h1, h2⟩ := ha.spec
  refine calls_ro hP (args := us.toArray) ?_ hv hr.rep (by simpa using h2)
  exact hc.at_ (emOf l) hr.hn (by simpa using h1) fun w h1 e1 v' H1 h _ _ hrn => by
    have := hR _ _ h
    subst this
    exact hrn.closed_eq hv
end Go.Ev
