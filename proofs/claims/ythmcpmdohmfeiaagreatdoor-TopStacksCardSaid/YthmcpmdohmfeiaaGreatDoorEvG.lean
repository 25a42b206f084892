/- append, copy, conversions, what is left to the model's own run, and calls. -/
import Derived.Test.YthmcpmdohmfeiaaGreatDoorEvF
namespace Go.Ev
open Go
set_option linter.unusedVariables false
set_option linter.unusedSimpArgs false
/-- What is appended or copied, in memory. -/
structure SrcOk (m : Map) (w : World) (size n : Nat) (x' : Value) (new new' : List Value) : Prop where
  len : Builtin.lenOf x' = Sem.pure n
  cells : ∀ (P : Program) (k : Nat), (Builtin.firstCells size n x').run P { w with drawn := k } = .ok new'.toArray { w with drawn := k }
  vrs : VRs m new new'
  newLen : new.length = n * size
  holds : 0 < n → ∀ b l c, x' = .slice (some b) l c → Room.holdsV w b (n * size) = true
theorem holdsV_ok {w : World} {c : Nat} {cs : Array Value} {e : TypeId} {fz : Nat × Nat} (h : w.heap[c]? = some (.cells cs e fz)) (o k : Nat) (hk : o + k ≤ cs.size) : Room.holdsV w ⟨c, o, none⟩ k = true := by
  simp [Room.holdsV, World.shape?, h, hk]
theorem cells_take {P : Program} {m : Map} {o : Ob} {L : Loc} {w : World} (h : CelOk P m o L w) (off n : Nat) (hn : ((o.cells.drop off).take n).length = n) :
    ∃ l, VRs m ((o.cells.drop off).take n) l ∧ l.length = n ∧ (∀ (i : Nat) (y : Value), l[i]? = some y → w.cell? ⟨L.c, L.o + off + i, none⟩ = some y) ∧ (0 < n → off + n ≤ o.cells.length) := by
  obtain ⟨l, hl, hc⟩ := h.row
  have hv := (hl.drop off).take n
  refine ⟨(l.drop off).take n, hv, by rw [← hv.1]; exact hn, fun i y hy => ?_, fun h0 => by simp at hn; omega⟩
  rw [List.getElem?_take] at hy
  split at hy
  · rw [List.getElem?_drop] at hy
    have := hc _ _ hy
    rwa [← Nat.add_assoc] at this
  · cases hy
theorem cell_drew (w : World) (k : Nat) (a : Addr) : World.cell? { w with drawn := k } a = w.cell? a := rfl
theorem asrc_sound [Bs] {P : Program} {m : Map} {H : Heap} {w : World} {size n : Nat} {x x' : Value} {new : List Value} (hs : 0 < size) (h : asrc size x H = some (n, new)) (hr : Rep P m H w) (hx : VR m x x') :
    ∃ new', SrcOk m w size n x' new new' := by
  unfold asrc at h
  split at h
  · rename_i n0 c
    cases hb : n0.beq 0
    · rw [hb] at h; cases h
    · rw [hb] at h
      cases h
      have : n0 = 0 := by simpa using hb
      subst this
      rw [hx.plain_eq rfl]
      exact ⟨[], rfl, fun P k => rfl, VRs.nil, by simp, fun _ b l c h => by cases h⟩
  · rename_i b off n0 c
    split at h
    · rename_i o ho
      cases hb : ((o.cells.drop off).take (n0 * size)).length.beq (n0 * size)
      · simp only [hb, cond_false] at h; cases h
      · simp only [hb, cond_true] at h
        cases h
        cases hx with
        | same h => simp [plain] at h
        | slice hm hmp hc =>
          rename_i q c' L
          have hlen : ((o.cells.drop off).take (n * size)).length = n * size := by simpa using hb
          obtain ⟨l, h1, h2, h3, h4⟩ := cells_take ((hr.blk b L o hm ho).cel hmp) off (n * size) hlen
          by_cases h0 : n = 0
          · subst h0
            have hl : l = [] := List.eq_nil_of_length_eq_zero (by simpa using h2)
            subst hl
            refine ⟨[], rfl, fun P k => ?_, h1, by simp, fun h0 => absurd h0 (by omega)⟩
            simp [Builtin.firstCells, loadCells, loadCellsFrom]
          · have hq : q = L.o + off := by
              rcases hc with ⟨_, _, h⟩ | ⟨_, _, _, h⟩
              · exact h
              · omega
            subst hq
            have h5 := h4 (Nat.mul_pos (by omega) hs)
            refine ⟨l, rfl, fun P k => ?_, h1, hlen, fun _ b' l' c'' he => ?_⟩
            · have := run_firstCells_some (P := P) { w with drawn := k } size n ⟨L.c, L.o + off, none⟩ n c' l h2 (fun j y hy => by rw [Addr.add_mid]; exact h3 j y hy)
              simpa using this
            · cases he
              obtain ⟨cs, e, fz, k1, k2, _⟩ := (hr.blk b L o hm ho).cel hmp
              exact holdsV_ok k1 _ _ (by omega)
    · cases h
  · rename_i s
    cases hb : size.beq 1
    · rw [hb] at h; cases h
    · rw [hb] at h
      cases h
      have : size = 1 := by simpa using hb
      subst this
      rw [hx.plain_eq rfl]
      refine ⟨_, rfl, fun P k => ?_, VRs.of_closed (l := s.data.toList.map fun b => .int .u8 b.toNat) (by simp only [List.all_map, List.all_eq_true]; intro b _; rfl), by simp, fun _ b l c h => by cases h⟩
      have : s.extract 0 s.size = s := by apply ByteArray.ext; simp [ByteArray.data_extract]
      simp [Builtin.firstCells, this]
      apply Array.ext'
      simp
  · cases h
theorem mayShare_no {P : Program} (w : World) (size sLen n : Nat) (base : Option Addr) (x : Value) (hb : ∀ a, base = some a → Room.holdsV w a (sLen * size) = true ∧ w.frozen? (a.add (sLen / 2 * size)) = false)
    (hx : ∀ b l c, x = .slice (some b) l c → Room.holdsV w b (n * size) = true ∧ ∀ a, base = some a → a.block ≠ b.block) :
    (Builtin.mayShare size sLen n base x).runT P w #[] = (.ok false w, #[]) := by
  cases base with
  | none =>
    cases x with
    | slice b l c =>
      cases b with
      | none => simp [-Sem.runT_eq, Builtin.mayShare, Room.Sem.bind_def, Room.Sem.runT_bind, Room.Sem.runT_pure']
      | some b =>
        obtain ⟨h1, _⟩ := hx b l c rfl
        simp [-Sem.runT_eq, Builtin.mayShare, Room.Sem.bind_def, Room.Sem.runT_bind, Room.runT_holdsCells', Room.Sem.runT_pure', h1]
    | _ => simp [-Sem.runT_eq, Builtin.mayShare, Room.Sem.bind_def, Room.Sem.runT_bind, Room.Sem.runT_pure']
  | some a =>
    obtain ⟨h1, h2⟩ := hb a rfl
    cases x with
    | slice b l c =>
      cases b with
      | none => simp [-Sem.runT_eq, Builtin.mayShare, Room.Sem.bind_def, frozen, Sem.bind, Sem.runT, Room.Sem.runT_bind, Room.runT_holdsCells', Room.Sem.runT_pure', h1, h2]
      | some b =>
        obtain ⟨h3, h4⟩ := hx b l c rfl
        have h5 := h4 a rfl
        simp [-Sem.runT_eq, Builtin.mayShare, Room.Sem.bind_def, frozen, Sem.bind, Sem.runT, Room.Sem.runT_bind, Room.runT_holdsCells', Room.Sem.runT_pure', h1, h2, h3, h5]
    | _ => simp [-Sem.runT_eq, Builtin.mayShare, Room.Sem.bind_def, frozen, Sem.bind, Sem.runT, Room.Sem.runT_bind, Room.runT_holdsCells', Room.Sem.runT_pure', h1, h2]
/-- An append that has no room. -/
theorem grow_run {P : Program} {m : Map} {w : World} {t tx ty e : TypeId} {d : TypeDesc} {i : TypeInfo} {z : Value} (ht : P.underlying t = some (.slice e)) (htx : P.underlying tx = some d) (hd : isIntD d = false)
    (hi : P.info? e = some i) (hz : i.zero = some z) (hb0 : 0 < i.bytes) {base : Option Addr} {sLen sCap n : Nat} {x' : Value} {old' new new' : List Value} (hs : SrcOk m w i.size n x' new new') (hn : 0 < n) (hg : sCap < sLen + n)
    (hold : ∀ k : Nat, (Builtin.firstCells i.size sLen (.slice base sLen sCap)).run P { w with drawn := k } = .ok old'.toArray { w with drawn := k })
    (hB : (sLen + n) * i.bytes ≤ 140737488355328) :
    (∃ cap k, sLen + n ≤ cap ∧ (Builtin.append_ #[t, tx] ty #[.slice base sLen sCap, x']).run P w =
      .ok (.slice (some ⟨w.heap.size, 0, none⟩) (sLen + n) cap) (({ w with drawn := k } : World).alloc (.cells (old'.toArray ++ new'.toArray ++ Builtin.zeroCells z.cells (cap - (sLen + n))) e))) := by
  have hdk : ∀ k, d ≠ .int k := fun k e => by subst e; simp [isIntD] at hd
  have hzz : (match d with | .int _ => true | _ => false) = false := by cases d <;> first | rfl | exact absurd rfl (hdk _)
  have hp : Builtin.nextslicecap (sLen + n) sCap * i.bytes ≤ 281474976710656 := growslice_fits (by omega) hB
  · have hnb : (sLen + n) * i.bytes ≤ 281474976710656 := Nat.le_trans (Nat.mul_le_mul_right _ (le_nextslicecap (by omega))) hp
    have h63 : ((sLen + n : Nat) : Int) ≤ 9223372036854775807 := by
      have : sLen + n ≤ (sLen + n) * i.bytes := Nat.le_mul_of_pos_right _ hb0
      omega
    have hroom : ¬ (sLen + n ≤ sCap) := by omega
    have h63' : ¬ (9223372036854775807 < ((sLen : Int) + (n : Int))) := by omega
    have h48' : ¬ (281474976710656 < Builtin.nextslicecap (sLen + n) sCap * i.bytes) := by omega
    have hq : (Question.appendCap (sLen + n) sCap e).forced = false := rfl
    refine ⟨grownCap w (sLen + n) sCap e, w.drawn + 1, grownCap_ge w _ _ _, ?_⟩
    have h1 : (Builtin.firstCells i.size sLen (.slice base sLen sCap)).run P w.drew = .ok old'.toArray w.drew := hold (w.drawn + 1)
    have h2 : (Builtin.firstCells i.size n x').run P w.drew = .ok new'.toArray w.drew := hs.cells P (w.drawn + 1)
    simp [Builtin.append_, run_underlying ht, run_underlying htx, hzz, sizeOf, typeInfo, hi, hs.len, hroom, h63', h48', hq, h1, h2, zeroValue, hz, newRow, grownCap]
    congr 2
    apply Array.ext'
    simp
/-- An append that has room. -/
theorem room_run {P : Program} {m : Map} {w w' : World} {t tx ty e : TypeId} {d : TypeDesc} {i : TypeInfo} (ht : P.underlying t = some (.slice e)) (htx : P.underlying tx = some d) (hd : isIntD d = false)
    (hi : P.info? e = some i) {a : Addr} {sLen sCap n : Nat} {x' : Value} {new new' : List Value} (hs : SrcOk m w i.size n x' new new') (hroom : sLen + n ≤ sCap)
    (hst : (storeCells (a.add (sLen * i.size)) new').run P w = .ok () w') :
    (Builtin.append_ #[t, tx] ty #[.slice (some a) sLen sCap, x']).run P w = .ok (.slice (some a) (sLen + n) sCap) w' := by
  have hdk : ∀ k, d ≠ .int k := fun k e => by subst e; simp [isIntD] at hd
  have hzz : (match d with | .int _ => true | _ => false) = false := by cases d <;> first | rfl | exact absurd rfl (hdk _)
  have h2 : (Builtin.firstCells i.size n x').run P w = .ok new'.toArray w := hs.cells P w.drawn
  simp [Builtin.append_, run_underlying ht, run_underlying htx, hzz, sizeOf, typeInfo, hi, hs.len, hroom, h2, hst]
theorem nil_run {P : Program} {m : Map} {w : World} {t tx ty e : TypeId} {d : TypeDesc} {i : TypeInfo} (ht : P.underlying t = some (.slice e)) (htx : P.underlying tx = some d) (hd : isIntD d = false)
    (hi : P.info? e = some i) {x' : Value} {new new' : List Value} (hs : SrcOk m w i.size 0 x' new new') :
    (Builtin.append_ #[t, tx] ty #[.slice none 0 0, x']).run P w = .ok (.slice none 0 0) w := by
  have hdk : ∀ k, d ≠ .int k := fun k e => by subst e; simp [isIntD] at hd
  have hzz : (match d with | .int _ => true | _ => false) = false := by cases d <;> first | rfl | exact absurd rfl (hdk _)
  have h2 : (Builtin.firstCells i.size 0 x').run P w = .ok new'.toArray w := hs.cells P w.drawn
  simp [Builtin.append_, run_underlying ht, run_underlying htx, hzz, sizeOf, typeInfo, hi, hs.len, h2]
/-- Where the grown row stands. -/
theorem grown_ok [Bs] {P : Program} {m : Map} {H : Heap} {w : World} (hr : Rep P m H w) {e : TypeId} {i : TypeInfo} {z : Value} (hi : P.info? e = some i) (hz : z.cells.size = i.size) {old old' new new' : List Value} {len n cap k : Nat}
    (ho : VRs m old old') (hn : VRs m new new') (hol : old.length = len * i.size) (hnl : new.length = n * i.size) (hc : len + n ≤ cap) :
    ∃ m', VR m' (.slice (some ⟨H.n, 0, none⟩) (len + n) (unk + i.size)) (.slice (some ⟨w.heap.size, 0, none⟩) (len + n) cap) ∧
      Rep P m' (H.push ⟨old ++ new, e, false⟩) (({ w with drawn := k } : World).alloc (.cells (old'.toArray ++ new'.toArray ++ Builtin.zeroCells z.cells (cap - (len + n))) e)) ∧
      Fr m H w m' (H.push ⟨old ++ new, e, false⟩) (({ w with drawn := k } : World).alloc (.cells (old'.toArray ++ new'.toArray ++ Builtin.zeroCells z.cells (cap - (len + n))) e)) := by
  have hsz : (old'.toArray ++ new'.toArray ++ Builtin.zeroCells z.cells (cap - (len + n))).size = cap * i.size := by
    simp only [Array.size_append, List.size_toArray, size_zeroCells, hz, ← ho.1, ← hn.1, hol, hnl, ← Nat.add_mul]
    congr 1; omega
  have hv := ho.append hn
  have hp := push_sound (hr.drew k) ⟨old ++ new, e, false⟩ (old'.toArray ++ new'.toArray ++ Builtin.zeroCells z.cells (cap - (len + n))) rfl i hi
    (by have := hv.1; simp only [Array.size_append, List.size_toArray, List.length_append] at this ⊢; omega) (fun j x hx => by
      obtain ⟨y, hy, hvy⟩ := hv.2 j x hx
      refine ⟨y, ?_, hvy⟩
      have hj := (List.getElem?_eq_some_iff.1 hy).1
      rw [Array.getElem?_append_left (by simpa using hj)]
      simpa using hy)
  refine ⟨_, .slice (Map.add_self _ _ _) rfl (.inr ⟨rfl, hc, ?_, .inr rfl⟩), hp.1, hp.2.drew k⟩
  simp only [Nat.zero_add]
  rw [hsz]
  exact Nat.le_refl _
/-- The old block is asked for no more. -/
theorem Rep0.kill {P : Program} {m : Map} {H : Heap} {w : World} (hr : Rep0 P m H w) (b : Nat) (hb : m b ≠ none) : Rep0 P m (H.kill b) w ∧ Fr m H w m (H.kill b) w := by
  have hg : ∀ x o, (H.kill b).get x = some o → x ≠ b ∧ H.get x = some o := fun x o h => by
    rw [Heap.get_kill] at h
    split at h
    · cases h
    · exact ⟨‹_›, h⟩
  have hl : ∀ x, ((H.kill b).get x).isSome → (H.get x).isSome := fun x h => by
    obtain ⟨o, ho⟩ := Option.isSome_iff_exists.1 h
    simp [(hg x o ho).2]
  have hw : ∀ x, (H.kill b).wr x → H.wr x := fun x h => by
    obtain ⟨o, ho, h2⟩ := h
    exact ⟨o, (hg x o ho).2, h2⟩
  exact ⟨⟨hr.dom, fun x L o h h2 => hr.blk x L o h (hg x o h2).2, fun b1 b2 L1 L2 h1 h2 h3 h4 hne => hr.inj b1 b2 L1 L2 h1 h2 (hw _ h3) (hl _ h4) hne⟩,
    ⟨rfl, rfl, rfl, Nat.le_refl _, fun _ _ _ => rfl, Map.le_refl m, Nat.le_refl _, fun _ _ h => .inl h, fun _ _ h h2 => .inl ⟨h, hl _ h2⟩, fun _ _ h => hw _ h, fun _ _ h => hl _ h, fun x _ h => (by
      have hne : x ≠ b := fun e => by subst e; exact hb h
      rw [Heap.get_kill, if_neg hne])⟩⟩
theorem Rep.kill [Bs] {P : Program} {m : Map} {H : Heap} {w : World} (hr : Rep P m H w) (b : Nat) (hb : m b ≠ none) : Rep P m (H.kill b) w ∧ Fr m H w m (H.kill b) w := by
  obtain ⟨h1, h2⟩ := hr.toRep0.kill b hb
  exact ⟨h1.full h2 hr, h2⟩
theorem firstCells_ok {P : Program} {w : World} {size n : Nat} {a : Addr} {c : Nat} {l : List Value} (hl : l.length = n * size) (h : ∀ (i : Nat) (y : Value), l[i]? = some y → w.cell? (a.add i) = some y) (k : Nat) :
    (Builtin.firstCells size n (.slice (some a) n c)).run P { w with drawn := k } = .ok l.toArray { w with drawn := k } :=
  run_firstCells_some (P := P) { w with drawn := k } size n a n c l hl h
theorem frozen_no {w : World} {c : Nat} {cs : Array Value} {e : TypeId} (h : w.heap[c]? = some (.cells cs e (0, 0))) (o k : Nat) : w.frozen? ((⟨c, o, none⟩ : Addr).add k) = false := by
  rw [Addr.add_mid]; simp [World.frozen?, h]
theorem asrc_alive {size n : Nat} {b off n' c : Nat} {H : Heap} {new : List Value} (h : asrc size (.slice (some ⟨b, off, none⟩) n' c) H = some (n, new)) : (H.get b).isSome := by
  unfold asrc at h
  simp only at h
  split at h
  · rename_i o ho; simp [ho]
  · cases h
theorem old_ok {P : Program} {m : Map} {o : Ob} {L : Loc} {w : World} (h : CelOk P m o L w) {off len size : Nat} (hle : off + len * size ≤ o.cells.length) :
    ∃ l, VRs m ((o.cells.drop off).take (len * size)) l ∧ l.length = len * size ∧ (∀ (i : Nat) (y : Value), l[i]? = some y → w.cell? ⟨L.c, L.o + off + i, none⟩ = some y) := by
  obtain ⟨l, h1, h2, h3, _⟩ := cells_take h off (len * size) (by simp; omega)
  exact ⟨l, h1, h2, h3⟩
theorem aappend_sound [Bs] {P : Program} {T : Tab} (hT : TabOk P T) {m : Map} {H H' : Heap} {w : World} {st xt : TypeId} {s x s' x' v : Value} (h : aappend T st xt s x H = some (v, H')) (hr : Rep P m H w) (hs : VR m s s') (hx : VR m x x') (ty : TypeId) :
    ∃ v' w' m', (Builtin.append_ #[st, xt] ty #[s', x']).run P w = .ok v' w' ∧ VR m' v v' ∧ Rep P m' H' w' ∧ Fr m H w m' H' w' := by
  unfold aappend at h
  split at h
  · rename_i e xd base len cap hst hxt
    cases hint : isIntD xd
    · rw [hint] at h
      simp only [cond_false] at h
      split at h
      · rename_i s0 by_ z hn hb hz
        obtain ⟨i, h1, h2, h3, h4⟩ := hT.zero e z hz
        obtain ⟨i', h5, h6⟩ := hT.size e _ hn
        rw [h1] at h5; cases h5
        obtain ⟨i', h7, h8⟩ := hT.bytes e _ hb
        rw [h1] at h7; cases h7
        have h6' : s0 + 1 = i.size := h6.symm
        rw [h6'] at h
        have hsz : 0 < i.size := by omega
        have hby : 0 < i.bytes := by omega
        have hut := hT.under _ _ hst
        have hux := hT.under _ _ hxt
        split at h
        · rename_i n new hsrc
          obtain ⟨new', hS⟩ := asrc_sound hsz hsrc hr hx
          split at h
          · -- nil
            cases hc : (len.beq 0 && cap.beq 0)
            · rw [hc] at h; cases h
            rw [hc] at h
            simp only [cond_true] at h
            simp only [Bool.and_eq_true, Nat.beq_eq] at hc
            obtain ⟨rfl, rfl⟩ := hc
            rw [hs.plain_eq rfl]
            cases hn0 : n.beq 0
            · rw [hn0] at h
              simp only [cond_false] at h
              cases hbb : (n * (by_ + 1)).ble 140737488355328
              · rw [hbb] at h; cases h
              rw [hbb] at h
              cases h
              have hn' : 0 < n := by
                have : ¬ n = 0 := fun e => by rw [e] at hn0; cases hn0
                omega
              have hB : n * i.bytes ≤ 140737488355328 := by rw [h8]; exact Nat.le_of_ble_eq_true hbb
              obtain ⟨c, k, hc, hrun⟩ := grow_run (P := P) (ty := ty) (old' := []) (base := none) (sLen := 0) (sCap := 0) hut hux hint h1 h2 hby hS hn' (by omega) (fun k => by simp [Builtin.firstCells]) (by rw [Nat.zero_add]; exact hB)
              · obtain ⟨m', g1, g2, g3⟩ := grown_ok (k := k) hr h1 h3 VRs.nil hS.vrs (len := 0) (by simp) hS.newLen hc
                simp only [List.nil_append, Nat.zero_add] at g1 g2 g3 hrun
                exact ⟨_, _, m', hrun, g1, g2, g3⟩
            · rw [hn0] at h
              cases h
              have : n = 0 := by simpa using hn0
              subst this
              exact ⟨_, w, m, nil_run (P := P) (ty := ty) hut hux hint h1 hS, .same rfl, hr, Fr.refl _ _ _⟩
          · rename_i b off
            cases hbl : (blockOf x == some b)
            · rw [hbl] at h
              simp only [cond_false] at h
              split at h
              · rename_i o ho
                cases hs with
                | same hp => simp [plain] at hp
                | slice hm hmp hc =>
                  rename_i q cap' L
                  have hblk := (hr.blk b L o hm ho).cel hmp
                  obtain ⟨cs, e', fz, k1, k2, k3, k4, ie, hie, hes⟩ := hblk
                  cases hro : o.ro
                  · rw [hro] at h
                    simp only [cond_false] at h
                    obtain ⟨rfl, rfl, hcsz⟩ := k4 hro
                    cases hun : unk.ble cap
                    · rw [hun] at h
                      simp only [cond_false] at h
                      rcases hc with ⟨_, rfl, rfl⟩ | ⟨rfl, _⟩
                      · cases hz0 : (len.beq 0 && cap'.beq 0 && n.beq 0)
                        · rw [hz0] at h
                          simp only [cond_false] at h
                          cases hrm : (len + n).ble cap'
                          · rw [hrm] at h
                            simp only [cond_false] at h
                            cases hn0 : n.beq 0
                            · rw [hn0] at h
                              simp only [cond_false] at h
                              cases hle : ((off + len * i.size).ble o.cells.length && ((len + n) * (by_ + 1)).ble 140737488355328)
                              · rw [hle] at h; cases h
                              · rw [hle] at h
                                cases h
                                simp only [Bool.and_eq_true, Nat.ble_eq] at hle
                                obtain ⟨hle', hbb⟩ := hle
                                have hB : (len + n) * i.bytes ≤ 140737488355328 := by rw [h8]; exact hbb
                                have hn' : 0 < n := by
                                  have : ¬ n = 0 := fun e => by rw [e] at hn0; cases hn0
                                  omega
                                have hg : cap' < len + n := by
                                  have : ¬ len + n ≤ cap' := fun e => by rw [Nat.ble_eq_true_of_le e] at hrm; cases hrm
                                  omega
                                obtain ⟨l, g1, g2, g3⟩ := old_ok ((hr.blk b L o hm ho).cel hmp) hle'
                                obtain ⟨c, k, hc, hrun⟩ := grow_run (P := P) (ty := ty) (old' := l) (base := some ⟨L.c, L.o + off, none⟩) (sLen := len) (sCap := cap') hut hux hint h1 h2 hby hS hn' hg
                                  (fun k => firstCells_ok g2 (fun j y hy => by rw [Addr.add_mid]; exact g3 j y hy) k) hB
                                · obtain ⟨m', j1, j2, j3⟩ := grown_ok (k := k) hr h1 h3 g1 hS.vrs (len := len) (by rw [g1.1, g2]) hS.newLen hc
                                  exact ⟨_, _, m', hrun, j1, j2, j3⟩
                            · rw [hn0] at h; cases h
                          · rw [hrm] at h
                            simp only [cond_true] at h
                            have hrm' : len + n ≤ cap' := by simpa using hrm
                            split at h
                            · rename_i H2 hput
                              cases h
                              obtain ⟨w', g1, g2, g3⟩ := aput_sound hput hr hm hmp hS.vrs
                              refine ⟨_, w', m, room_run (P := P) (ty := ty) hut hux hint h1 hS hrm' (a := ⟨L.c, L.o + off, none⟩) ?_, .slice hm hmp (.inl ⟨by assumption, rfl, rfl⟩), g2, g3⟩
                              rw [Addr.add_mid, Nat.add_assoc]
                              exact g1
                            · cases h
                        · rw [hz0] at h
                          simp only [cond_true] at h
                          cases he0 : (o.elem.beq e && off.ble o.cells.length)
                          · rw [he0] at h; cases h
                          · rw [he0] at h
                            cases h
                            simp only [Bool.and_eq_true, Nat.beq_eq, Nat.ble_eq] at hz0 he0
                            obtain ⟨⟨rfl, rfl⟩, rfl⟩ := hz0
                            obtain ⟨he1, he2⟩ := he0
                            have hie' : ie = i := by rw [he1, h1] at hie; cases hie; rfl
                            have hnl : new'.length = 0 := by rw [← hS.vrs.1]; simpa using hS.newLen
                            have hnil : new' = [] := List.eq_nil_of_length_eq_zero hnl
                            refine ⟨_, w, m, room_run (P := P) (ty := ty) hut hux hint h1 hS (Nat.le_refl _) (a := ⟨L.c, L.o + off, none⟩) (by rw [hnil]; rfl), ?_, hr, Fr.refl _ _ _⟩
                            exact VR.slice hm hmp (.inr ⟨by rw [← hie', hes], Nat.le_refl _, by omega, .inl rfl⟩)
                      · rw [Nat.ble_eq_true_of_le (Nat.le_add_right _ _)] at hun; cases hun
                    · rw [hun] at h
                      simp only [cond_true] at h
                      have hcap : unk ≤ cap := Nat.le_of_ble_eq_true hun
                      cases hel : o.elem.beq e
                      · rw [hel] at h; cases h
                      rw [hel] at h
                      simp only [cond_true] at h
                      have hel' : o.elem = e := by simpa using hel
                      have hie' : ie = i := by rw [hel', h1] at hie; cases hie; rfl
                      rcases hc with ⟨hlt, _, _⟩ | ⟨hce, hlc, hfit, hq⟩
                      · omega
                      have hfit2 : q + cap' * i.size ≤ cs.size := by rw [hcsz, ← hie', hes]; exact hfit
                      cases hn0 : n.beq 0
                      · rw [hn0] at h
                        simp only [cond_false] at h
                        have hn' : 0 < n := by
                          have : ¬ n = 0 := fun e => by rw [e] at hn0; cases hn0
                          omega
                        cases hle : ((off + len * i.size).ble o.cells.length && new.all one && ((len + n) * (by_ + 1)).ble 140737488355328)
                        · rw [hle] at h; cases h
                        · rw [hle] at h
                          cases h
                          simp only [Bool.and_eq_true, Nat.ble_eq] at hle
                          obtain ⟨⟨hle', hallone⟩, hbb⟩ := hle
                          have hB : (len + n) * i.bytes ≤ 140737488355328 := by rw [h8]; exact hbb
                          obtain ⟨l, g1, g2, g3⟩ := old_ok ((hr.blk b L o hm ho).cel hmp) hle'
                          have g4 : ∀ (j : Nat) (y : Value), l[j]? = some y → w.cell? ⟨L.c, q + j, none⟩ = some y := fun j y hy => by
                            rcases hq with h0 | h0
                            · subst h0
                              have := (List.getElem?_eq_some_iff.1 hy).1
                              simp at g2
                              simp [g2] at this
                            · rw [h0]; exact g3 j y hy
                          have hlen' : len * i.size ≤ cap' * i.size := Nat.mul_le_mul_right _ hlc
                          by_cases hroom : len + n ≤ cap'
                          · have hrm2 : len * i.size + n * i.size ≤ cap' * i.size := by rw [← Nat.add_mul]; exact Nat.mul_le_mul_right _ hroom
                            have hnl : new'.length = n * i.size := by rw [← hS.vrs.1]; exact hS.newLen
                            have hone : ∀ u ∈ new', u.oneCell' = true := hS.vrs.one hallone
                            have hst := run_storeCells_at P L.c (q + len * i.size) o.elem new' 0 cs w k1 (by omega) hone
                            simp only [Nat.add_zero] at hst
                            have ht := take_sound hr hm ho hro k1 ((o.cells.drop off).take (len * i.size) ++ new) q (cs.toList.take (q + len * i.size) ++ new' ++ cs.toList.drop (q + len * i.size + new'.length)).toArray
                              (by simp; omega) (by have := hS.newLen; simp; omega) (fun k x hx => by
                                obtain ⟨y, hy, hv⟩ := (g1.append hS.vrs).2 k x hx
                                refine ⟨y, ?_, hv⟩
                                have hk := (List.getElem?_eq_some_iff.1 hy).1
                                simp only [List.length_append, g2, hnl] at hk
                                simp only [List.getElem?_toArray]
                                by_cases hkl : k < len * i.size
                                · rw [List.getElem?_append_left (by rw [g2]; exact hkl)] at hy
                                  have := g4 k y hy
                                  rw [List.append_assoc, List.getElem?_append_left (by simp; omega), List.getElem?_take, if_pos (by omega)]
                                  simpa [World.cell?, k1] using this
                                · rw [List.getElem?_append_right (by rw [g2]; omega), g2] at hy
                                  rw [List.getElem?_append_left (by simp; omega), List.getElem?_append_right (by simp; omega)]
                                  simp only [List.length_take, Array.length_toList, show min (q + len * i.size) cs.size = q + len * i.size by omega]
                                  rwa [show q + k - (q + len * i.size) = k - len * i.size by omega])
                            rw [hel'] at ht
                            refine ⟨_, _, _, room_run (P := P) (ty := ty) hut hux hint h1 hS hroom (a := ⟨L.c, q, none⟩) (by rw [Addr.add_mid]; exact hst), ?_, ht.1, ht.2⟩
                            exact VR.slice (L := ⟨L.c, q, L.sz, L.esz, false⟩) (Map.add_self _ _ _) rfl (.inr ⟨by rw [← hie', hes], hroom, hfit, .inr (by simp)⟩)
                          · obtain ⟨c, k, hc, hrun⟩ := grow_run (P := P) (ty := ty) (old' := l) (base := some ⟨L.c, q, none⟩) (sLen := len) (sCap := cap') hut hux hint h1 h2 hby hS hn' (by omega)
                                (fun k => firstCells_ok g2 (fun j y hy => by rw [Addr.add_mid]; exact g4 j y hy) k) hB
                            · have hk := hr.kill b (by rw [hm]; simp)
                              obtain ⟨m', j1, j2, j3⟩ := grown_ok (k := k) hk.1 h1 h3 g1 hS.vrs (len := len) (by rw [g1.1, g2]) hS.newLen hc
                              exact ⟨_, _, m', hrun, j1, j2, hk.2.trans hr j3⟩
                      · rw [hn0] at h
                        cases h
                        have : n = 0 := by simpa using hn0
                        subst this
                        have hnil : new' = [] := List.eq_nil_of_length_eq_zero (by rw [← hS.vrs.1, hS.newLen]; simp)
                        subst hnil
                        exact ⟨_, w, m, room_run (P := P) (ty := ty) hut hux hint h1 hS (by omega) (a := ⟨L.c, q, none⟩) rfl, .slice hm hmp (.inr ⟨hce, hlc, hfit, hq⟩), hr, Fr.refl _ _ _⟩
                  · rw [hro] at h; cases h
              · cases h
            · rw [hbl] at h; cases h
          · cases h
        · cases h
      · cases h
    · rw [hint] at h; cases h
  · cases h
end Go.Ev
