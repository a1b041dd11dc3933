/-
  Contract of the wheel's Due. Conditions: none.
-/
import Derived.Test.YtfflhppieogkbaaMs
import Derived.Test.YtfflhppieogkbaaKs
set_option linter.unusedVariables false
set_option linter.unusedSimpArgs false
set_option maxRecDepth 100000
namespace Go.Proofs.Ytfflhppieogkbaa.Hp
open Go Go.RowKit Go.Sort Go.Shelf Go.Maps Go.Proofs.YtfflhppieogkbaaW.PrintWords Go.Proofs.YtfflhppieogkbaaW.PrintLast Go.Proofs.YtfflhppieogkbaaW.PrintMore Go.Proofs.Ytfflhppieogkbaa.Mp Go.Proofs.Ytfflhppieogkbaa.PA
theorem info3 : (Try.prog.info? 3).map (fun i => (i.zero, i.size, i.bytes)) = some (some (.int .i64 0), 1, 8) := by kernel_rfl
/-- slices.Sort at a row of whole numbers. -/
theorem sort_row {W : World} {base : Nat} {ok : Nat → Prop} {v : Value} {xs : List Int} (h : kI.R 3 W base ok v xs) (hl : xs.length ≤ 1000000) :
    Calls Try.prog 35 #[v] W fun e w' => e = .returned (.tuple #[]) ∧ kI.R 3 w' base ok v (xs.mergeSort (fun x y => decide (x ≤ y))) ∧ W.grownBy w' v.ownBlock := by
  have hown : W.ownsRow base 3 1 v xs.length (encs (Value.int .i64) xs) := Kd.own_of_R h
  rcases hown.2 with ⟨rfl, hz⟩ | ⟨gb, cap, cur, rfl, hbase, hgb, r1, r2, r3, r4⟩
  · have hss : xs = [] := List.eq_nil_of_length_eq_zero hz
    subst hss
    have cS := AnyM.slices_Sort_int_none Try.sort35 none 0 W
    change Calls Try.prog 35 _ _ _ at cS
    refine cS.mono ?_
    rintro e w' ⟨rfl, rfl⟩
    exact ⟨rfl, by simpa using h, grown_of_below (Below.refl _ _)⟩
  · have hH : Holds (Value.int .i64) W gb 0 xs.toArray := holds_of_block_i hgb (by simpa [encs] using r4)
    have hgl : gb < W.heap.size := (Array.getElem?_eq_some_iff.1 hgb).1
    have cS := AnyM.slices_Sort_int Try.sort35 gb 0 cap xs W hH hgl (by omega)
    change Calls Try.prog 35 _ _ _ at cS
    refine cS.mono ?_
    rintro e w' ⟨rfl, nn, os, rfl⟩
    have hlm : (xs.mergeSort (fun x y => decide (x ≤ y))).length = xs.length := by simp
    have ho := ownsRow_sorted_i (n := nn) (os := os) (ts := xs.mergeSort (fun x y => decide (x ≤ y))) hlm hbase hgb r1 r2 r3
    refine ⟨rfl, Kd.R_of_own (by rw [hlm]; exact ho) (fun k hk => h.1 k hk), grownBy_sorted_i _⟩
/-! #### the plain law -/
def due (l : PL) (now : Int) : List Int := (l.filter (fun p => past now p.2)).map (·.1)
def rest (l : PL) (now : Int) : PL := l.filter (fun p => !past now p.2)
structure DueInv (l : PL) (now : Int) (acc : List Int) (cur : PL) : Prop where
  cur : cur = l.filter (fun p => !decide (p.1 ∈ acc))
  nodup : acc.Nodup
  all : ∀ k ∈ acc, ∃ t, (k, t) ∈ l ∧ past now t = true
theorem DueInv.start (l : PL) (now : Int) : DueInv l now [] l := ⟨(List.filter_eq_self.2 (fun p _ => by simp)).symm, List.nodup_nil, fun k hk => by simp at hk⟩
theorem DueInv.more {l : PL} {now : Int} {acc : List Int} {cur : PL} (h : DueInv l now acc cur) {k t : Int} (hin : (k, t) ∈ cur) (hp : past now t = true) : DueInv l now (acc ++ [k]) (rem cur k) := by
  have h1 := hin
  rw [h.cur, List.mem_filter] at h1
  have hk : k ∉ acc := by simpa using h1.2
  refine ⟨?_, ?_, fun j hj => ?_⟩
  · unfold rem
    rw [h.cur, List.filter_filter]
    refine List.filter_congr (fun p _ => ?_)
    simp only [List.mem_append, List.mem_singleton]
    by_cases e : p.1 = k <;> by_cases e2 : p.1 ∈ acc <;> simp [e, e2]
  · rw [List.nodup_append]
    exact ⟨h.nodup, by simp, fun a ha b hb => by
      have : b = k := by simpa using hb
      subst this
      rintro rfl
      exact hk ha⟩
  · rcases List.mem_append.1 hj with h2 | h2
    · exact h.all j h2
    · have : j = k := by simpa using h2
      subst this
      exact ⟨t, h1.1, hp⟩
theorem DueInv.fin {l : PL} {now : Int} {acc : List Int} {cur : PL} (hr : Rising l) (h : DueInv l now acc cur) (hn : ∀ p ∈ cur, past now p.2 = false) : acc.mergeSort (fun x y => decide (x ≤ y)) = due l now ∧ cur = rest l now := by
  have key : ∀ p ∈ l, (p.1 ∈ acc ↔ past now p.2 = true) := fun p hp => by
    constructor
    · intro ha
      obtain ⟨t, ht, hpt⟩ := h.all p.1 ha
      have := rising_inj hr hp ht rfl
      rw [this]; exact hpt
    · intro hpt
      by_cases ha : p.1 ∈ acc
      · exact ha
      · have := hn p (by rw [h.cur, List.mem_filter]; exact ⟨hp, by simpa using ha⟩)
        rw [this] at hpt; cases hpt
  refine ⟨?_, ?_⟩
  · have hrd : Rising (l.filter (fun p => past now p.2)) := List.Pairwise.sublist List.filter_sublist hr
    refine sorted_keys hrd ?_
    refine (List.perm_ext_iff_of_nodup h.nodup ((keys_rising hrd).imp (fun h => by omega))).2 (fun k => ?_)
    unfold keys
    rw [List.mem_map]
    constructor
    · intro hk
      obtain ⟨t, ht, hpt⟩ := h.all k hk
      exact ⟨(k, t), List.mem_filter.2 ⟨ht, hpt⟩, rfl⟩
    · rintro ⟨p, hp, rfl⟩
      have := List.mem_filter.1 hp
      exact (key p this.1).2 this.2
  · rw [h.cur]
    unfold rest
    refine List.filter_congr (fun p hp => ?_)
    have := key p hp
    cases hq : past now p.2 with
    | true => rw [hq] at this; simp [this]
    | false => rw [hq] at this; simp [this]
/-- The wheel between a pop and the delete behind it. -/
def IsY (w0 W : World) (g : Nat) (l lc : PL) (xs : List E66) : Prop := ∃ mb v, W.heap[g]? = some (.cells #[.map (some mb), v] 62 (0, 0)) ∧ w0.heap.size ≤ g ∧ MapI W mb l ∧ w0.heap.size ≤ mb ∧
  k66.R 66 W w0.heap.size (fun _ => True) v xs ∧ Heap xs ∧ Covers xs lc ∧ Good xs
section
variable {w0 W W1 W2 : World} {g : Nat} {l lc : PL} {xs : List E66}
theorem IsY.lt {k : Nat} (h : IsY w0 W g l lc xs) (ho : Own W g k) : k < W.heap.size := by
  obtain ⟨mb, v, hb, hk⟩ := ho
  obtain ⟨mb', v', hb', _, hM, _, hR, _⟩ := h
  obtain ⟨rfl, rfl⟩ := two_eq hb hb'
  rcases hk with rfl | rfl | hk
  · exact blk_lt hb
  · exact hM.lt
  · obtain ⟨cs, hcs⟩ := Kd.R_typed hR k hk
    exact blk_lt hcs
theorem IsY.step (h : IsY w0 W g l lc xs) (hm : ∀ k, Own W g k → W1.heap[k]? = W.heap[k]?) : IsY w0 W1 g l lc xs := by
  obtain ⟨mb, v, hb, hg, hM, hgm, hR, hh⟩ := h
  refine ⟨mb, v, (hm g ⟨mb, v, hb, .inl rfl⟩).trans hb, hg, hM.step (hm mb ⟨mb, v, hb, .inr (.inl rfl)⟩), hgm, ?_, hh⟩
  refine Kd.R_mono (Kd.R_move (Kd.R_tight rfl hR) (fun k hk => ?_)) (fun _ _ => trivial)
  exact hm k ⟨mb, v, hb, .inr (.inr hk.symm)⟩
theorem IsY.self (h : IsY w0 W g l lc xs) : Own W g g := by
  obtain ⟨mb, v, hb, _⟩ := h
  exact ⟨mb, v, hb, .inl rfl⟩
theorem IsY.below (h : IsY w0 W g l lc xs) (hb : Below W.heap.size W W1) : IsY w0 W1 g l lc xs ∧ Kp g W W1 := by
  refine ⟨h.step (fun k hk => hb.block k (h.lt hk)), .of_below hb, fun k hk ho => ?_⟩
  have e := hb.block g (h.lt h.self)
  unfold Own at ho ⊢
  rwa [e] at ho
/-- heap.Pop: the wheel's first entry is out. -/
theorem pop_due {n : Nat} (hI : IsX w0 W g l xs) (hxl : xs.length = n + 1) (hn : n ≤ 90000) :
    Calls Try.prog 36 #[.iface 64 (.pointer (some ⟨g, 1, none⟩))] W fun e w' => e = .returned (.iface 66 (.agg #[.int .i64 (rd_T66 xs 0).f0, .int .i64 (rd_T66 xs 0).f1])) ∧ ∃ xs', IsY w0 w' g l (rem l (rd_T66 xs 0).f1) xs' ∧ xs'.length = n ∧ Kp g W w' := by
  obtain ⟨mb, v, hb, hg, hM, hgm, hR, hH, hC, hG⟩ := hI
  refine (pop_raw hb hR hH hxl hn).mono ?_
  rintro e w' ⟨rfl, v', xs', hb', hR', hH', hm', hl', ht', hv'⟩
  have hmg : ¬ (mb = g ∨ v.ownBlock = some mb) := by
    rintro (h | h)
    · exact ne_map hb hM h.symm
    · exact row_ne_map hR hM h.symm
  refine ⟨rfl, xs', ⟨mb, v', hb', hg, hM.step (ht'.block mb hM.lt hmg), hgm, hR', hH', fun p hp => ?_, fun y hy => hG y ((hm' y).2 (.inr hy))⟩, hl', Kp.of hb hb' ht' (fun k hk => hk.elim .inl (fun h => .inr (.inr h))) (fun k hk => .inl (by rw [← hv']; exact hk))⟩
  obtain ⟨hp1, hp2⟩ := mem_rem.1 hp
  rcases (hm' _).1 (hC p hp1) with h | h
  · exact absurd (by rw [← h]) hp2
  · exact h
theorem IsY.del {k : Int} (h : IsY w0 W g l (rem l k) xs) (hk : I64 k) : ∃ mb W', W.cell? ⟨g, 0, none⟩ = some (.map (some mb)) ∧ (∀ ty, (Builtin.delete_ #[58, 3] ty #[.map (some mb), .int .i64 k]).run Try.prog W = .ok (.tuple #[]) W') ∧ IsX w0 W' g (rem l k) xs ∧ Kp g W W' := by
  obtain ⟨mb, v, hb, hg, hM, hgm, hR, hH, hC, hG⟩ := h
  obtain ⟨W', h1, h2, h3, _⟩ := hM.del 58 Try.underlying58 hk 0
  have hgb : W'.heap[g]? = some (.cells #[.map (some mb), v] 62 (0, 0)) := (h3.block g (blk_lt hb) (fun e => ne_map hb hM (by injection e))).trans hb
  refine ⟨mb, W', (blk_cell hb 0).trans rfl, fun ty => by rw [← h1]; rfl, ⟨mb, v, hgb, hg, h2, hgm, ?_, hH, hC, hG⟩, Kp.of hb hgb (Tch.of_grown (S := fun b => b = mb) h3 (fun b hb => by injection hb with hb; exact hb.symm)) (fun b hb => .inr (.inl hb)) (fun b hb => .inl hb)⟩
  exact Kd.R_mono (Kd.R_grown (Kd.R_tight rfl hR) h3 (fun b hk e => row_ne_map hR hM (by rw [← e]; exact hk))) (fun _ _ => trivial)
/-- A row beside the wheel grows. -/
theorem Kp.row_grown {v : Value} {acc : List Int} {row : Option Nat} (hI : IsX w0 W1 g l xs) (hk : Kp g W W1) (hR : kI.R 3 W1 W.heap.size (fun k => ¬ Own W1 g k) v acc) (hg : W1.grownBy W2 v.ownBlock) :
    IsX w0 W2 g l xs ∧ Kp g W W2 ∧ ∀ k, Own W2 g k ↔ Own W1 g k := by
  have hm : ∀ k, Own W1 g k → W2.heap[k]? = W1.heap[k]? := fun k ho => hg.block k (ho.lt hI) (fun e => hR.1 k e.symm ho)
  have ho : ∀ k, Own W2 g k ↔ Own W1 g k := fun k => own_step hI hm
  exact ⟨hI.step hm, ⟨hk.t.trans' (Tch.of_grown (S := fun k => v.ownBlock = some k) hg (fun k hk => hk)) (fun b hb e => by have := Kd.R_base hR b e; omega), fun k hlt h => hk.own k hlt ((ho k).1 h)⟩, ho⟩
theorem Kp.row2 {v : Value} {acc : List Int} {base : Nat} (hk : Kp g W W1) (h : kI.R 3 W base (fun k => ¬ Own W g k) v acc) : kI.R 3 W1 base (fun k => ¬ Own W1 g k) v acc := hk.row h
end
set_option maxHeartbeats 8000000 in
theorem due_any {w0 W : World} {g : Nat} {s : WS} (now : Int) (hI : IsW w0 W g s) (hB : Below w0.heap.size w0 W) (hm : s.m ≤ 90000) :
    Calls Try.prog 17 #[.pointer (some ⟨g, 0, none⟩), .int .i64 now] W fun e w' => ∃ v : Value, e = .returned v ∧ kI.R 3 w' W.heap.size (fun k => ¬ Own w' g k) v (due s.ats now) ∧ IsW w0 w' g ⟨rest s.ats now, s.m⟩ ∧ Kp g W w' := by
  obtain ⟨xs, hX, hl⟩ := hI
  have HX := Aside0.mk hX
  have HL : Aside0 (([] : List Int).length + xs.length ≤ s.m) := ⟨by simpa using hl⟩
  have HB := Aside0.mk hB
  have HMM := Aside0.mk hm
  have HRISE : Aside0 (Rising s.ats) := by
    obtain ⟨mb, v, _, _, hM, _⟩ := hX
    exact ⟨hM.1⟩
  clear hX hl hB hm
  go_enter Try.func17, Try.ntmps17
  go_wp2
  go_loopw [5] (fun v5 wr => ∃ (acc : List Int) (cur : PL) (xs' : List E66) (A : Option Addr) (n : Nat), v5 = .slice A acc.length n ∧ Aside0 (DueInv s.ats now acc cur) ∧ Aside0 (IsX w0 wr g cur xs') ∧ Aside0 (acc.length + xs'.length ≤ s.m) ∧ Aside0 (Kp g W wr) ∧ Aside0 (kI.R 3 wr W.heap.size (fun k => ¬ Own wr g k) (.slice A acc.length n) acc)) (fun v5 wr => hlen g wr)
  case atStart => exact ⟨[], s.ats, xs, none, 0, rfl, ⟨DueInv.start _ _⟩, HX, HL, ⟨Kp.refl _ _⟩, ⟨Kd.R_nil _ _ _ _ _⟩⟩
  case round =>
    obtain ⟨acc, cur, xs', A, n, rfl, HD, HIr, HLr, HKr, HRr⟩ := hrel
    have HBr := Aside0.mk (HKr.out.belowX HB.out HX.out)
    have HHL := Aside0.mk HIr.out.hlen
    have HFI := Aside0.mk (first_raw HIr.out HBr.out (by have := HLr.out; have := HMM.out; omega))
    have HFINW : Aside0 (∀ (w1 w2 w3 : World) (cur' : PL) (xs2 : List E66), cur' = rest s.ats now → xs2.length ≤ xs'.length → IsX w0 w1 g cur' xs2 → Kp g wr w1 → Below w1.heap.size w1 w2 → (∀ (hR2 : kI.R 3 w2 W.heap.size (fun k => ¬ Own w2 g k) (.slice A acc.length n) acc), kI.R 3 w3 W.heap.size (fun k => ¬ Own w2 g k) (.slice A acc.length n) (due s.ats now) → w2.grownBy w3 (Value.slice A acc.length n).ownBlock → kI.R 3 w3 W.heap.size (fun k => ¬ Own w3 g k) (.slice A acc.length n) (due s.ats now) ∧ IsW w0 w3 g ⟨rest s.ats now, s.m⟩ ∧ Kp g W w3)) := ⟨fun w1 w2 w3 cur' xs2 hc hl2 hI2 hk2 hb2 hR2 hS hg => by
      have hI3 := hI2.below hb2
      have hk3 : Kp g W w2 := (HKr.out.trans hk2).trans (Kp.of_belowX hI2 hb2)
      obtain ⟨h1, h2, h3⟩ := Kp.row_grown (row := none) hI3 hk3 hR2 hg
      refine ⟨Kd.R_mono hS (fun k hk ho => hk ((h3 k).1 ho)), ⟨xs2, by rw [← hc]; exact h1, by have := HLr.out; show xs2.length ≤ s.m; omega⟩, h2⟩⟩
    by_cases hz : cur = []
    · have HF : Aside0 (Calls Try.prog 33 #[.pointer (some ⟨g, 0, none⟩)] wr fun e w' => e = .returned (.tuple #[.agg #[.int .i64 0, .int .i64 0], .bool false]) ∧ ∃ xs2, xs2.length ≤ xs'.length ∧ IsX w0 w' g cur xs2 ∧ Kp g wr w') := ⟨HFI.out.mono (by
        rintro e w' ⟨xs2, hI', hl', hk', ⟨_, rfl⟩ | ⟨_, _, hin, _⟩⟩
        · exact ⟨rfl, xs2, hl', hI', hk'⟩
        · rw [hz] at hin; simp at hin)⟩
      obtain ⟨hsr, hcr⟩ := HD.out.fin HRISE.out (fun p hp => by rw [hz] at hp; simp at hp)
      have HSR := Aside0.mk hsr
      have HCR := Aside0.mk hcr
      clear hz hsr hcr
      go_wp2_with (first
        | (go_at_call 33; (with_reducible refine HF.out.mono ?_); rintro e w1 ⟨rfl, xs2, hl2, hI2, hk2⟩; have HL2 := Aside0.mk hl2; have HI2 := Aside0.mk hI2; have HK2 := Aside0.mk hk2; have HW2 : Aside0 (Below w1.heap.size w1 (w1.alloc (.cells #[.int .i64 0, .int .i64 0] 66))) := ⟨below_alloc (Below.refl _ _) _⟩; have HR2 := Aside0.mk ((hk2.trans (Kp.of_belowX hI2 HW2.out)).row2 HRr.out); have HSO := Aside0.mk (sort_row HR2.out (by have := HLr.out; have := HMM.out; omega)); clear hl2 hI2 hk2)
        | (go_at_call 35; (with_reducible refine HSO.out.mono ?_); rintro e w3 ⟨rfl, hR3, hg3⟩; have HR3 := Aside0.mk hR3; have HG3 := Aside0.mk hg3; clear hR3 hg3))
      go_ret
      have hR3 := HR3.out
      rw [HSR.out] at hR3
      exact ⟨_, rfl, HFINW.out _ _ _ _ _ HCR.out HL2.out HI2.out HK2.out HW2.out HR2.out hR3 HG3.out⟩
    · have HF : Aside0 (Calls Try.prog 33 #[.pointer (some ⟨g, 0, none⟩)] wr fun e w' => ∃ (x0 x1 : Int) (xs2 : List E66), e = .returned (.tuple #[.agg #[.int .i64 x0, .int .i64 x1], .bool true]) ∧ rd_T66 xs2 0 = ⟨x0, x1⟩ ∧ (x1, x0) ∈ cur ∧ (∀ q ∈ cur, x0 ≤ q.2) ∧ 0 < xs2.length ∧ xs2.length ≤ xs'.length ∧ IsX w0 w' g cur xs2 ∧ Kp g wr w') := ⟨HFI.out.mono (by
        rintro e w' ⟨xs2, hI', hl', hk', ⟨h, rfl⟩ | ⟨h0, rfl, hin, hle⟩⟩
        · exact absurd h hz
        · exact ⟨_, _, xs2, rfl, rfl, hin, hle, h0, hl', hI', hk'⟩)⟩
      clear hz
      go_upto_region 3 with (go_at_call 33; (with_reducible refine HF.out.mono ?_); rintro e w1 ⟨x0, x1, xs2, rfl, hrd, hin, hle, h0, hl2, hI2, hk2⟩; have HRD := Aside0.mk hrd; have HIN := Aside0.mk hin; have HLE := Aside0.mk hle; have H0 := Aside0.mk h0; have HL2 := Aside0.mk hl2; have HI2 := Aside0.mk hI2; have HK2 := Aside0.mk hk2; clear hrd hin hle h0 hl2 hI2 hk2)
      obtain ⟨w2, hw2⟩ : ∃ w2, w2 = w1.alloc (.cells #[.int .i64 x0, .int .i64 x1] 66) := ⟨_, rfl⟩
      obtain ⟨T, hT⟩ : ∃ T, T = w1.heap.size := ⟨_, rfl⟩
      rw [← hw2, ← hT]
      have hb2 : Below w1.heap.size w1 w2 := by rw [hw2]; exact below_alloc (Below.refl _ _) _
      have HW2 := Aside0.mk hb2
      have hT2 : w2.heap[T]? = some (.cells #[.int .i64 x0, .int .i64 x1] 66 (0, 0)) := by rw [hw2, hT]; exact heap_alloc_new _ _
      have t0 : w2.cell? ⟨T, 0, none⟩ = some (.int .i64 x0) := (blk_cell hT2 0).trans rfl
      have t1 : w2.cell? ⟨T, 1, none⟩ = some (.int .i64 x1) := (blk_cell hT2 1).trans rfl
      clear hw2 hT hb2 hT2
      obtain ⟨pb, hpb⟩ : ∃ pb, past now x0 = pb := ⟨_, rfl⟩
      have HP := Aside0.mk (past_call now x0 w2)
      rw [hpb] at HP
      cases pb with
      | false =>
        obtain ⟨hsr, hcr⟩ := HD.out.fin HRISE.out (fun p hp => past_mono (HLE.out p hp) hpb)
        have HSR := Aside0.mk hsr
        have HCR := Aside0.mk hcr
        clear hsr hcr hpb
        go_wp2_with (first
          | (go_at_call 34; (with_reducible refine HP.out.mono ?_); rintro e w3 ⟨rfl, hb3⟩; have HW3 := Aside0.mk (below_step HW2.out hb3); have HR2 := Aside0.mk ((HK2.out.trans (Kp.of_belowX HI2.out HW3.out)).row2 HRr.out); have HSO := Aside0.mk (sort_row HR2.out (by have := HLr.out; have := HMM.out; omega)); clear hb3)
          | (go_at_call 35; (with_reducible refine HSO.out.mono ?_); rintro e w4 ⟨rfl, hR3, hg3⟩; have HR3 := Aside0.mk hR3; have HG3 := Aside0.mk hg3; clear hR3 hg3))
        go_ret
        have hR3 := HR3.out
        rw [HSR.out] at hR3
        exact ⟨_, rfl, HFINW.out _ _ _ _ _ HCR.out HL2.out HI2.out HK2.out HW3.out HR2.out hR3 HG3.out⟩
      | true =>
        have HPB := Aside0.mk hpb
        clear hpb
        obtain ⟨m, hm⟩ : ∃ m, xs2.length = m + 1 := ⟨xs2.length - 1, by have := H0.out; omega⟩
        have HM := Aside0.mk hm
        clear hm
        have hta := tassert
        go_upto_region 7 with (first
          | (go_at_call 34; (with_reducible refine HP.out.mono ?_); rintro e w3 ⟨rfl, hb3⟩; have HW3 := Aside0.mk (below_step HW2.out hb3); have HI3 := Aside0.mk (HI2.out.below HW3.out); have HK3 := Aside0.mk ((HKr.out.trans HK2.out).trans (Kp.of_belowX HI2.out HW3.out)); have HR3 := Aside0.mk ((HK2.out.trans (Kp.of_belowX HI2.out HW3.out)).row2 HRr.out); have HPO := Aside0.mk (pop_due HI3.out HM.out (by have := HM.out; have := HL2.out; have := HLr.out; have := HMM.out; omega)); rw [HRD.out] at HPO; clear hb3)
          | (go_at_call 36; (with_reducible refine HPO.out.mono ?_); rintro e w4 ⟨rfl, xs4, hY4, hl4, hk4⟩; have HY4 := Aside0.mk hY4; have HL4 := Aside0.mk hl4; have HK4 := Aside0.mk (HK3.out.trans hk4); have HR4 := Aside0.mk (hk4.row2 HR3.out); clear hY4 hl4 hk4))
        obtain ⟨w5, hw5⟩ : ∃ w5, w5 = w4.alloc (.cells #[.int .i64 x0, .int .i64 x1] 66) := ⟨_, rfl⟩
        obtain ⟨T2, hT2⟩ : ∃ T2, T2 = w4.heap.size := ⟨_, rfl⟩
        rw [← hw5, ← hT2]
        have hb5 : Below w4.heap.size w4 w5.drew := by rw [hw5]; exact below_drew1 (below_alloc (Below.refl _ _) _)
        have ht5 : w5.drew.heap[T2]? = some (.cells #[.int .i64 x0, .int .i64 x1] 66 (0, 0)) := by rw [hw5, hT2]; exact heap_alloc_new _ _
        obtain ⟨hY5, hk5⟩ := HY4.out.below hb5
        have hn5 : ¬ Own w5.drew g T2 := fun ho => by
          have := HY4.out.lt (hk5.own T2 (by
            have e := hb5.block g (HY4.out.lt HY4.out.self)
            unfold Own at ho
            rw [e] at ho
            exact absurd (HY4.out.lt ho) (by omega)) ho)
          omega
        obtain ⟨mb, w6, hc6, hrun6, hI6, hk6⟩ := hY5.del (HIr.out.keyI _ HIN.out).1
        have hc5 : w5.cell? ⟨g, 0, none⟩ = some (.map (some mb)) := hc6
        have ht51 : w5.cell? ⟨T2, 1, none⟩ = some (.int .i64 x1) := (blk_cell (show w5.heap[T2]? = _ from ht5) 1).trans rfl
        have HT6 := Aside0.mk (hk6.blk ht5 hn5)
        have ht61 : w6.cell? ⟨T2, 1, none⟩ = some (.int .i64 x1) := (blk_cell HT6.out.1 1).trans rfl
        have HI6 := Aside0.mk hI6
        have HK6 := Aside0.mk ((HK4.out.trans hk5).trans hk6)
        have HR6 := Aside0.mk ((hk5.trans hk6).row2 HR4.out)
        have HSZ := Aside0.mk HK6.out.t.size
        clear hw5 hT2 hb5 ht5 hY5 hk5 hn5 hc6 hI6 hk6
        go_region
        clear hrun6 hc5 ht51
        go_wp2_with (((with_reducible refine gate_builtin (b := .append) (xs := #[.tmp 38, .tmp 41]) rfl ?_); (try (refine gate_guard (by rfl) ?_; dsimp only)); at_builtin; refine Kd.R_append kI (w0 := w6) W.heap.size rfl (.tmp 38) (.tmp 41) 27 3 (.int .i64 0) 8 rfl Try.underlying27 info3 rfl (by decide) (by omega) (.slice A acc.length n) acc x1 [.int .i64 x1] (fun k => ¬ Own w6 g k) (fun _ => False) rfl rfl rfl (fun _ h => h.elim) (fun k hk ho => absurd (ho.lt HI6.out) (by omega)) ?aO ?aB ?aS ?aL ?_; (case aO => exact HR6.out); (case aB => exact Below.refl _ _); (case aS => exact HSZ.out); (case aL => have := HLr.out; have := HMM.out; omega); intro v7 w7 hR7 hb7 hg7 hat7; obtain ⟨A7, n7, rfl⟩ := Kd.R_slice hR7; have HR7 := Aside0.mk hR7; have HG7 := Aside0.mk hg7; clear hR7 hb7 hg7 hat7))
        obtain ⟨h1, h2, h3⟩ := Kp.row_grown (row := none) HI6.out HK6.out HR6.out HG7.out
        have HI7 := Aside0.mk h1
        have HK7 := Aside0.mk h2
        have HR7' := Aside0.mk (Kd.R_mono HR7.out (ok' := fun k => ¬ Own w7 g k) (fun k hk ho => hk ((h3 k).1 ho)))
        have HD7 := Aside0.mk (HD.out.more HIN.out HPB.out)
        clear h1 h2 h3
        go_roundw
        case measure => rw [HI7.out.hlen, HHL.out]; have := HL4.out; have := HM.out; have := HL2.out; omega
        case rel => exact ⟨acc ++ [x1], rem cur x1, xs4, A7, n7, by first | rfl | simp, HD7, HI7, ⟨by have := HL4.out; have := HM.out; have := HL2.out; have := HLr.out; simp; omega⟩, HK7, HR7'⟩
end Go.Proofs.Ytfflhppieogkbaa.Hp
