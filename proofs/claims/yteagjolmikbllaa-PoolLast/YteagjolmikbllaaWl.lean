/-
  The walk of PoolLast. Conditions: none.
-/
import Derived.Test.YteagjolmikbllaaWo
set_option linter.unusedVariables false
set_option linter.unusedSimpArgs false
namespace Go.Proofs.Yteagjolmikbllaa.Ob
open Go.RowKit Go.Proofs.YteagjolmikbllaaW.PrintWords Go.Proofs.YteagjolmikbllaaW.PrintLast Go.Proofs.YteagjolmikbllaaW.PrintMore Go.Proofs.Yteagjolmikbllaa.Hid Go.Proofs.Yteagjolmikbllaa.Mp Go.Proofs.Yteagjolmikbllaa.PA
/-- So many connections; those of G are idle, all others busy. -/
def gW (n : Nat) (G : List Int) : PL := (List.range n).map (fun m : Nat => ((m : Int), if (m : Int) ∈ G then (2 : Int) else 3))
def gS (n : Nat) (G : List Int) : PS := ⟨n, gW n G, G⟩
/-- The first so many, all idle. -/
def iL (i : Nat) : List Int := (List.range i).map (fun m : Nat => (m : Int))
def aW (i : Nat) : PL := (List.range i).map (fun m : Nat => ((m : Int), (2 : Int)))
def aS (n i : Nat) : PS := ⟨n, aW i, iL i⟩
theorem rising_range (n : Nat) (f : Nat → Int) : Rising ((List.range n).map (fun m : Nat => ((m : Int), f m))) := by
  refine List.pairwise_map.2 ?_
  exact List.pairwise_lt_range.imp (fun {a b} h => by show (a : Int) < (b : Int); omega)
theorem mem_gW {n : Nat} {G : List Int} {p : Int × Int} : p ∈ gW n G ↔ (0 ≤ p.1 ∧ p.1 < (n : Int)) ∧ p.2 = if p.1 ∈ G then 2 else 3 := by
  unfold gW
  rw [List.mem_map]
  constructor
  · rintro ⟨m, hm, rfl⟩
    have := List.mem_range.1 hm
    exact ⟨⟨by show (0 : Int) ≤ (m : Int); omega, by show (m : Int) < (n : Int); omega⟩, rfl⟩
  · rintro ⟨⟨h1, h2⟩, h3⟩
    refine ⟨p.1.toNat, List.mem_range.2 (by omega), ?_⟩
    have e : ((p.1.toNat : Nat) : Int) = p.1 := by omega
    rw [e, ← h3]
theorem rise_gW (n : Nat) (G : List Int) : Rising (gW n G) := rising_range n (fun m => if (m : Int) ∈ G then 2 else 3)
theorem i64_small {x : Int} {n : Nat} (h0 : 0 ≤ x) (h1 : x < (n : Int)) (h8 : n ≤ 8) : I64 x := WalkArith.wf_i64 (by omega)
theorem inv_gS {n : Nat} {G : List Int} (h8 : n ≤ 8) (hn : G.Nodup) (hr : ∀ k ∈ G, 0 ≤ k ∧ k < (n : Int)) : PInv (gS n G) := by
  refine ⟨rise_gW n G, fun p hp => ?_, hn, fun k => ?_, ?_⟩
  · obtain ⟨⟨h1, h2⟩, h3⟩ := mem_gW.1 hp
    refine ⟨i64_small h1 h2 h8, ?_⟩
    rw [h3]
    split
    · exact .inr (.inl rfl)
    · exact .inr (.inr rfl)
  · show k ∈ G ↔ (k, 2) ∈ gW n G
    rw [mem_gW]
    constructor
    · intro hk
      exact ⟨hr k hk, by rw [if_pos hk]⟩
    · rintro ⟨_, h⟩
      by_cases hk : k ∈ G
      · exact hk
      · rw [if_neg hk] at h
        simp at h
  · show (gW n G).length ≤ n ∧ n ≤ 8
    unfold gW
    simp [h8]
theorem take_gS {n : Nat} {G : List Int} {k : Int} (hn : (G ++ [k]).Nodup) (hr : ∀ x ∈ G ++ [k], 0 ≤ x ∧ x < (n : Int)) : takeF (gS n (G ++ [k])) = (k, true, gS n G) := by
  have hk : k ∉ G := fun h => by
    rw [List.nodup_append] at hn
    exact hn.2.2 k h k (by simp) rfl
  rcases take_cases (gS n (G ++ [k])) with ⟨h, _⟩ | ⟨l, id, h, e⟩
  · exact absurd (show G ++ [k] = [] from h) (by simp)
  · have h2 : G ++ [k] = l ++ [id] := h
    obtain ⟨rfl, h3⟩ := List.append_inj' h2 rfl
    have h4 : k = id := by simpa using h3
    subst h4
    rw [e]
    unfold gS
    congr 3
    refine rising_ext ((rise_gW n _).put k 3) (rise_gW n G) (fun p => ?_)
    rw [mem_put, mem_gW, mem_gW]
    constructor
    · rintro (rfl | ⟨⟨h5, h6⟩, h7⟩)
      · exact ⟨hr k (by simp), by rw [if_neg hk]⟩
      · refine ⟨h5, ?_⟩
        rw [h6]
        by_cases hp : p.1 ∈ G
        · rw [if_pos hp, if_pos (by simp [hp])]
        · rw [if_neg hp, if_neg (by simp [hp, h7])]
    · rintro ⟨h5, h6⟩
      by_cases hp : p.1 = k
      · left
        rw [hp, if_neg hk] at h6
        exact Prod.ext hp h6
      · refine .inr ⟨⟨h5, ?_⟩, hp⟩
        rw [h6]
        by_cases hp2 : p.1 ∈ G
        · rw [if_pos hp2, if_pos (by simp [hp2])]
        · rw [if_neg hp2, if_neg (by simp [hp2, hp])]
theorem code_gS {n : Nat} {G : List Int} {k : Int} (h0 : 0 ≤ k) (h1 : k < (n : Int)) : code (gW n G) k = if k ∈ G then 2 else 3 := by
  unfold code
  have e : Mp.look (gW n G) k = some (if k ∈ G then 2 else 3) := (look_some (rise_gW n G)).2 (mem_gW.2 ⟨⟨h0, h1⟩, rfl⟩)
  rw [e]
  rfl
theorem give_gS {n : Nat} {G : List Int} {k : Int} (h0 : 0 ≤ k) (h1 : k < (n : Int)) : giveF (gS n G) k = if k ∈ G then (false, gS n G) else (true, gS n (G ++ [k])) := by
  unfold giveF
  rw [show code (gS n G).what k = _ from code_gS h0 h1]
  by_cases hk : k ∈ G
  · rw [if_pos hk, if_pos hk, if_neg (by decide)]
  · rw [if_neg hk, if_neg hk, if_pos rfl]
    unfold restF gS
    congr 2
    refine rising_ext ((rise_gW n G).put k 2) (rise_gW n _) (fun p => ?_)
    show p ∈ put (gW n G) k 2 ↔ _
    rw [mem_put, mem_gW, mem_gW]
    constructor
    · rintro (rfl | ⟨⟨h5, h6⟩, h7⟩)
      · exact ⟨⟨h0, h1⟩, by rw [if_pos (by simp)]⟩
      · refine ⟨h5, ?_⟩
        rw [h6]
        by_cases hp : p.1 ∈ G
        · rw [if_pos hp, if_pos (by simp [hp])]
        · rw [if_neg hp, if_neg (by simp [hp, h7])]
    · rintro ⟨h5, h6⟩
      by_cases hp : p.1 = k
      · left
        rw [hp, if_pos (by simp)] at h6
        exact Prod.ext hp h6
      · refine .inr ⟨⟨h5, ?_⟩, hp⟩
        rw [h6]
        by_cases hp2 : p.1 ∈ G
        · rw [if_pos hp2, if_pos (by simp [hp2])]
        · rw [if_neg hp2, if_neg (by simp [hp2, hp])]
theorem mem_aW {i : Nat} {p : Int × Int} : p ∈ aW i ↔ (0 ≤ p.1 ∧ p.1 < (i : Int)) ∧ p.2 = 2 := by
  unfold aW
  rw [List.mem_map]
  constructor
  · rintro ⟨m, hm, rfl⟩
    have := List.mem_range.1 hm
    exact ⟨⟨by show (0 : Int) ≤ (m : Int); omega, by show (m : Int) < (i : Int); omega⟩, rfl⟩
  · rintro ⟨⟨h1, h2⟩, h3⟩
    refine ⟨p.1.toNat, List.mem_range.2 (by omega), ?_⟩
    have e : ((p.1.toNat : Nat) : Int) = p.1 := by omega
    rw [e, ← h3]
theorem rise_aW (i : Nat) : Rising (aW i) := rising_range i (fun _ => 2)
theorem mem_iL {i : Nat} {k : Int} : k ∈ iL i ↔ 0 ≤ k ∧ k < (i : Int) := by
  unfold iL
  rw [List.mem_map]
  constructor
  · rintro ⟨m, hm, rfl⟩
    have := List.mem_range.1 hm
    omega
  · rintro ⟨h1, h2⟩
    exact ⟨k.toNat, List.mem_range.2 (by omega), by omega⟩
theorem iL_succ (i : Nat) : iL (i + 1) = iL i ++ [(i : Int)] := by simp [iL, List.range_succ]
theorem iL_nodup (i : Nat) : (iL i).Nodup := List.pairwise_map.2 (List.pairwise_lt_range.imp (fun {a b} h => by show (a : Int) ≠ (b : Int); omega))
theorem inv_aS {n i : Nat} (h8 : n ≤ 8) (hi : i ≤ n) : PInv (aS n i) := by
  refine ⟨rise_aW i, fun p hp => ?_, iL_nodup i, fun k => ?_, ?_⟩
  · obtain ⟨⟨h1, h2⟩, h3⟩ := mem_aW.1 hp
    exact ⟨i64_small h1 (show p.1 < (n : Int) by omega) h8, .inr (.inl h3)⟩
  · show k ∈ iL i ↔ (k, 2) ∈ aW i
    rw [mem_iL, mem_aW]
    simp
  · show (aW i).length ≤ n ∧ n ≤ 8
    unfold aW
    simp
    omega
/-- One more is made, and ready. -/
theorem make_aS {n i : Nat} (hi : i < n) : ∃ s1, makeF (aS n i) (i : Int) = (0, s1) ∧ readyF s1 (i : Int) = (true, aS n (i + 1)) := by
  have hl : Mp.look (aW i) (i : Int) = none := look_none.2 (fun v hv => by
    have := (mem_aW.1 hv).1.2
    have e : ((i : Int), v).1 = (i : Int) := rfl
    omega)
  refine ⟨⟨n, put (aW i) i 1, iL i⟩, ?_, ?_⟩
  · unfold makeF
    have hc : code (aS n i).what (i : Int) = 0 := by show code (aW i) i = 0; unfold code; rw [hl]; rfl
    have hl2 : (aS n i).what.length < (aS n i).size := by show (aW i).length < n; simp [aW]; exact hi
    rw [if_pos hc, if_pos hl2]
    rfl
  · unfold readyF
    rw [if_pos (code_put_same (rise_aW i) i 1)]
    unfold restF aS
    rw [iL_succ]
    congr 2
    refine rising_ext (((rise_aW i).put i 1).put i 2) (rise_aW (i + 1)) (fun p => ?_)
    rw [mem_put, mem_put, mem_aW, mem_aW]
    constructor
    · rintro (rfl | ⟨rfl | ⟨⟨h1, h2⟩, h3⟩, h4⟩)
      · exact ⟨⟨by show (0 : Int) ≤ (i : Int); omega, by show (i : Int) < ((i + 1 : Nat) : Int); omega⟩, rfl⟩
      · exact absurd rfl h4
      · exact ⟨by omega, h2⟩
    · rintro ⟨h1, h2⟩
      by_cases hp : p.1 = (i : Int)
      · exact .inl (Prod.ext hp h2)
      · exact .inr ⟨.inr ⟨⟨by omega, h2⟩, hp⟩, hp⟩
theorem all_made (n : Nat) : aS n n = gS n (iL n) := by
  unfold aS gS
  congr 1
  refine rising_ext (rise_aW n) (rise_gW n _) (fun p => ?_)
  rw [mem_aW, mem_gW]
  constructor
  · rintro ⟨h1, h2⟩
    exact ⟨h1, by rw [if_pos (mem_iL.2 h1)]; exact h2⟩
  · rintro ⟨h1, h2⟩
    rw [if_pos (mem_iL.2 h1)] at h2
    exact ⟨h1, h2⟩
theorem take_none (n : Nat) : takeF (gS n []) = (0, false, gS n []) := rfl
theorem all_busy {n : Nat} : (those (gS n []) 40).length = n := by
  have h : those (gS n []) 40 = keys (gW n []) := by
    refine List.filter_eq_self.2 (fun k hk => ?_)
    obtain ⟨p, hp, rfl⟩ := List.mem_map.1 hk
    obtain ⟨⟨h1, h2⟩, _⟩ := mem_gW.1 hp
    have e : code (gS n []).what p.1 = 3 := by
      show code (gW n []) p.1 = 3
      rw [code_gS h1 h2, if_neg (by simp)]
    rw [e]
    rfl
  rw [h]
  simp [keys, gW]
theorem len_gW (n : Nat) (G : List Int) : (gW n G).length = n := by simp [gW]
variable {w0 w w1 : World} {g : Nat} {s : PS}
/-- A row beside the pool has grown. -/
theorem app_row {base : Nat} {v v1 : Value} {xs : List Int} (hI : IsP w0 w g s) (h : kI.R 3 w base (fun k => ¬ Own w g k) v xs) {ys : List Int} (hR1 : kI.R 3 w1 base (fun k => ¬ Own w g k) v1 ys) (hg : w.grownBy w1 v.ownBlock) :
    IsP w0 w1 g s ∧ kI.R 3 w1 base (fun k => ¬ Own w1 g k) v1 ys := by
  have hne := hI.far_row h
  refine ⟨hI.grown hg hne, Kd.R_mono hR1 (fun k hk ho => hk ((own_step hI (fun k hk => hg.block k (hk.lt hI) (hne k hk))).1 ho))⟩
theorem snoc_G {n : Nat} {G : List Int} {k : Int} (h : G.Nodup ∧ ∀ x ∈ G, 0 ≤ x ∧ x < (n : Int)) (h0 : 0 ≤ k) (h1 : k < (n : Int)) (hn : k ∉ G) : (G ++ [k]).Nodup ∧ ∀ x ∈ G ++ [k], 0 ≤ x ∧ x < (n : Int) := by
  refine ⟨List.nodup_append.2 ⟨h.1, by simp, fun a ha b hb => ?_⟩, fun x hx => ?_⟩
  · have e : b = k := by simpa using hb
    rw [e]
    rintro rfl
    exact hn ha
  · rcases List.mem_append.1 hx with h2 | h2
    · exact h.2 x h2
    · have e : x = k := by simpa using h2
      rw [e]
      exact ⟨h0, h1⟩
theorem modn (x : Int) (n : Nat) (h1 : 1 ≤ n) (h8 : n ≤ 8) : ∃ κ : Nat, κ < n ∧ Int.tmod (IntKind.u64.wrap x) (n : Int) = (κ : Int) ∧ IntKind.u64.wrap (n : Int) = (n : Int) := by
  have hw : 0 ≤ IntKind.u64.wrap x := by
    unfold IntKind.wrap
    simp [IntKind.bits, IntKind.signed]
    omega
  have h3 : 0 ≤ Int.tmod (IntKind.u64.wrap x) (n : Int) := Int.tmod_nonneg _ hw
  have h2 : Int.tmod (IntKind.u64.wrap x) (n : Int) < (n : Int) := Int.tmod_lt_of_pos _ (by omega)
  refine ⟨(Int.tmod (IntKind.u64.wrap x) (n : Int)).toNat, by omega, by omega, ?_⟩
  unfold IntKind.wrap
  simp [IntKind.bits, IntKind.signed]
  omega
set_option maxRecDepth 100000 in
set_option maxHeartbeats 8000000 in
theorem last_calls (a0 : Int) (A : Option Addr) (c0 : Nat) (l0 : List Int) (w : World) (ha : (Lit.int .i64 a0).wf = true) (hr0 : kI.C w A l0.length l0) (hc0 : l0.length ≤ c0) (hw0 : ∀ x ∈ l0, (Lit.int .i64 x).wf = true) :
    Calls Try.prog 3 #[.int .i64 a0, .slice A l0.length c0] w fun e w' => e = .returned (.bool true) ∧ Below w.heap.size w w' := by
  have HL := Aside0.mk (lives_raw w)
  have HC := Aside0.mk hr0
  have hlm : l0.length ≤ 9223372036854775807 := hr0.2.1
  obtain ⟨m, hm8, hm⟩ := mod8 a0
  obtain ⟨n, hn⟩ : ∃ n : Nat, n = m + 1 := ⟨_, rfl⟩
  have hmw : wrap64 (m : Int) = (m : Int) := by unfold wrap64; omega
  have hmw2 : wrap64 (1 + (m : Int)) = (n : Int) := by unfold wrap64; omega
  have hn1 : 1 ≤ n := by omega
  have hn8 : n ≤ 8 := by omega
  have HSZ := Aside0.mk (size_of hn1 hn8)
  have HN18 := Aside0.mk (And.intro hn1 hn8)
  clear hn hm8 hn1 hn8 hr0 hw0 ha
  go_enter Try.func3, Try.ntmps3
  go_wp2_with (first
    | (go_at_call 8; refine HL.out.mono ?_; rintro e w1 ⟨rfl, hb⟩; have HB1 := Aside0.mk hb; clear hb HL)
    | (go_at_call 9; refine (new_raw (n : Int) w w1 HB1.out).mono ?_; rw [HSZ.out]; rintro e w2 ⟨g, rfl, hi, hb, _⟩; have HI2 := Aside0.mk hi; have HB2 := Aside0.mk hb; clear hi hb HB1))
  clear hm hmw hmw2
  have hn8 := HN18.out.2
  have hn1 := HN18.out.1
  go_loopw [6] (fun v6 wr => ∃ i : Nat, i ≤ n ∧ v6 = .int .i64 i ∧ Aside0 (IsP w wr g (aS n i)) ∧ Aside0 (Below w.heap.size w wr)) (fun v6 _ => n - (intOf v6).toNat)
  case atStart => exact ⟨0, Nat.zero_le _, rfl, HI2, HB2⟩
  case round =>
    clear HI2 HB2
    obtain ⟨i, hi, rfl, HI, HB⟩ := hrel
    by_cases hlt : i < n
    · obtain ⟨s1, hk1, hk2⟩ := make_aS hlt
      have hii : I64 (i : Int) := i64_small (n := n) (by omega) (by omega) HN18.out.2
      have hv := inv_aS HN18.out.2 hi
      have hv1 := hv.make hii
      have H1 := Aside0.mk (make_any (i : Int) hii hv HI.out HB.out)
      rw [hk1] at H1 hv1
      have H2 := Aside0.mk (fun W (hI : IsP w W g s1) (hB : Below w.heap.size w W) => ready_any (i : Int) hii hv1 hI hB)
      rw [hk2] at H2
      have hin : (i : Int) < (n : Int) := by omega
      clear hk1 hk2 hii hv hv1
      go_wp2_with (first
        | (go_at_call 10; (with_reducible refine H1.out.mono ?_); rintro e wa ⟨rfl, hi, hb, hk⟩; have HIa := Aside0.mk hi; have HBa := Aside0.mk hb; clear hi hb hk H1)
        | (go_at_call 11; (with_reducible refine (H2.out wa HIa.out HBa.out).mono ?_); rintro e wb ⟨rfl, hi, hb, hk⟩; have HIb := Aside0.mk hi; have HBb := Aside0.mk hb; clear hi hb hk H2))
      go_roundw
      case measure => simp [intOf, Go.RowKit.intOf]; omega
      case rel => exact ⟨i + 1, by omega, by rw [show ((i : Int) + 1) = ((i + 1 : Nat) : Int) by omega], HIb, HBb⟩
    · have hie : n = i := by omega
      subst hie
      rw [all_made] at HI
      clear hlt hi
      go_wp2
      go_loopw [7] (fun v7 wr => ∃ j : Nat, j ≤ n ∧ v7 = .int .i64 ((j : Int) - 1) ∧ Aside0 (IsP w wr g (gS n (iL j))) ∧ Aside0 (Below w.heap.size w wr)) (fun v7 _ => ((intOf v7) + 1).toNat)
      case atStart => exact ⟨n, Nat.le_refl _, by first | rfl | simp, HI, HB⟩
      case round =>
        clear HI HB
        obtain ⟨j, hj, rfl, HI, HB⟩ := hrel
        by_cases hj0 : 0 < j
        · obtain ⟨i, rfl⟩ : ∃ i, j = i + 1 := ⟨j - 1, by omega⟩
          have hrg : ∀ x ∈ iL (i + 1), 0 ≤ x ∧ x < (n : Int) := fun x hx => by have := mem_iL.1 hx; omega
          have H1 := Aside0.mk (take_any (inv_gS hn8 (iL_nodup (i + 1)) hrg) HI.out HB.out)
          rw [iL_succ, take_gS (by rw [← iL_succ]; exact iL_nodup (i + 1)) (by rw [← iL_succ]; exact hrg)] at H1
          have hji : ((i + 1 : Nat) : Int) - 1 = (i : Int) := by omega
          rw [hji]
          clear hrg hji
          go_wp2_with (go_at_call 12; (with_reducible refine H1.out.mono ?_); rintro e wa ⟨rfl, hi, hb, hk⟩; have HIa := Aside0.mk hi; have HBa := Aside0.mk hb; clear hi hb hk)
          go_roundw
          case measure => simp [intOf, Go.RowKit.intOf]
          case rel => exact ⟨i, by omega, by first | rfl | simp, HIa, HBa⟩
        · have hj00 : j = 0 := by omega
          subst hj00
          have HI0 : Aside0 (IsP w wr g (gS n [])) := HI
          have H1 := Aside0.mk (take_any (inv_gS hn8 List.nodup_nil (fun x hx => by simp at hx)) HI0.out HB.out)
          rw [take_none] at H1
          clear hj hj0 HI
          go_wp2_with (go_at_call 12; (with_reducible refine H1.out.mono ?_); rintro e wa ⟨rfl, hi, hb, hk⟩; have HIa := Aside0.mk hi; have HBa := Aside0.mk hb; clear hi hb hk)
          go_loopw [12, 13] (fun v12 v13 wr => ∃ (i : Nat) (G : List Int), i ≤ l0.length ∧ i ≤ 20 ∧ v13 = .int .i64 i ∧ Aside0 (G.Nodup ∧ ∀ k ∈ G, 0 ≤ k ∧ k < (n : Int)) ∧ Aside0 (IsP w wr g (gS n G)) ∧ Aside0 (Below w.heap.size w wr) ∧ Aside0 (kI.R 3 wr w.heap.size (fun k => ¬ Own wr g k) v12 G)) (fun _ v13 _ => l0.length - (intOf v13).toNat)
          case atStart => exact ⟨0, [], Nat.zero_le _, Nat.zero_le _, rfl, ⟨List.nodup_nil, fun x hx => by simp at hx⟩, HIa, HBa, ⟨Kd.R_nil _ _ _ _ _⟩⟩
          case round =>
            clear HIa HBa
            obtain ⟨i, G, hi, hi20, rfl, HG, HI, HB, HR⟩ := hrel
            obtain ⟨Ag, ng, rfl⟩ := Kd.R_slice HR.out
            have hGl : G.length ≤ 8 := by
              have h1 := (inv_gS hn8 HG.out.1 HG.out.2).len
              have h2 := len_gW n G
              have h3 : (gS n G).what.length = n := h2
              have h4 : (gS n G).stack.length = G.length := rfl
              omega
            by_cases hlt : i < l0.length
            · by_cases h20 : i < 20
              · obtain ⟨ad, hA, hx0⟩ := Kd.at_int (Kd.C_below HC.out HB.out) (i : Int) (by omega) (by omega)
                subst hA
                obtain ⟨x, hxe⟩ : ∃ x, x = rd l0 (i : Int) := ⟨_, rfl⟩
                rw [← hxe, Int.toNat_natCast] at hx0
                obtain ⟨κ, hκn, hκ, hun⟩ := modn x n hn1 hn8
                have HKT := Aside0.mk (And.intro hκ hun)
                clear hκ hun
                have HKW : Aside0 (wrap64 (κ : Int) = (κ : Int)) := ⟨w64n (by omega) (by omega) rfl⟩
                have hκ64 : I64 (κ : Int) := i64_small (n := n) (by omega) (by omega) hn8
                have H1 := Aside0.mk (fun W (hI : IsP w W g (gS n G)) (hB : Below w.heap.size w W) => give_any (κ : Int) hκ64 (inv_gS hn8 HG.out.1 HG.out.2) hI hB)
                rw [give_gS (by omega) (by omega)] at H1
                have HH := Aside0.mk (has16 (κ : Int) G Ag ng wr (Kd.R_reads' HR.out).2.2 (Kd.R_reads' HR.out).2.1 (by omega))
                have h0i : (0 : Int) ≤ (i : Int) := by omega
                have hil : (i : Int) < (l0.length : Int) := by omega
                have h20b : decide ((i : Int) < 20) = true := decide_eq_true (by omega)
                have h20c : decide (i < 20) = true := decide_eq_true h20
                have HKN := Aside0.mk hκn
                have HE1 := Aside0.mk (fun (hn : (κ : Int) ∉ G) => snoc_G HG.out (by omega) (by omega) hn)
                clear hxe hκn hκ64
                have hκ := HKT.out.1
                have hun := HKT.out.2
                have hκw := HKW.out
                by_cases hin : (κ : Int) ∈ G
                · rw [if_pos hin] at H1
                  rw [decide_eq_true hin] at HH
                  clear hin HE1
                  go_wp2_with (first
                    | (go_at_call 13; (with_reducible refine HH.out.mono ?_); rintro e wa ⟨rfl, hb⟩; have HIa := Aside0.mk (HI.out.below hb); have HBa := Aside0.mk (HB.out.trans (hb.mono HB.out.size)); have HRa := Aside0.mk (HI.out.row_below hb HR.out); clear hb)
                    | (go_at_call 14; (with_reducible refine (H1.out wa HIa.out HBa.out).mono ?_); rintro e wb ⟨rfl, hi, hb, hk⟩; have HIb := Aside0.mk hi; have HBb := Aside0.mk hb; have HRb := Aside0.mk (hk.row HRa.out); clear hi hb hk))
                  go_roundw
                  case measure => clear hκ hun hκw; simp [intOf, Go.RowKit.intOf]; omega
                  case rel =>
                    clear hκ hun hκw
                    exact ⟨i + 1, G, by omega, by omega, by rw [show ((i : Int) + 1) = ((i + 1 : Nat) : Int) by omega], HG, HIb, HBb, HRb⟩
                · rw [if_neg hin] at H1
                  rw [decide_eq_false hin] at HH
                  have HGN := Aside0.mk (HE1.out hin)
                  clear hin HE1
                  go_wp2_with (first
                    | (go_at_call 13; (with_reducible refine HH.out.mono ?_); rintro e wa ⟨rfl, hb⟩; have HIa := Aside0.mk (HI.out.below hb); have HBa := Aside0.mk (HB.out.trans (hb.mono HB.out.size)); have HRa := Aside0.mk (HI.out.row_below hb HR.out); clear hb)
                    | (go_at_call 14; (with_reducible refine (H1.out wa HIa.out HBa.out).mono ?_); rintro e wb ⟨rfl, hi, hb, hk⟩; have HIb := Aside0.mk hi; have HBb := Aside0.mk hb; have HRb := Aside0.mk (hk.row HRa.out); clear hi hb hk)
                    | ((with_reducible refine gate_builtin (b := .append) (xs := #[.tmp 95, .tmp 97]) rfl ?_); (try (refine gate_guard (by rfl) ?_; dsimp only)); at_builtin; refine Kd.R_append kI (w0 := w) w.heap.size rfl (.tmp 95) (.tmp 97) 22 3 (.int .i64 0) 8 rfl Try.underlying22 info3 rfl (by decide) (by omega) (.slice Ag G.length ng) G (κ : Int) [.int .i64 (κ : Int)] (fun k => ¬ Own wb g k) (fun _ => False) rfl rfl rfl (fun _ h => h.elim) ?aF ?aO ?aB ?aS ?aL ?_; (case aF => exact fun k hk ho => absurd (ho.lt HIb.out) (Nat.not_lt.2 hk)); (case aO => exact HRb.out); (case aB => exact HBb.out); (case aS => exact HBb.out.size); (case aL => (clear hκ hun hκw; omega)); intro v4 w4 hR4 hb4 hg4 hat4; have HP4 := Aside0.mk (app_row HIb.out HRb.out hR4 hg4); have HB4 := Aside0.mk hb4; clear hR4 hb4 hg4 hat4))
                  go_roundw
                  case measure => clear hκ hun hκw; simp [intOf, Go.RowKit.intOf]; omega
                  case rel =>
                    clear hκ hun hκw
                    exact ⟨i + 1, G ++ [(κ : Int)], by omega, by omega, by rw [show ((i : Int) + 1) = ((i + 1 : Nat) : Int) by omega], HGN, ⟨HP4.out.1⟩, HB4, ⟨HP4.out.2⟩⟩
              · have hi2 : i = 20 := by omega
                subst hi2
                have hil : ((20 : Nat) : Int) < (l0.length : Int) := by omega
                have hil2 : decide ((20 : Int) < (l0.length : Int)) = true := decide_eq_true (by omega)
                have hil3 : decide (20 < l0.length) = true := decide_eq_true hlt
                rw [show ((20 : Nat) : Int) = 20 from rfl]
                clear hi hi20 h20
                go_wp2
                go_loopw [16] (fun v16 wq => ∃ j : Nat, j ≤ G.length ∧ v16 = .int .i64 ((j : Int) - 1) ∧ Aside0 (IsP w wq g (gS n (G.take j))) ∧ Aside0 (Below w.heap.size w wq) ∧ Aside0 (kI.R 3 wq w.heap.size (fun k => ¬ Own wq g k) (.slice Ag G.length ng) G)) (fun v16 _ => ((intOf v16) + 1).toNat)
                case atStart => exact ⟨G.length, Nat.le_refl _, by first | rfl | simp, ⟨by rw [List.take_length]; exact HI.out⟩, HB, HR⟩
                case round =>
                  clear HI HB HR
                  obtain ⟨j, hj, rfl, HI, HB, HR⟩ := hrel
                  by_cases hj0 : 0 < j
                  · obtain ⟨q, rfl⟩ : ∃ q, j = q + 1 := ⟨j - 1, by omega⟩
                    have hql : q < G.length := by omega
                    have htk : G.take (q + 1) = G.take q ++ [G[q]] := List.take_succ_eq_append_getElem hql
                    have hnd : (G.take (q + 1)).Nodup := HG.out.1.sublist (List.take_sublist _ _)
                    have hrg : ∀ x ∈ G.take (q + 1), 0 ≤ x ∧ x < (n : Int) := fun x hx => HG.out.2 x (List.mem_of_mem_take hx)
                    have H1 := Aside0.mk (take_any (inv_gS hn8 hnd hrg) HI.out HB.out)
                    rw [htk, take_gS (by rw [← htk]; exact hnd) (by rw [← htk]; exact hrg)] at H1
                    have hrd : rd G (q : Int) = G[q] := by simp [rd, List.getD, hql]
                    obtain ⟨y, hy⟩ : ∃ y, y = G[q] := ⟨_, rfl⟩
                    rw [← hy] at H1 hrd
                    have HRD := Aside0.mk hrd
                    have hjq : ((q + 1 : Nat) : Int) - 1 = (q : Int) := by omega
                    rw [hjq]
                    have h0q : (0 : Int) ≤ (q : Int) := by omega
                    have hqg : (q : Int) < (G.length : Int) := by omega
                    have hGl2 := hGl
                    clear hrg hjq hnd htk hy hrd
                    go_wp2_with (go_at_call 12; (with_reducible refine H1.out.mono ?_); rintro e wa ⟨rfl, hi, hb, hk⟩; have HIa := Aside0.mk hi; have HBa := Aside0.mk hb; have HRa := Aside0.mk (hk.row HR.out); obtain ⟨ad, hA, hxa⟩ := Kd.at_int (Kd.R_reads' HRa.out).2.2 (q : Int) h0q hqg; rw [HRD.out, Int.toNat_natCast] at hxa; subst hA; clear hi hb hk)
                    go_roundw
                    case measure => simp [intOf, Go.RowKit.intOf]
                    case rel => exact ⟨q, by omega, by first | rfl | simp, HIa, HBa, HRa⟩
                  · have hj00 : j = 0 := by omega
                    subst hj00
                    have HI0 : Aside0 (IsP w wr g (gS n [])) := HI
                    have hv0 : PInv (gS n []) := inv_gS hn8 List.nodup_nil (fun x hx => by simp at hx)
                    have HBU := Aside0.mk (busy_raw hv0 HI0.out)
                    have HLN := Aside0.mk (all_busy (n := n))
                    generalize those (gS n []) 40 = bz at HBU HLN
                    have HRO := Aside0.mk (fun W (h : IsP w W g (gS n [])) => room_raw h)
                    rw [show ((gS n []).size : Int) - ((gS n []).what.length : Int) = 0 by show (n : Int) - ((gW n []).length : Int) = 0; rw [len_gW]; omega] at HRO
                    clear hj hj0 HI hv0
                    go_wp2_with (first
                      | (go_at_call 15; (with_reducible refine HBU.out.mono ?_); rintro e wy ⟨v, rfl, hr, hb⟩; obtain ⟨Ay, ny, rfl⟩ := Kd.R_slice hr; rw [HLN.out]; have HIy := Aside0.mk (HI0.out.below hb); have HBy := Aside0.mk (HB.out.trans (hb.mono HB.out.size)); clear hr hb)
                      | (go_at_call 16; (with_reducible refine (HRO.out wy HIy.out).mono ?_); rintro e wz ⟨rfl, rfl⟩))
                    go_ret
                    exact ⟨rfl, HBy.out⟩
            · have hie : l0.length = i := by omega
              subst hie
              clear hlt hi
              go_wp2
              go_loopw [16] (fun v16 wq => ∃ j : Nat, j ≤ G.length ∧ v16 = .int .i64 ((j : Int) - 1) ∧ Aside0 (IsP w wq g (gS n (G.take j))) ∧ Aside0 (Below w.heap.size w wq) ∧ Aside0 (kI.R 3 wq w.heap.size (fun k => ¬ Own wq g k) (.slice Ag G.length ng) G)) (fun v16 _ => ((intOf v16) + 1).toNat)
              case atStart => exact ⟨G.length, Nat.le_refl _, by first | rfl | simp, ⟨by rw [List.take_length]; exact HI.out⟩, HB, HR⟩
              case round =>
                clear HI HB HR
                obtain ⟨j, hj, rfl, HI, HB, HR⟩ := hrel
                by_cases hj0 : 0 < j
                · obtain ⟨q, rfl⟩ : ∃ q, j = q + 1 := ⟨j - 1, by omega⟩
                  have hql : q < G.length := by omega
                  have htk : G.take (q + 1) = G.take q ++ [G[q]] := List.take_succ_eq_append_getElem hql
                  have hnd : (G.take (q + 1)).Nodup := HG.out.1.sublist (List.take_sublist _ _)
                  have hrg : ∀ x ∈ G.take (q + 1), 0 ≤ x ∧ x < (n : Int) := fun x hx => HG.out.2 x (List.mem_of_mem_take hx)
                  have H1 := Aside0.mk (take_any (inv_gS hn8 hnd hrg) HI.out HB.out)
                  rw [htk, take_gS (by rw [← htk]; exact hnd) (by rw [← htk]; exact hrg)] at H1
                  have hrd : rd G (q : Int) = G[q] := by simp [rd, List.getD, hql]
                  obtain ⟨y, hy⟩ : ∃ y, y = G[q] := ⟨_, rfl⟩
                  rw [← hy] at H1 hrd
                  have HRD := Aside0.mk hrd
                  have hjq : ((q + 1 : Nat) : Int) - 1 = (q : Int) := by omega
                  rw [hjq]
                  have h0q : (0 : Int) ≤ (q : Int) := by omega
                  have hqg : (q : Int) < (G.length : Int) := by omega
                  have hGl2 := hGl
                  clear hrg hjq hnd htk hy hrd
                  go_wp2_with (go_at_call 12; (with_reducible refine H1.out.mono ?_); rintro e wa ⟨rfl, hi, hb, hk⟩; have HIa := Aside0.mk hi; have HBa := Aside0.mk hb; have HRa := Aside0.mk (hk.row HR.out); obtain ⟨ad, hA, hxa⟩ := Kd.at_int (Kd.R_reads' HRa.out).2.2 (q : Int) h0q hqg; rw [HRD.out, Int.toNat_natCast] at hxa; subst hA; clear hi hb hk)
                  go_roundw
                  case measure => simp [intOf, Go.RowKit.intOf]
                  case rel => exact ⟨q, by omega, by first | rfl | simp, HIa, HBa, HRa⟩
                · have hj00 : j = 0 := by omega
                  subst hj00
                  have HI0 : Aside0 (IsP w wr g (gS n [])) := HI
                  have hv0 : PInv (gS n []) := inv_gS hn8 List.nodup_nil (fun x hx => by simp at hx)
                  have HBU := Aside0.mk (busy_raw hv0 HI0.out)
                  have HLN := Aside0.mk (all_busy (n := n))
                  generalize those (gS n []) 40 = bz at HBU HLN
                  have HRO := Aside0.mk (fun W (h : IsP w W g (gS n [])) => room_raw h)
                  rw [show ((gS n []).size : Int) - ((gS n []).what.length : Int) = 0 by show (n : Int) - ((gW n []).length : Int) = 0; rw [len_gW]; omega] at HRO
                  clear hj hj0 HI hv0
                  go_wp2_with (first
                    | (go_at_call 15; (with_reducible refine HBU.out.mono ?_); rintro e wy ⟨v, rfl, hr, hb⟩; obtain ⟨Ay, ny, rfl⟩ := Kd.R_slice hr; rw [HLN.out]; have HIy := Aside0.mk (HI0.out.below hb); have HBy := Aside0.mk (HB.out.trans (hb.mono HB.out.size)); clear hr hb)
                    | (go_at_call 16; (with_reducible refine (HRO.out wy HIy.out).mono ?_); rintro e wz ⟨rfl, rfl⟩))
                  go_ret
                  exact ⟨rfl, HBy.out⟩
end Go.Proofs.Yteagjolmikbllaa.Ob
