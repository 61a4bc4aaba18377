/- The law HeapSorts. -/
import Derived.Test.YtaphomilgoobiaaHeapUpd
namespace Go.Proofs.Ytaphomilgoobiaa
open Go.RowKit
open SP

theorem IsRow.at64 {w : World} {a : Option Addr} {len cap : Nat} {zs : List Int} (h : IsRow .i64 w a len cap zs) {i : Nat} (hi : i < len) :
    ∃ sb so x, a = some ⟨sb, so, none⟩ ∧ w.cell? ⟨sb, so + i, none⟩ = some (.int .i64 x) ∧ -9223372036854775808 ≤ x ∧ x ≤ 9223372036854775807 := by
  rcases h with ⟨_, h, _⟩ | ⟨⟨sb, so, sp⟩, rfl, h1, h4, h2, hc, hw⟩
  · omega
  · have hz : i < zs.length := by omega
    have hr : -9223372036854775808 ≤ zs.getD i 0 ∧ zs.getD i 0 ≤ 9223372036854775807 := by
      have hm : zs.getD i 0 ∈ zs := by rw [List.getD_eq_getElem?_getD, List.getElem?_eq_getElem hz]; exact List.getElem_mem _
      have := hw _ hm
      simp only [Lit.wf, Bool.and_eq_true, decide_eq_true_eq] at this
      rw [show IntKind.i64.min = -9223372036854775808 from by decide, show IntKind.i64.max = 9223372036854775807 from by decide] at this
      exact this
    cases sp with
    | none =>
      have h3 := hc i hz
      have e : (⟨sb, so, none⟩ : Addr).add i = ⟨sb, so + i, none⟩ := by unfold Addr.add; split <;> simp_all
      rw [e] at h3
      exact ⟨sb, so, _, rfl, h3, hr⟩
    | some s =>
      have h3 := hc 0 (by omega)
      have e : (⟨sb, so, some s⟩ : Addr).add 0 = ⟨sb, so, some s⟩ := rfl
      rw [e] at h3
      unfold World.cell? at h3
      split at h3 <;> simp at h3

theorem sortE_pw (M : List (Int × Int)) : (sortE M).Pairwise leE := by
  have := List.pairwise_mergeSort (le := fun x y => !(Go.Proofs.ltOf cmpE) y x) (l := M) (fun a b c h1 h2 => by
    rw [ltE] at *; simp only [Bool.not_eq_true', decide_eq_false_iff_not] at *; omega) (fun a b => by
    rw [ltE, ltE]; simp only [Bool.or_eq_true, Bool.not_eq_true', decide_eq_false_iff_not]; omega)
  exact this.imp (fun {a b} h => by rw [ltE] at h; simp only [Bool.not_eq_true', decide_eq_false_iff_not] at h; unfold leE; omega)
theorem sortE_id {M : List (Int × Int)} (h : M.Pairwise leE) : sortE M = M :=
  List.Perm.eq_of_pairwise (le := leE) (fun a b _ _ h1 h2 => leE.anti h1 h2) (sortE_pw M) h (sortE_perm M)

/-- The entries are numbered and their keys are numbers of 64 bits. -/
structure Numb (n : Nat) (L : List (Int × Int)) : Prop where
  len : L.length = n
  ids : ∀ id : Int, id ∈ idsE L ↔ 0 ≤ id ∧ id < n
  keys : ∀ x ∈ L, -9223372036854775808 ≤ x.2
theorem Numb.push {n : Nat} {L : List (Int × Int)} (h : Numb n L) {key : Int} (hk : -9223372036854775808 ≤ key) : Numb (n + 1) (L ++ [((n : Int), key)]) := by
  refine ⟨by simp [h.len], fun id => ?_, fun x hx => ?_⟩
  · have := h.ids id
    unfold idsE at *
    simp only [List.map_append, List.mem_append, this, List.map_cons, List.map_nil, List.mem_singleton]
    omega
  · rcases List.mem_append.1 hx with h1 | h1
    · exact h.keys x h1
    · obtain rfl : x = ((n : Int), key) := by simpa using h1
      exact hk
theorem Numb.set {n : Nat} {L : List (Int × Int)} (h : Numb n L) (id : Int) {key : Int} (hk : -9223372036854775808 ≤ key) : Numb n (setK id key L) := by
  refine ⟨by unfold setK; simp [h.len], fun i => by rw [idsE_setK]; exact h.ids i, fun x hx => ?_⟩
  obtain ⟨y, hy, rfl⟩ := List.mem_map.1 hx
  split
  · exact hk
  · exact h.keys y hy

def ltE' (l x : Int × Int) : Prop := l.2 < x.2 ∨ l.2 = x.2 ∧ l.1 < x.1
theorem Numb.next {n : Nat} {L : List (Int × Int)} (h : Numb n L) (hn : (idsE L).Nodup) {i : Nat} {l x : Int × Int} (hl : ((-1, -9223372036854775808) :: sortE L)[i]? = some l) (hx : (sortE L)[i]? = some x) : ltE' l x := by
  have hxm : x ∈ L := (sortE_perm L).mem_iff.1 (List.mem_of_getElem? hx)
  cases i with
  | zero =>
    obtain rfl : l = (-1, -9223372036854775808) := by simpa using hl.symm
    have h1 := h.keys x hxm
    have h2 := (h.ids x.1).1 (List.mem_map.2 ⟨x, hxm, rfl⟩)
    unfold ltE'
    simp only
    omega
  | succ i =>
    have hl2 : (sortE L)[i]? = some l := by simpa using hl
    have hi : i + 1 < (sortE L).length := (List.getElem?_eq_some_iff.1 hx).1
    have h1 := List.pairwise_iff_getElem.1 (sortE_pw L) i (i + 1) (by omega) hi (by omega)
    have e1 : (sortE L)[i] = l := (List.getElem?_eq_some_iff.1 hl2).2
    have e2 : (sortE L)[i + 1] = x := (List.getElem?_eq_some_iff.1 hx).2
    rw [e1, e2] at h1
    have hne : l.1 ≠ x.1 := by
      intro he
      have hns : (idsE (sortE L)).Nodup := (List.Perm.nodup_iff (l₁ := idsE (sortE L)) (l₂ := idsE L) ((sortE_perm L).map (fun x : Int × Int => x.1))).2 hn
      have := (List.nodup_iff_pairwise_ne.1 hns)
      have h3 := List.pairwise_iff_getElem.1 this i (i + 1) (by unfold idsE; rw [List.length_map]; omega) (by unfold idsE; rw [List.length_map]; omega) (by omega)
      unfold idsE at h3
      rw [List.getElem_map, List.getElem_map, e1, e2] at h3
      exact h3 he
    unfold leE at h1
    unfold ltE'
    omega

/-- What is left is the sorted list from i on. -/
theorem rest_least {S Lr : List (Int × Int)} {i : Nat} {x : Int × Int} (h : sortE Lr = S.drop i) (hx : S[i]? = some x) (hn : (idsE Lr).Nodup) : LeastE x Lr ∧ sortE (delK x.1 Lr) = S.drop (i + 1) := by
  obtain ⟨h1, h2⟩ := List.getElem?_eq_some_iff.1 hx
  have hd : S.drop i = x :: S.drop (i + 1) := by rw [List.drop_eq_getElem_cons h1, h2]
  have hs : sortE Lr = x :: S.drop (i + 1) := h.trans hd
  have hp : (x :: S.drop (i + 1)).Perm Lr := hs ▸ sortE_perm Lr
  have hw := sortE_pw Lr
  rw [hs] at hw
  obtain ⟨w1, w2⟩ := List.pairwise_cons.1 hw
  refine ⟨⟨hp.mem_iff.1 (List.mem_cons_self), fun y hy => ?_⟩, ?_⟩
  · rcases List.mem_cons.1 (hp.mem_iff.2 hy) with rfl | h3
    · exact leE.refl _
    · exact w1 y h3
  · rw [← sortE_congr (delK_perm hn hp (.refl _)), sortE_id w2]

theorem Ch.more {W w : World} {b N M : Nat} {R : List SP} (o : Own w (Ch W b N :: R)) (h : N ≤ M := by omega) : Own w (Ch W b M :: R) := by
  obtain ⟨a, len, cap, zs, at_, h1, h2, h3, h4⟩ := Ch.open o
  exact Ch.shut h1 h2 (by omega) h4
def SrtRel (W : World) (hb cb n : Nat) (v : Value) (wr : World) : Prop :=
  ∃ (i : Nat) (L : List (Int × Int)), v = .int .i64 (i : Int) ∧ i ≤ n ∧ Numb i L ∧ Own wr [HeapA hb 64 L, Ch W cb (5 * i), old W] ∧ Calm W wr
def PopRel (W : World) (hb cb lb n : Nat) (a : Option Addr) (c : Nat) (S : List (Int × Int)) (v : Value) (wr : World) : Prop :=
  ∃ (i : Nat) (l : Int × Int) (Lr : List (Int × Int)), v = .int .i64 (i : Int) ∧ i ≤ n ∧ ((-1, -9223372036854775808) :: S)[i]? = some l ∧ sortE Lr = S.drop i ∧
    Own wr [HeapA hb 64 Lr, slc 41 2 a n c (flat ent S), cel lb 41 [.int .i64 l.1, .int .i64 l.2], Ch W cb (5 * n), old W] ∧ Calm W wr
set_option maxHeartbeats 3200000 in
set_option maxRecDepth 100000 in
theorem heapSorts_walk (a0 : Option Addr) (len0 cap0 : Nat) (z0 : List Int) (a1 : Option Addr) (len1 cap1 : Nat) (z1 : List Int) (w : World) (w0 : IsRow .i64 w a0 len0 cap0 z0) (w1 : IsRow .i64 w a1 len1 cap1 z1) :
    Calls Try.prog 4 #[.slice a0 len0 cap0, .slice a1 len1 cap1] w fun e w' => e = .returned (.bool true) ∧ Below w.heap.size w w' := by
  have oW := Own.start w
  by_cases hbig : 40 < len1
  · have hbI : (40 : Int) < (len1 : Int) := by omega
    go_enter Try.func4, Try.ntmps4
    go_wp2_with fail
    refine (awake4_spec oW).mono ?_
    rintro e1 v1 ⟨rfl, o1, k1⟩
    go_wp2
    go_ret
    exact ⟨rfl, o1.below k1⟩
  · have hbI : ¬ (40 : Int) < (len1 : Int) := by omega
    go_enter Try.func4, Try.ntmps4
    go_wp2_with fail
    refine (genNew_spec a0 len0 cap0 z0 w0 oW).mono ?_
    rintro e1 v1 ⟨cb, rfl, o1, k1⟩
    go_wp2_with fail
    refine (heapNew_spec 64 (by omega) (by omega) o1).mono ?_
    rintro e2 v2 ⟨hb, rfl, o2, k2⟩
    have hT : SrtRel w hb cb len1 (.int .i64 0) v2 := ⟨0, [], rfl, by omega, ⟨rfl, fun id => by simp [idsE] <;> omega, fun x hx => by simp at hx⟩, HeapA.new o2, k1.trans k2⟩
    go_wp2
    go_loopw [8] (fun v wr => SrtRel w hb cb len1 v wr) (fun v _ => len1 - (intOf v).toNat)
    case atStart => exact hT
    case round =>
      clear hT o1 o2 k1 k2
      obtain ⟨i, L, rfl, hi, hN, oR, kR⟩ := hrel
      by_cases hlt : i < len1
      · obtain ⟨sb, so, key, hag, hc0, hk0, hk1⟩ := w1.at64 hlt
        subst hag
        have hcr := (oR.up 2).old_cell hc0
        have hp : pushE 64 (i : Int) L = 0 := by
          unfold pushE
          rw [if_neg (by omega), if_neg (fun h => by have := (hN.ids _).1 h; omega), if_neg (by rw [hN.len]; omega)]
        have hpl : pushL 64 (i : Int) key L = L ++ [((i : Int), key)] := if_pos hp
        have hN2 := hN.push hk0
        have hl9 : (L.length : Int) ≤ 900000 := by rw [hN.len]; omega
        clear hN
        go_wp2_with fail
        refine (pushA_spec (L := L) (i : Int) key hl9 oR).mono ?_
        rintro e4 v4 ⟨rfl, o5, k5⟩
        rw [hp]
        rw [hpl] at o5
        clear hp hpl hcr
        go_wp2_with fail
        refine (next_spec w cb (5 * i) 3 _ _ (by omega) (by omega) (by omega) (o5.re [1, 2, 0])).mono ?_
        rintro e6 v6 ⟨r, hr0, hr1, rfl, o6, k6⟩
        by_cases hr : r = 0
        · subst hr
          have hs : IntKind.i64.wrap ((i : Int) + 1) = (i : Int) + 1 := by rw [IntKind.wrap_i64]; omega
          go_wp2_with fail
          refine (next_spec w cb (5 * i + 1) ((i : Int) + 1) _ _ (by omega) (by omega) (by omega) o6).mono ?_
          rintro e7 v7 ⟨d, hd0, hd1, rfl, o7, k7⟩
          go_wp2_with fail
          refine (int64_spec (W := w) cb (5 * i + 1 + 1) (by omega) o7).mono ?_
          rintro e8 v8 ⟨nk, hnk0, hnk1, rfl, o8, k8⟩
          have hdm : d ∈ idsE (L ++ [((i : Int), key)]) := (hN2.ids d).2 ⟨hd0, by omega⟩
          have hN3 := hN2.set d hnk0
          have hl8 : ((L ++ [((i : Int), key)]).length : Int) ≤ 900000 := by rw [hN2.len]; omega
          clear hN2
          go_wp2_with fail
          refine (updateA_some d nk hdm hl8 (o8.up 2)).mono ?_
          rintro e9 v9 ⟨rfl, o9, k9⟩
          go_wp2
          go_roundw
          case rel => exact ⟨i + 1, _, by go_num, by omega, hN3, (Ch.more (M := 5 * (i + 1)) (o9.up 1)).re [1, 0, 2], kR.trans (k5.trans (k6.trans (k7.trans (k8.trans k9))))⟩
          case measure => simp [intOf]; omega
        · have hrb : (r == 0) = false := by rw [beq_eq_false_iff_ne]; exact hr
          go_wp2
          go_roundw
          case rel => exact ⟨i + 1, _, by go_num, by omega, hN2, (Ch.more (M := 5 * (i + 1)) o6).re [2, 0, 1], kR.trans (k5.trans k6)⟩
          case measure => simp [intOf]; omega
      · have hin : i = len1 := by omega
        subst hin
        have hnd := HeapA.nodup oR
        have HN := Lib.hid hN
        have hS : (sortE L).length = i := by rw [sortE_len]; exact hN.len
        have hL6 : L.length ≤ 1000000 := by rw [hN.len]; omega
        have hLI : L.length = i := hN.len
        clear hN
        go_wp2_with fail
        refine (entriesA_spec hL6 oR).mono ?_
        rintro e3 v3 ⟨ea, ec, rfl, o3, k3⟩
        rw [hLI] at o3 ⊢
        have HLI := Lib.hid hLI
        have HS := Lib.hid hS
        clear hLI hS
        have o4 := (o3.alloc (.cells #[.int .i64 (-1), .int .i64 (-9223372036854775808)] 41)).re [2, 1, 0, 3, 4]
        obtain ⟨S, hSd⟩ : ∃ S, S = sortE L := ⟨_, rfl⟩
        have HSd := Lib.hid hSd
        rw [← hSd] at o4
        have hT2 : PopRel w hb cb v3.heap.size i ea ec S (.int .i64 0) (v3.alloc (.cells #[.int .i64 (-1), .int .i64 (-9223372036854775808)] 41)) :=
          ⟨0, (-1, -9223372036854775808), L, rfl, by omega, rfl, hSd.symm, o4, kR.trans (k3.trans ⟨rfl, rfl, rfl⟩)⟩
        clear hSd o4 o3 oR
        go_wp2
        go_loopw [11] (fun v wr => PopRel w hb cb v3.heap.size i ea ec S v wr) (fun v _ => i - (intOf v).toNat)
        case atStart => exact hT2
        case round =>
          clear hT2
          obtain ⟨j, l, Lr, rfl, hj, hl, hsr, oR2, kR2⟩ := hrel
          by_cases hlt : j < i
          · obtain ⟨x, hx⟩ : ∃ x, S[j]? = some x := ⟨_, List.getElem?_eq_getElem (by rw [HSd.out, HS.out]; exact hlt)⟩
            have hnd2 := HeapA.nodup oR2
            obtain ⟨hle, hrest⟩ := rest_least hsr hx hnd2
            have hlx : ltE' l x := HN.out.next hnd (by rw [← HSd.out]; exact hl) (by rw [← HSd.out]; exact hx)
            have hlen : (Lr.length : Int) ≤ 900000 := by
              have h1 := congrArg List.length hsr
              rw [sortE_len, List.length_drop, HSd.out, HS.out] at h1
              omega
            have hnl : ((-1, -9223372036854775808) :: S)[j + 1]? = some x := by simpa using hx
            have HR := Lib.hid hrest
            have HNL := Lib.hid hnl
            have HX := Lib.hid hx
            clear hsr hx hnd2 hrest hnl hl
            obtain ⟨x1, x2⟩ := x
            obtain ⟨l1, l2⟩ := l
            go_wp2_with fail
            refine (popA_some (x1, x2) hle hlen oR2).mono ?_
            rintro e5 v5 ⟨rfl, o5, k5⟩
            clear hle hlen
            obtain ⟨g, hg, d0, d1, -, hgl⟩ := ent_cells (o5.up 1) HX.out (by omega)
            subst hg
            have t0 := (o5.up 2).cell 0
            have t1 := (o5.up 2).cell 1
            have tl := (o5.up 2).celLt
            have tf := (o5.up 2).frozen
            unfold ltE' at hlx
            simp only at hlx
            by_cases heq : l2 = x2
            · subst heq
              have hl1 : ¬ (x1 ≤ l1) := by omega
              have hjI : ¬ ((i : Int) ≤ (j : Int)) := by omega
              clear hlx
              go_wp2
              go_quiet (fail)
              go_wp2
              go_roundw
              case rel => exact ⟨j + 1, (x1, l2), _, by go_num, by omega, HNL.out, HR.out, (((((o5.more _).drewN _).up 2).setCell 0 (.int .i64 x1)).setCell 1 (.int .i64 l2)).re [1, 2, 0, 3, 4], kR2.trans (k5.trans ⟨rfl, rfl, rfl⟩)⟩
              case measure => simp [intOf]; omega
            · have hl2 : ¬ (x2 < l2) := by omega
              have heq2 : (x2 == l2) = false := by rw [beq_eq_false_iff_ne]; omega
              have hjI : ¬ ((i : Int) ≤ (j : Int)) := by omega
              clear hlx
              go_wp2
              go_quiet (fail)
              go_wp2
              go_roundw
              case rel => exact ⟨j + 1, (x1, x2), _, by go_num, by omega, HNL.out, HR.out, (((((o5.more _).drewN _).up 2).setCell 0 (.int .i64 x1)).setCell 1 (.int .i64 x2)).re [1, 2, 0, 3, 4], kR2.trans (k5.trans ⟨rfl, rfl, rfl⟩)⟩
              case measure => simp [intOf]; omega
          · obtain rfl : j = i := by omega
            have hLr : Lr = [] := by
              have h1 := congrArg List.length hsr
              rw [sortE_len, List.length_drop, HSd.out, HS.out] at h1
              exact List.eq_nil_of_length_eq_zero (by omega)
            subst hLr
            clear hsr hl
            go_wp2_with fail
            refine (popA_none oR2).mono ?_
            rintro e5 v5 ⟨rfl, o5, k5⟩
            have o6 := o5.alloc (.cells #[.int .i64 0, .int .i64 0] 41)
            go_wp2_with fail
            refine (awake4_spec o6).mono ?_
            rintro e6 v6 ⟨rfl, o7, k7⟩
            go_wp2
            go_ret
            exact ⟨rfl, (o7.up 5).below (kR2.trans (k5.trans k7.al))⟩
end Go.Proofs.Ytaphomilgoobiaa
