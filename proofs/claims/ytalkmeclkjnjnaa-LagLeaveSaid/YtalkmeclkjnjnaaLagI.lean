/- The laws of the ledger: LagLeave's walk. -/
import Derived.Test.YtalkmeclkjnjnaaLagF
namespace Go.Proofs.Ytalkmeclkjnjnaa
open Go.RowKit
open SP
section
variable {P : SP} {W w w' : World} {R : List SP} {b rb cb N : Nat} {L : List Tg}
/-- Flows without a lag. -/
def freshL (l : List (Int × Int)) : List Tg := l.map fun p => ⟨p.1, p.2, 0⟩
structure JnOk (i : Nat) (l : List (Int × Int)) : Prop where
  len : l.length = i
  key : ∀ (j : Nat) (p : Int × Int), l[j]? = some p → p.1 = (j : Int)
  rng : ∀ p ∈ l, 1 ≤ p.2 ∧ p.2 ≤ 16
theorem JnOk.next {i : Nat} {l : List (Int × Int)} (h : JnOk i l) {x : Int} (h1 : 1 ≤ x) (h2 : x ≤ 16) : JnOk (i + 1) (l ++ [((i : Int), x)]) := by
  refine ⟨by rw [List.length_append, h.len]; rfl, fun j p hj => ?_, fun p hp => ?_⟩
  · by_cases hlt : j < l.length
    · rw [List.getElem?_append_left hlt] at hj; exact h.key j p hj
    · have hl := (List.getElem?_eq_some_iff.1 hj).1
      rw [List.length_append] at hl
      have hjl : j = l.length := by simp at hl; omega
      subst hjl
      rw [List.getElem?_append_right (Nat.le_refl _), Nat.sub_self] at hj
      simp at hj
      rw [← hj, h.len]
  · rcases List.mem_append.1 hp with hp | hp
    · exact h.rng p hp
    · simp at hp; rw [hp]; exact ⟨h1, h2⟩
theorem fresh_key {i : Nat} {l : List (Int × Int)} (h : JnOk i l) {t : Tg} (ht : t ∈ freshL l) : 0 ≤ t.f ∧ t.f < i ∧ t.s = 0 ∧ 1 ≤ t.w ∧ t.w ≤ 16 := by
  obtain ⟨p, hp, rfl⟩ := List.mem_map.1 ht
  obtain ⟨j, hj, ej⟩ := List.mem_iff_getElem.1 hp
  have := h.key j p (by rw [List.getElem?_eq_getElem hj, ej])
  have hr := h.rng p hp
  have := h.len
  exact ⟨by simp only; omega, by simp only; omega, rfl, hr.1, hr.2⟩
theorem insT_last {x : Tg} : ∀ {L : List Tg}, (∀ t ∈ L, t.f < x.f) → insT x L = L ++ [x]
  | [], _ => rfl
  | a :: L, h => by
    unfold insT
    rw [if_pos (h a (by simp)), insT_last fun t ht => h t (by simp [ht])]; rfl
theorem fresh_join {i : Nat} {l : List (Int × Int)} (h : JnOk i l) (hi : i < 32) {x : Int} (h1 : 1 ≤ x) (h2 : x ≤ 16) : nJoin (freshL l) (i : Int) x = (0, freshL (l ++ [((i : Int), x)])) := by
  unfold nJoin
  rw [if_neg (by omega)]
  have hn : fget (freshL l) (i : Int) = none := fget_none.2 fun t ht => by have := fresh_key h ht; omega
  rw [hn, if_neg (by simp), insT_last fun t ht => by have := fresh_key h ht; simp only; omega]
  unfold freshL; rw [List.map_append]; rfl
/-- The first flow leaves behind a transfer of k from it to the second. -/
theorem fresh_two {i : Nat} {l : List (Int × Int)} (h : JnOk i l) (h2 : 2 ≤ i) : ∃ w0 w1 l', l = (0, w0) :: (1, w1) :: l' ∧ (1 ≤ w0 ∧ w0 ≤ 16) ∧ 1 ≤ w1 ∧ w1 ≤ 16 := by
  match l, h with
  | [], h => have := h.len; simp at this; omega
  | [_], h => have := h.len; simp at this; omega
  | p :: q :: l', h =>
    have hp := h.key 0 p rfl
    have hq := h.key 1 q rfl
    obtain ⟨p1, p2⟩ := p
    obtain ⟨q1, q2⟩ := q
    have e1 : p1 = 0 := hp
    have e2 : q1 = 1 := hq
    subst e1; subst e2
    exact ⟨p2, q2, l', rfl, h.rng (0, p2) (by simp), h.rng (1, q2) (by simp)⟩
theorem setT_none' {x : Tg} : ∀ {L : List Tg}, (∀ t ∈ L, t.f ≠ x.f) → setT x L = L
  | [], _ => rfl
  | a :: L, h => by
    show (if a.f = x.f then x else a) :: setT x L = _
    rw [if_neg (h a (by simp)), setT_none' fun t ht => h t (by simp [ht])]
theorem fresh_move {i : Nat} {l' : List (Int × Int)} {w0 w1 k : Int} (h : JnOk i ((0, w0) :: (1, w1) :: l')) (h1 : 1 ≤ k) (h2 : k ≤ 4096) :
    nMove (freshL ((0, w0) :: (1, w1) :: l')) 1 0 k = (0, ⟨0, w0, -k⟩ :: ⟨1, w1, k⟩ :: freshL l') := by
  have hr : ∀ t ∈ freshL l', t.f ≠ 1 ∧ t.f ≠ 0 := fun t ht => by
    obtain ⟨p, hp, rfl⟩ := List.mem_map.1 ht
    obtain ⟨j, hj, ej⟩ := List.mem_iff_getElem.1 hp
    have := h.key (j + 2) p (by simp only [List.getElem?_cons_succ]; rw [List.getElem?_eq_getElem hj, ej])
    constructor <;> (simp only; omega)
  show nMove (⟨0, w0, 0⟩ :: ⟨1, w1, 0⟩ :: freshL l') 1 0 k = _
  have g1 : fget (⟨0, w0, 0⟩ :: ⟨1, w1, 0⟩ :: freshL l') 1 = some ⟨1, w1, 0⟩ := rfl
  have g0 : fget (⟨0, w0, 0⟩ :: ⟨1, w1, 0⟩ :: freshL l') 0 = some ⟨0, w0, 0⟩ := rfl
  rw [nMove_some g1 g0, if_neg (by omega), if_neg (by omega), if_neg (by simp only; omega)]
  congr 1
  have e1 : setT ⟨1, w1, 0 + k⟩ (⟨0, w0, 0⟩ :: ⟨1, w1, 0⟩ :: freshL l') = ⟨0, w0, 0⟩ :: ⟨1, w1, 0 + k⟩ :: setT ⟨1, w1, 0 + k⟩ (freshL l') := rfl
  rw [e1, setT_none' fun t ht => (hr t ht).1]
  have e2 : setT ⟨0, w0, 0 - k⟩ (⟨0, w0, 0⟩ :: ⟨1, w1, 0 + k⟩ :: freshL l') = ⟨0, w0, 0 - k⟩ :: ⟨1, w1, 0 + k⟩ :: setT ⟨0, w0, 0 - k⟩ (freshL l') := rfl
  rw [e2, setT_none' fun t ht => (hr t ht).2, Int.zero_add, Int.zero_sub]
theorem fresh_leave {i : Nat} {l' : List (Int × Int)} {w0 w1 k : Int} (h : JnOk i ((0, w0) :: (1, w1) :: l')) :
    nLeave (⟨0, w0, -k⟩ :: ⟨1, w1, k⟩ :: freshL l') 0 = ((-k, 0), addS (⟨1, w1, k⟩ :: freshL l') (lagSplit (-k) (pws ((1, w1) :: l')))) := by
  have hr : ∀ t ∈ freshL l', t.f ≠ 0 := fun t ht => by
    obtain ⟨p, hp, rfl⟩ := List.mem_map.1 ht
    obtain ⟨j, hj, ej⟩ := List.mem_iff_getElem.1 hp
    have := h.key (j + 2) p (by simp only [List.getElem?_cons_succ]; rw [List.getElem?_eq_getElem hj, ej])
    simp only; omega
  have g0 : fget (⟨0, w0, -k⟩ :: ⟨1, w1, k⟩ :: freshL l') 0 = some ⟨0, w0, -k⟩ := rfl
  unfold nLeave
  rw [g0]
  have hd : delT 0 (⟨0, w0, -k⟩ :: ⟨1, w1, k⟩ :: freshL l') = ⟨1, w1, k⟩ :: freshL l' := by
    unfold delT
    rw [List.filter_cons_of_neg (by simp), List.filter_cons_of_pos (by simp), List.filter_eq_self.2]
    intro t ht
    have := hr t ht
    simpa using this
  simp only
  rw [hd]
  have hw : wts (⟨1, w1, k⟩ :: freshL l') = pws ((1, w1) :: l') := by
    unfold wts pws freshL
    rw [List.map_cons, List.map_cons, List.map_map]; rfl
  rw [hw]
theorem addS_get : ∀ {D : List Tg} {Q : List Int} {j : Nat} {t : Tg} {q : Int}, D[j]? = some t → Q[j]? = some q → (addS D Q)[j]? = some ⟨t.f, t.w, t.s + q⟩
  | [], _, _, _, _, h, _ => by simp at h
  | _ :: _, [], _, _, _, _, h => by simp at h
  | a :: D, p :: Q, 0, t, q, h, h' => by
    simp only [List.getElem?_cons_zero, Option.some.injEq] at h h'
    subst h; subst h'; rfl
  | a :: D, p :: Q, j + 1, t, q, h, h' => by
    rw [List.getElem?_cons_succ] at h h'
    rw [addS_cons, List.getElem?_cons_succ]
    exact addS_get h h'
theorem fresh_lag {i : Nat} {l' : List (Int × Int)} {w0 w1 k : Int} {Q : List Int} (h : JnOk i ((0, w0) :: (1, w1) :: l')) (hok : NOk (addS (⟨1, w1, k⟩ :: freshL l') Q)) {j : Nat} {q : Int} (hq : Q[j]? = some q) (hj : j < l'.length + 1) :
    lagV (addS (⟨1, w1, k⟩ :: freshL l') Q) ((j : Int) + 1) = .tuple #[.int .i64 ((if j = 0 then k else 0) + q), .bool true] := by
  obtain ⟨t, ht, htf, hts⟩ : ∃ t, ((⟨1, w1, k⟩ :: freshL l') : List Tg)[j]? = some t ∧ t.f = (j : Int) + 1 ∧ t.s = if j = 0 then k else 0 := by
    cases j with
    | zero => exact ⟨_, rfl, rfl, rfl⟩
    | succ j =>
      have hjl : j < l'.length := by omega
      refine ⟨⟨l'[j].1, l'[j].2, 0⟩, ?_, ?_, ?_⟩
      · unfold freshL
        rw [List.getElem?_cons_succ, List.getElem?_map, List.getElem?_eq_getElem hjl]; rfl
      · have := h.key (j + 2) l'[j] (by simp only [List.getElem?_cons_succ]; rw [List.getElem?_eq_getElem hjl])
        simp only; omega
      · rw [if_neg (by omega)]
  have hg := fget_memN hok (List.mem_of_getElem? (addS_get ht hq))
  simp only at hg
  rw [htf] at hg
  unfold lagV
  rw [hg, ← hts]
/-- The loop that lets flows join. -/
def JnRel (W : World) (cb b : Nat) (v7 v8 : Value) (wr : World) : Prop :=
  ∃ (i : Nat) (l : List (Int × Int)) (a : Option Addr) (c : Nat), v8 = .int .i64 (i : Int) ∧ v7 = .slice a i c ∧ i ≤ 5 ∧ JnOk i l ∧
    Own wr [slc 34 2 a i c (flat part l), LagR b 0 (freshL l), Ch W cb (30 * i), old W] ∧ Calm W wr
def LvRelI (W : World) (b : Nat) (D : List Tg) (N : Nat) (Q : List Int) (ga : Option Addr) (gc : Nat) (R : List SP) (v15 : Value) (wr : World) : Prop :=
  ∃ (j : Nat), v15 = .int .i64 (j : Int) ∧ j ≤ Q.length ∧ Own wr (LagR b N D :: slc 2 1 ga Q.length gc (i64s Q) :: R) ∧ Calm W wr
theorem partsAt_cut {S : SP} {g : Nat} {l : List (Int × Int)} {p : Int × Int} (h : PartsAt S (some ⟨g, 0, none⟩) (p :: l)) : PartsAt S (some ⟨g, 2, none⟩) l := by
  intro w R o i y hy
  obtain ⟨g', so', he, h1, h2⟩ := h w R o (i + 1) y (by rw [List.getElem?_cons_succ]; exact hy)
  cases he
  refine ⟨g, 2, rfl, ?_, ?_⟩
  · rw [← h1]; congr 2; omega
  · rw [← h2]; congr 2; omega

set_option maxHeartbeats 6400000 in
set_option maxRecDepth 100000 in
theorem lagLeave_walk (a0 : Option Addr) (len0 cap0 : Nat) (z0 : List Int) (n : Int) (w : World) (w0 : IsRow .i64 w a0 len0 cap0 z0) (hn : (Lit.int .u16 n).wf = true) :
    Calls Try.prog 3 #[.slice a0 len0 cap0, .int .u16 n] w fun e w' => e = .returned (.bool true) ∧ Below w.heap.size w w' := by
  have oW := Own.start w
  have hn' : 0 ≤ n ∧ n ≤ 65535 := by
    simp [Lit.wf, IntKind.min, IntKind.max, IntKind.signed, IntKind.bits] at hn
    omega
  clear hn
  go_enter Try.func3, Try.ntmps3
  go_wp2_with fail
  refine (genNew_spec a0 len0 cap0 z0 w0 oW).mono ?_
  rintro e1 v1 ⟨cb, rfl, o1, k1⟩
  go_wp2_with fail
  refine (lagNew_spec o1).mono ?_
  rintro e2 v2 ⟨b, rfl, o2, k2⟩
  have hT : JnRel w cb b (.slice none 0 0) (.int .i64 0) v2 := ⟨0, [], none, 0, rfl, rfl, by omega, ⟨rfl, fun j p h => by simp at h, fun p h => by simp at h⟩, Own.slc_nil o2, k1.trans k2⟩
  clear o1 o2 k1 k2
  obtain ⟨m, hm⟩ : ∃ m, Int.tmod n 4096 = m := ⟨_, rfl⟩
  have hm0 : 0 ≤ m ∧ m ≤ 4095 := by
    rw [← hm, Int.tmod_eq_emod_of_nonneg hn'.1]
    omega
  go_wp2
  go_loopw [7, 8] (fun v7 v8 wr => JnRel w cb b v7 v8 wr) (fun _ v _ => 6 - (ivOf v).toNat)
  case atStart => exact hT
  case round =>
    clear hT
    obtain ⟨i, l, a, c, rfl, rfl, hi, hl, oR, kR⟩ := hrel
    have HL := Lib.hid hl
    clear hl
    go_wp2_with fail
    refine (next_spec w cb (30 * i) 4 _ _ (by omega) (by omega) (by omega) (oR.re [2, 3, 0, 1])).mono ?_
    rintro e3 w3 ⟨x, hx0, hx1, rfl, o3, k3⟩
    by_cases hlt : (i : Int) < 2 + x
    · go_wp2_with fail
      refine (genWeight_spec (W := w) (b := cb) (30 * i + 1) (by omega) o3).mono ?_
      rintro e4 w4 ⟨y, hy0, hy1, rfl, o4, k4⟩
      have hj := lagJoin_spec (i : Int) y (o4.re [3, 2, 0, 1])
      rw [fresh_join HL.out (by omega) hy0 hy1] at hj
      dsimp only at hj
      have HL2 := Lib.hid (HL.out.next hy0 hy1)
      go_wp2_with fail
      refine hj.mono ?_
      rintro e5 w5 ⟨rfl, o5, k5⟩
      clear hj
      have oA := o5.alloc (.cells #[.int .i64 (i : Int), .int .i64 y] 34)
      go_wp2_with (at_builtin; refine wpList_append_slc rfl _ _ rfl Try.partT rfl (oA.up 2) ⟨w5.heap.size, 0, none⟩ 1 1 [.int .i64 (i : Int), .int .i64 y] rfl rfl ?c1 ?c2 ?c3 ?c4 ?c5)
      case c1 => exact Own.news (T := 34) oA
      case c2 => intro u hu; simp at hu; rcases hu with rfl | rfl <;> rfl
      case c3 => unfold maxLen; omega
      case c4 => omega
      case c5 =>
      intro a6 c6 w6 o6 k6
      go_wp2
      go_roundw
      case rel => exact ⟨i + 1, l ++ [((i : Int), y)], a6, c6, by go_num, rfl, by omega, HL2.out, by rw [flat_append]; exact (Ch.upTo (M := 30 * (i + 1)) (by omega) (o6.re [1, 3, 0, 2, 4] 1)).re [1, 2, 0, 3], kR.trans (k3.trans (k4.trans (k5.trans ⟨k6.os, k6.tape, k6.output⟩)))⟩
      case measure => simp [ivOf]; omega
    · obtain ⟨w0', w1, l', rfl, hw0, hw1⟩ := fresh_two HL.out (by omega)
      have hi2 : 2 ≤ i := by omega
      have hlen := HL.out.len
      simp only [List.length_cons] at hlen
      have o4 := o3.re [3, 2, 0, 1]
      have K4 := kR.trans k3
      clear o3 oR kR k3
      obtain ⟨k, hk⟩ : ∃ k, 1 + m = k := ⟨_, rfl⟩
      have hk0 : 1 ≤ k ∧ k ≤ 4096 := by omega
      have u1 : IntKind.i64.wrap m = m := by rw [IntKind.wrap_i64]; omega
      have u2 : IntKind.i64.wrap (1 + m) = k := by rw [IntKind.wrap_i64]; omega
      have u3 : IntKind.u16.wrap m = m := by rw [IntKind.wrap_u16]; omega
      have u4 : IntKind.i64.wrap (-k) = -k := by rw [IntKind.wrap_i64]; omega
      have hmv := lagMove_spec 1 0 k (by omega) o4
      rw [fresh_move HL.out hk0.1 hk0.2] at hmv
      dsimp only at hmv
      have HK := Lib.hid hk0
      clear hk hn'
      go_wp2_with fail
      refine hmv.mono ?_
      rintro e5 w5 ⟨rfl, o5, k5⟩
      have hlv := lagLeave_spec 0 (by omega) o5
      rw [fresh_leave HL.out] at hlv
      dsimp only at hlv
      clear hmv o4 hlt hx0 hx1
      go_wp2_with fail
      refine hlv.mono ?_
      rintro e6 w6 ⟨rfl, o6, k6⟩
      clear hlv o5
      have hok6 := Lib.hid (LagR.ok o6).ok
      obtain ⟨g, rfl, hcc, _, _⟩ := (o6.up 1).slc_cell (by omega)
      have hpt : PtOk ((1, w1) :: l') := by
        have hq : ∀ p ∈ (1, w1) :: l', 0 ≤ p.1 ∧ p.1 < 32 := fun p hp => by
          obtain ⟨j, hj, ej⟩ := List.mem_iff_getElem.1 hp
          have := HL.out.key (j + 1) p (by rw [List.getElem?_cons_succ, List.getElem?_eq_getElem hj, ej])
          have : j < l'.length + 1 := by simpa using hj
          omega
        refine ⟨?_, fun p hp => ⟨(hq p hp).1, (hq p hp).2, HL.out.rng p (by simp at hp ⊢; exact .inr hp)⟩, by simp; omega⟩
        rw [List.pairwise_iff_getElem]
        intro j j' hj hj' hlt
        have h1 := HL.out.key (j + 1) _ (by rw [List.getElem?_cons_succ, List.getElem?_eq_getElem hj])
        have h2 := HL.out.key (j' + 1) _ (by rw [List.getElem?_cons_succ, List.getElem?_eq_getElem hj'])
        omega
      have hli : i - 1 = ((1, w1) :: l').length := by simp; omega
      have hsp := refSplit_spec (w := w6) (c := c - 1) (-k) (by unfold Go.Proofs.Ytalkmeclkjnjnaa.ab; omega) (partsAt_cut (partsAt_slc (some ⟨g, 0, none⟩) i c ((0, w0') :: (1, w1) :: l') (by simp; omega))) hpt hli (o6.up 1)
      have hcl := (o6.up 1).slc_len.2.1
      have z1 : (1 : Int) ≤ (i : Int) := by omega
      have z2 : (1 : Int) ≤ (c : Int) := by omega
      have z3 : ((1 : Int) == (c : Int)) = false := by rw [beq_eq_false_iff_ne]; omega
      have z4 : ¬ c = 1 := by omega
      have z5 : ¬ 1 = c := by omega
      have z6 : 1 ≤ i := by omega
      have z7 : 1 ≤ c := by omega
      have z8 : (i : Int) ≤ (c : Int) := by omega
      have HLI := Lib.hid hli
      have HL4 := Lib.hid (And.intro hlen hi)
      clear hpt hcc hli hlen hi hi2
      go_wp2_with fail
      refine hsp.mono ?_
      rintro e7 w7 ⟨ga, gc, rfl, o7, k7⟩
      clear hsp z1 z2 z3 z4 z5 z6 z7 z8 hcl
      have hQl : (lagSplit (-k) (pws ((1, w1) :: l'))).length = ((1, w1) :: l').length := by rw [lagSplit_len]; unfold pws; rw [List.length_map]
      have hQb : ∀ q ∈ lagSplit (-k) (pws ((1, w1) :: l')), Go.Proofs.Ytalkmeclkjnjnaa.ab q ≤ 4096 := fun q hq => by
        have h1 := sumI_ab_mem hq
        have h2 := lagSplit_abs (-k) (W := pws ((1, w1) :: l')) fun x hx => by
          obtain ⟨p, hp, rfl⟩ := List.mem_map.1 hx
          exact (HL.out.rng p (by simp at hp ⊢; exact .inr hp)).1
        have h3 := HK.out
        have h4 : Go.Proofs.Ytalkmeclkjnjnaa.ab (-k) ≤ 4096 := by unfold Go.Proofs.Ytalkmeclkjnjnaa.ab; omega
        omega
      rw [← hQl] at o7 ⊢
      obtain ⟨er, her⟩ : ∃ er : Int, (if (1, w1) :: l' = [] then (5 : Int) else 0) = er := ⟨_, rfl⟩
      rw [her]
      clear her
      generalize lagSplit (-k) (pws ((1, w1) :: l')) = Q at *
      have HQ := Lib.hid hQl
      have HQB := Lib.hid hQb
      obtain ⟨Rr, hR⟩ : ∃ Rr, Rr = [slc 34 2 (some ⟨g, 0, none⟩) i c (flat part ((0, w0') :: (1, w1) :: l')), Ch w cb (30 * i + 1), old w] := ⟨_, rfl⟩
      have hT : LvRelI w b (addS (⟨1, w1, k⟩ :: freshL l') Q) 1 Q ga gc Rr (.int .i64 0) w7 := ⟨0, rfl, by omega, by rw [hR]; exact o7.re [2, 0, 1, 3, 4], K4.trans (k5.trans (k6.trans k7))⟩
      clear o7 o6 K4 k5 k6 k7 hQl hQb
      go_wp2
      go_loopw [15] (fun v wr => LvRelI w b (addS (⟨1, w1, k⟩ :: freshL l') Q) 1 Q ga gc Rr v wr) (fun v _ => Q.length - (ivOf v).toNat)
      case atStart => exact hT
      case round =>
        clear hT
        obtain ⟨j, rfl, hj, oJ, kJ⟩ := hrel
        by_cases hlt : j < Q.length
        · obtain ⟨q, hq⟩ : ∃ q, Q[j]? = some q := ⟨_, List.getElem?_eq_getElem hlt⟩
          have hlg := lagLag_spec ((j : Int) + 1) oJ
          rw [fresh_lag HL.out hok6.out hq (by have := HQ.out; rw [List.length_cons] at this; omega)] at hlg
          obtain ⟨gq, rfl, hcq, _, _⟩ := (oJ.up 1).slc_cell (by omega)
          have d0 := hcq j (.int .i64 q) (by unfold i64s; rw [List.getElem?_map, hq]; rfl)
          have hqb := HQB.out q (List.mem_of_getElem? hq)
          have hj5 : (j : Int) ≤ 100 := by have h1 := HQ.out; have h2 := HL4.out; rw [List.length_cons] at h1; omega
          have hqi : (i64s Q)[j]? = some (.int .i64 q) := by unfold i64s; rw [List.getElem?_map, hq]; rfl
          have HQI := Lib.hid hqi
          clear hcq hq hqi
          by_cases hj0 : j = 0
          · subst hj0
            rw [if_pos rfl] at hlg
            have hw1 : IntKind.i64.wrap (k + q) = k + q := by have := HK.out; unfold Go.Proofs.Ytalkmeclkjnjnaa.ab at hqb; rw [IntKind.wrap_i64]; omega
            obtain ⟨y, hy⟩ : ∃ y, k + q = y := ⟨_, rfl⟩
            rw [hy] at hlg
            have hw2 : IntKind.i64.wrap (y - k) = q := by unfold Go.Proofs.Ytalkmeclkjnjnaa.ab at hqb; rw [IntKind.wrap_i64]; omega
            clear hw1 hy hqb
            go_wp2_with fail
            refine hlg.mono ?_
            rintro e8 w8 ⟨rfl, o8, k8⟩
            have c8 := (o8.up 1).slc_cell (by omega)
            obtain ⟨gg, hgg, hcq, _, _⟩ := c8
            cases hgg
            have d1 := hcq 0 (.int .i64 q) (HQI.out)
            clear hcq
            go_wp2
            go_roundw
            case rel => exact ⟨1, rfl, by omega, o8, kJ.trans k8⟩
            case measure => simp [ivOf]; omega
          · rw [if_neg hj0, Int.zero_add] at hlg
            have hjb : ((j : Int) == 0) = false := by rw [beq_eq_false_iff_ne]; omega
            go_wp2_with fail
            refine hlg.mono ?_
            rintro e8 w8 ⟨rfl, o8, k8⟩
            have c8 := (o8.up 1).slc_cell (by omega)
            obtain ⟨gg, hgg, hcq, _, _⟩ := c8
            cases hgg
            have d1 := hcq j (.int .i64 q) (HQI.out)
            clear hcq
            go_wp2
            go_roundw
            case rel => exact ⟨j + 1, by go_num, by omega, o8, kJ.trans k8⟩
            case measure => simp [ivOf]; omega
        · go_wp2_with fail
          refine (awake22_spec oJ).mono ?_
          rintro e8 w8 ⟨rfl, o8, k8⟩
          rw [hR] at o8
          go_wp2
          go_ret
          exact ⟨rfl, (o8.up 4).below (kJ.trans k8)⟩
end
end Go.Proofs.Ytalkmeclkjnjnaa
