/- The program's ledger of lags: Transfer. -/
import Derived.Test.YtalkmeclkjnjnaaLag
import Derived.Test.YtalkmeclkjnjnaaDraw
namespace Go.Proofs.Ytalkmeclkjnjnaa
open Go.RowKit
open SP
section
variable {W w w' : World} {b N : Nat} {L : List Tg} {R : List SP}

theorem nMove_none {c s n : Int} (h : fget L c = none ∨ fget L s = none) : nMove L c s n = (6, L) := by
  unfold nMove
  rcases h with h | h
  · rw [h]
  · rw [h]; cases fget L c <;> rfl
theorem nMove_some {c s n : Int} {a d : Tg} (hc : fget L c = some a) (hs : fget L s = some d) : nMove L c s n =
    if n < 1 ∨ 4096 < n then (1, L) else if c = s then (0, L)
    else if 1099511627776 < a.s + n ∨ 1099511627776 < d.s - n ∨ a.s + n < -1099511627776 ∨ d.s - n < -1099511627776 then (2, L)
    else (0, setT ⟨s, d.w, d.s - n⟩ (setT ⟨c, a.w, a.s + n⟩ L)) := by
  unfold nMove; rw [hc, hs]
/-- What a lookup gives. -/
theorem lookN_any {ab : Nat} {m : List (Int × Tg)} (o : Own w (mpI accV ab m :: R)) (hm : RepN m L) (k : Int) :
    ∃ (wt s : Int) (z : Bool), (Instr.lookup 61 (.map (some ab)) (.int .i64 k) true).run Try.prog w = .ok (.tuple #[.agg #[.int .i64 wt, .int .i64 s], .bool z]) w ∧ (z = true → ∃ t, fget L k = some t ∧ t.w = wt ∧ t.s = s) ∧ (z = false → fget L k = none) := by
  cases hf : fget L k with
  | none => exact ⟨0, 0, false, lookN_none o hm hf, fun h => by simp at h, fun _ => rfl⟩
  | some t => exact ⟨t.w, t.s, true, lookN_some o hm hf, fun _ => ⟨t, rfl, rfl, rfl⟩, fun h => by simp at h⟩

def mvMap (c s : Int) (a d : Tg) (x y : Int) (m : List (Int × Tg)) (L : Nat → Bool) : List (Int × Tg) :=
  if L 17 then mput (mput m c ⟨c, a.w, x⟩) s ⟨s, d.w, y⟩ else if L 14 then mput m c ⟨c, a.w, x⟩ else m
def MvInv (b h g ab : Nat) (c s : Int) (a d : Tg) (x y : Int) (m : List (Int × Tg)) (R : List SP) (w : World) (L : Nat → Bool) (v : Nat → Value) (wc : World) : Prop :=
  Own wc (mpI accV ab (mvMap c s a d x y m L) :: cel g 65 [.int .i64 d.w, .int .i64 y] :: cel h 65 [.int .i64 a.w, .int .i64 x] :: cel b 63 [.map (some ab)] :: R) ∧ Calm w wc ∧
  ((L 0 = true → v 0 = .pointer (some ⟨b, 0, none⟩)) ∧ (L 1 = true → v 1 = .pointer (some ⟨b, 0, none⟩)) ∧ (L 2 = true → v 2 = .pointer (some ⟨b, 0, none⟩)) ∧ (L 3 = true → v 3 = .map (some ab)) ∧
  (L 4 = true → v 4 = .int .i64 c) ∧ (L 5 = true → v 5 = .pointer (some ⟨b, 0, none⟩)) ∧ (L 6 = true → v 6 = .pointer (some ⟨b, 0, none⟩)) ∧ (L 7 = true → v 7 = .pointer (some ⟨b, 0, none⟩)) ∧
  (L 8 = true → v 8 = .map (some ab)) ∧ (L 9 = true → v 9 = .int .i64 s) ∧ (L 10 = true → v 10 = .agg #[.int .i64 a.w, .int .i64 x]) ∧ (L 11 = true → v 11 = .agg #[.int .i64 d.w, .int .i64 y])) ∧
  (L 12 = true → ∃ born : Nat, v 12 = .tuple #[accV a, .int .i64 (born : Int)] ∧ (L 13 = true → v 13 = .int .i64 (born : Int)) ∧ (L 14 = false → BornAt m wc ab c born)) ∧
  (L 15 = true → ∃ born : Nat, v 15 = .tuple #[accV d, .int .i64 (born : Int)] ∧ (L 16 = true → v 16 = .int .i64 (born : Int)) ∧ (L 17 = false → BornAt (mput m c ⟨c, a.w, x⟩) wc ab s born)) ∧
  (L 13 = true → L 12 = true) ∧ (L 14 = true → L 13 = true) ∧ (L 15 = true → L 14 = true) ∧ (L 16 = true → L 15 = true) ∧ (L 17 = true → L 16 = true)

set_option maxHeartbeats 3200000 in
set_option maxRecDepth 100000 in
theorem lagMove_spec (c s n : Int) (hN : (N : Int) ≤ 1000000000000) (o : Own w (LagR b N L :: R)) :
    Calls Try.prog 12 #[.pointer (some ⟨b, 0, none⟩), .int .i64 c, .int .i64 s, .int .i64 n] w (Ret (.int .i64 (nMove L c s n).1) (LagR b (N + 1) (nMove L c s n).2 :: R) w) := by
  obtain ⟨ab, m, hm, hok, o1⟩ := LagR.iff.1 o
  have o' := LagR.le (Nat.le_succ N) o
  have c1 := o1.cell 0
  have hbl := o1.celLt
  have hbn : b ≠ w.heap.size := by omega
  have hbn2 : b ≠ w.heap.size + 1 := by omega
  obtain ⟨wa, sa, za, hla, ta, fa⟩ := lookN_any (o1.up 1) hm c
  obtain ⟨wd, sd, zd, hld, td, fd⟩ := lookN_any ((o1.alloc (.cells #[.int .i64 wa, .int .i64 sa] 65)).up 2) hm s
  have fin : ∀ x y, Ret (.int .i64 6) (LagR b (N + 1) L :: R) w (.returned (.int .i64 6)) ((w.alloc x).alloc y) := fun x y => ⟨rfl, (o'.more x).more y, ⟨rfl, rfl, rfl⟩⟩
  cases za with
  | false =>
    rw [nMove_none (.inl (fa rfl))]
    clear ta fa td fd
    cases zd
    all_goals
      go_enter Try.func12, Try.ntmps12
      go_wp2
      go_ret
      exact fin _ _
  | true =>
    cases zd with
    | false =>
      rw [nMove_none (.inr (fd rfl))]
      clear ta fa td fd
      go_enter Try.func12, Try.ntmps12
      go_wp2
      go_ret
      exact fin _ _
    | true =>
      obtain ⟨a, hfa, rfl, rfl⟩ := ta rfl
      obtain ⟨d, hfd, rfl, rfl⟩ := td rfl
      rw [nMove_some hfa hfd]
      clear fin ta fa td fd
      by_cases hbad : n < 1 ∨ 4096 < n
      · rw [if_pos hbad]
        have fin : ∀ x y, Ret (.int .i64 1) (LagR b (N + 1) L :: R) w (.returned (.int .i64 1)) ((w.alloc x).alloc y) := fun x y => ⟨rfl, (o'.more x).more y, ⟨rfl, rfl, rfl⟩⟩
        by_cases h1 : n < 1
        · clear hbad
          go_enter Try.func12, Try.ntmps12
          go_wp2
          go_ret
          exact fin _ _
        · have h2 : 4096 < n := by omega
          clear hbad
          go_enter Try.func12, Try.ntmps12
          go_wp2
          go_ret
          exact fin _ _
      · rw [if_neg hbad]
        have h1 : ¬ n < 1 := by omega
        have h2 : ¬ 4096 < n := by omega
        clear hbad
        by_cases hcs : c = s
        · rw [if_pos hcs]
          subst hcs
          have fin : ∀ x y, Ret (.int .i64 0) (LagR b (N + 1) L :: R) w (.returned (.int .i64 0)) ((w.alloc x).alloc y) := fun x y => ⟨rfl, (o'.more x).more y, ⟨rfl, rfl, rfl⟩⟩
          go_enter Try.func12, Try.ntmps12
          go_wp2
          go_ret
          exact fin _ _
        · rw [if_neg hcs]
          have hcb : (c == s) = false := by simpa using hcs
          have hla2 := hok.lag (fget_some hfa).1
          have hld2 := hok.lag (fget_some hfd).1
          have hra := hok.ok.rng a (fget_some hfa).1
          have hrd := hok.ok.rng d (fget_some hfd).1
          obtain ⟨x, hx⟩ : ∃ x, a.s + n = x := ⟨_, rfl⟩
          obtain ⟨y, hy⟩ : ∃ y, d.s - n = y := ⟨_, rfl⟩
          have wx : IntKind.i64.wrap (a.s + n) = x := by rw [IntKind.wrap_i64]; omega
          have wy : IntKind.i64.wrap (d.s - n) = y := by rw [IntKind.wrap_i64]; omega
          have hms := nMove_ok hok c s n
          rw [nMove_some hfa hfd, if_neg (by omega), if_neg hcs] at hms
          rw [hx, hy] at hms ⊢
          obtain ⟨M, hM⟩ : ∃ M, max x y = M := ⟨_, rfl⟩
          obtain ⟨K, hK⟩ : ∃ K, min x y = K := ⟨_, rfl⟩
          by_cases hr : 1099511627776 < x ∨ 1099511627776 < y ∨ x < -1099511627776 ∨ y < -1099511627776
          · rw [if_pos hr]
            clear hms hx hy hla2 hld2 hra hrd
            by_cases hM2 : 1099511627776 < M
            · have f1 : decide (1099511627776 < M) = true := decide_eq_true hM2
              go_enter Try.func12, Try.ntmps12
              go_wp2
              go_ret
              exact ⟨rfl, (o'.more _).more _, ⟨rfl, rfl, rfl⟩⟩
            · have f1 : decide (1099511627776 < M) = false := decide_eq_false hM2
              have f2 : decide (K < -1099511627776) = true := decide_eq_true (by omega)
              go_enter Try.func12, Try.ntmps12
              go_wp2
              go_ret
              exact ⟨rfl, (o'.more _).more _, ⟨rfl, rfl, rfl⟩⟩
          · rw [if_neg hr] at hms ⊢
            have f1 : decide (1099511627776 < M) = false := decide_eq_false (by omega)
            have f2 : decide (K < -1099511627776) = false := decide_eq_false (by omega)
            have hrep1 : RepN (mput m c ⟨c, a.w, x⟩) (setT ⟨c, a.w, x⟩ L) := hm.set (x := ⟨c, a.w, x⟩) (by show fget L c ≠ none; rw [hfa]; simp) (by have := (fget_some hfa).2; refine ⟨?_, ?_, ?_, ?_⟩ <;> (simp only; omega))
            have hfd2 : fget (setT ⟨c, a.w, x⟩ L) s = some d := by
              have h5 := fget_memN hrep1.ok (mem_setT_of (fget_some hfd).1 (x := ⟨c, a.w, x⟩) (by have := (fget_some hfd).2; simp only; omega))
              rw [(fget_some hfd).2] at h5
              exact h5
            have hrep2 : RepN (mput (mput m c ⟨c, a.w, x⟩) s ⟨s, d.w, y⟩) (setT ⟨s, d.w, y⟩ (setT ⟨c, a.w, x⟩ L)) := hrep1.set (x := ⟨s, d.w, y⟩) (by show fget _ s ≠ none; rw [hfd2]; simp) (by have := (fget_some hfd).2; refine ⟨?_, ?_, ?_, ?_⟩ <;> (simp only; omega))
            have hga : mget m c = some a := by rw [hm.get]; exact hfa
            have hgd : mget (mput m c ⟨c, a.w, x⟩) s = some d := by rw [hrep1.get]; exact hfd2
            have hok2 := hms.1
            have oA := o1.alloc (.cells #[.int .i64 a.w, .int .i64 x] 65)
            have oB := oA.alloc (.cells #[.int .i64 d.w, .int .i64 y] 65)
            clear hms hr hx hy hla2 hld2 hra hrd hrep1 hfd2 hfa hfd o' hm hok
            go_enter Try.func12, Try.ntmps12
            go_wp2
            refine wp_region_draws (MvInv b w.heap.size (w.heap.size + 1) ab c s a d x y m R w) (by kernel_rfl) (by kernel_rfl) (by kernel_rfl) ?h0 ?step ?fin
            case h0 =>
              have F : ∀ {p : Prop}, false = true → p := fun h => (Bool.false_ne_true h).elim
              simp only [World.size_alloc] at oB
              exact ⟨(oB.re [3, 0, 1, 2]).drew, ⟨rfl, rfl, rfl⟩, ⟨F, F, F, F, F, F, F, F, F, F, F, F⟩, F, F, F, F, F, F, F⟩
            case step =>
              refine ⟨DrawStep.mk rfl ?_, DrawStep.mk rfl ?_, DrawStep.mk rfl ?_, DrawStep.mk rfl ?_, DrawStep.mk rfl ?_, DrawStep.mk rfl ?_, DrawStep.mk rfl ?_, DrawStep.mk rfl ?_, DrawStep.mk rfl ?_, DrawStep.mk rfl ?_, DrawStep.mk rfl ?_, DrawStep.mk rfl ?_, DrawStep.mk rfl ?_, DrawStep.mk rfl ?_, DrawStep.mk rfl ?_, DrawStep.mk rfl ?_, DrawStep.mk rfl ?_, DrawStep.mk rfl ?_, trivial⟩
              all_goals intro L v ac wc hL hd hA hI K' hK
              all_goals obtain ⟨oD, kD, ⟨f0, f1, f2, f3, f4, f5, f6, f7, f8, f9, f10, f11⟩, e12, e15, l13, l14, l15, l16, l17⟩ := hI
              all_goals simp [Region.binds] at hd
              · have c0 := hA.base 0 (by rfl)
                simp only [List.getElem?_toArray, List.getElem?_cons_zero, Option.getD_some] at c0
                go_simp
                exact hK.out _ _ ⟨oD, kD, ⟨fun _ => rfl, f1, f2, f3, f4, f5, f6, f7, f8, f9, f10, f11⟩, e12, e15, l13, l14, l15, l16, l17⟩
              · have c0 := (hA.get 0 hd).trans (f0 hd)
                go_simp
                exact hK.out _ _ ⟨oD, kD, ⟨f0, fun _ => rfl, f2, f3, f4, f5, f6, f7, f8, f9, f10, f11⟩, e12, e15, l13, l14, l15, l16, l17⟩
              · have c0 := (hA.get 1 hd).trans (f1 hd)
                go_simp
                exact hK.out _ _ ⟨oD, kD, ⟨f0, f1, fun _ => rfl, f3, f4, f5, f6, f7, f8, f9, f10, f11⟩, e12, e15, l13, l14, l15, l16, l17⟩
              · have c0 := (hA.get 2 hd).trans (f2 hd)
                have cc := (oD.up 3).cell 0
                go_simp
                exact hK.out _ _ ⟨oD, kD, ⟨f0, f1, f2, fun _ => rfl, f4, f5, f6, f7, f8, f9, f10, f11⟩, e12, e15, l13, l14, l15, l16, l17⟩
              · have c0 := hA.base 1 (by rfl)
                simp only [List.getElem?_toArray, List.getElem?_cons_zero, List.getElem?_cons_succ, Option.getD_some] at c0
                go_simp
                exact hK.out _ _ ⟨oD, kD, ⟨f0, f1, f2, f3, fun _ => rfl, f5, f6, f7, f8, f9, f10, f11⟩, e12, e15, l13, l14, l15, l16, l17⟩
              · have c0 := hA.base 0 (by rfl)
                simp only [List.getElem?_toArray, List.getElem?_cons_zero, Option.getD_some] at c0
                go_simp
                exact hK.out _ _ ⟨oD, kD, ⟨f0, f1, f2, f3, f4, fun _ => rfl, f6, f7, f8, f9, f10, f11⟩, e12, e15, l13, l14, l15, l16, l17⟩
              · have c0 := (hA.get 5 hd).trans (f5 hd)
                go_simp
                exact hK.out _ _ ⟨oD, kD, ⟨f0, f1, f2, f3, f4, f5, fun _ => rfl, f7, f8, f9, f10, f11⟩, e12, e15, l13, l14, l15, l16, l17⟩
              · have c0 := (hA.get 6 hd).trans (f6 hd)
                go_simp
                exact hK.out _ _ ⟨oD, kD, ⟨f0, f1, f2, f3, f4, f5, f6, fun _ => rfl, f8, f9, f10, f11⟩, e12, e15, l13, l14, l15, l16, l17⟩
              · have c0 := (hA.get 7 hd).trans (f7 hd)
                have cc := (oD.up 3).cell 0
                go_simp
                exact hK.out _ _ ⟨oD, kD, ⟨f0, f1, f2, f3, f4, f5, f6, f7, fun _ => rfl, f9, f10, f11⟩, e12, e15, l13, l14, l15, l16, l17⟩
              · have c0 := hA.base 2 (by rfl)
                simp only [List.getElem?_toArray, List.getElem?_cons_zero, List.getElem?_cons_succ, Option.getD_some] at c0
                go_simp
                exact hK.out _ _ ⟨oD, kD, ⟨f0, f1, f2, f3, f4, f5, f6, f7, f8, fun _ => rfl, f10, f11⟩, e12, e15, l13, l14, l15, l16, l17⟩
              · have c0 := hA.base 9 (by rfl)
                simp only [List.getElem?_toArray, List.getElem?_cons_zero, List.getElem?_cons_succ, Option.getD_some] at c0
                have cc := (oD.up 2).cell 0
                have cc1 := (oD.up 2).cell 1
                go_simp
                exact hK.out _ _ ⟨oD, kD, ⟨f0, f1, f2, f3, f4, f5, f6, f7, f8, f9, fun _ => rfl, f11⟩, e12, e15, l13, l14, l15, l16, l17⟩
              · have c0 := hA.base 11 (by rfl)
                simp only [List.getElem?_toArray, List.getElem?_cons_zero, List.getElem?_cons_succ, Option.getD_some] at c0
                have cc := (oD.up 1).cell 0
                have cc1 := (oD.up 1).cell 1
                go_simp
                exact hK.out _ _ ⟨oD, kD, ⟨f0, f1, f2, f3, f4, f5, f6, f7, f8, f9, f10, fun _ => rfl⟩, e12, e15, l13, l14, l15, l16, l17⟩
              · have c0 := (hA.get 3 hd.1).trans (f3 hd.1)
                have c4 := (hA.get 4 hd.2.1).trans (f4 hd.2.1)
                have n13 : L 13 = false := by cases h : L 13 with | false => rfl | true => rw [l13 h] at hL; cases hL
                have n14 : L 14 = false := by cases h : L 14 with | false => rfl | true => rw [l14 h] at n13; cases n13
                have n15 : L 15 = false := by cases h : L 15 with | false => rfl | true => rw [l15 h] at n14; cases n14
                have n16 : L 16 = false := by cases h : L 16 with | false => rfl | true => rw [l16 h] at n15; cases n15
                have n17 : L 17 = false := by cases h : L 17 with | false => rfl | true => rw [l17 h] at n16; cases n16
                have eM : mvMap c s a d x y m L = m := by unfold mvMap; rw [n17, n14]; rfl
                rw [eM] at oD
                obtain ⟨w2, born, hr, hB, o2, k2⟩ := run_mapEntry_mpI Try.underlying61 Try.underlying3 oD c hga
                have o3 : Own w2 (mpI accV ab (mvMap c s a d x y m L) :: cel (w.heap.size + 1) 65 [.int .i64 d.w, .int .i64 y] :: cel w.heap.size 65 [.int .i64 a.w, .int .i64 x] :: cel b 63 [.map (some ab)] :: R) := by rw [eM]; exact o2
                go_simp
                exact hK.out _ _ ⟨o3, kD.trans k2, ⟨f0, f1, f2, f3, f4, f5, f6, f7, f8, f9, f10, f11⟩, fun _ => ⟨born, rfl, fun h => (Bool.false_ne_true (n13.symm.trans h)).elim, fun _ => hB⟩, fun h => (Bool.false_ne_true (n15.symm.trans h)).elim, fun h => rfl, l14, l15, l16, l17⟩
              · obtain ⟨born, h12, h13, hB⟩ := e12 hd
                have c0 := (hA.get 12 hd).trans h12
                go_simp
                exact hK.out _ _ ⟨oD, kD, ⟨f0, f1, f2, f3, f4, f5, f6, f7, f8, f9, f10, f11⟩, fun _ => ⟨born, h12, fun _ => rfl, hB⟩, e15, fun _ => hd, fun h => rfl, l15, l16, l17⟩
              · obtain ⟨born, h12, h13, hB⟩ := e12 hd.2.2.2.1
                have c0 := (hA.get 3 hd.1).trans (f3 hd.1)
                have c1' := (hA.get 13 hd.2.1).trans (h13 hd.2.1)
                have c2 := (hA.get 10 hd.2.2.1).trans (f10 hd.2.2.1)
                have hd13 := hd.2.1
                have n15 : L 15 = false := by cases h : L 15 with | false => rfl | true => rw [l15 h] at hL; cases hL
                have n16 : L 16 = false := by cases h : L 16 with | false => rfl | true => rw [l16 h] at n15; cases n15
                have n17 : L 17 = false := by cases h : L 17 with | false => rfl | true => rw [l17 h] at n16; cases n16
                have eM : mvMap c s a d x y m L = m := by unfold mvMap; rw [n17, hL]; rfl
                rw [eM] at oD
                obtain ⟨w2, hr, o2, k2⟩ := run_entryStore_mpI (P := Try.prog) (t := 61) oD c ⟨c, a.w, x⟩ (hB hL)
                have o3 : Own w2 (mpI accV ab (mvMap c s a d x y m (dIns L 14)) :: cel (w.heap.size + 1) 65 [.int .i64 d.w, .int .i64 y] :: cel w.heap.size 65 [.int .i64 a.w, .int .i64 x] :: cel b 63 [.map (some ab)] :: R) := by
                  have : mvMap c s a d x y m (dIns L 14) = mput m c ⟨c, a.w, x⟩ := by unfold mvMap; rw [show dIns L 14 17 = L 17 from rfl, n17]; rfl
                  rw [this]; exact o2
                have hr' : (Instr.entryStore 61 (.map (some ab)) (.int .i64 (born : Int)) (.agg #[.int .i64 a.w, .int .i64 x])).run Try.prog wc = .ok () w2 := hr
                go_simp
                exact hK.out undef _ ⟨o3, kD.trans k2, ⟨f0, f1, f2, f3, f4, f5, f6, f7, f8, f9, f10, f11⟩, fun h => ⟨born, h12, h13, fun h => (Bool.false_ne_true h.symm).elim⟩, fun h => (Bool.false_ne_true (n15.symm.trans h)).elim, l13, fun _ => hd13, fun h => rfl, l16, l17⟩
              · have c0 := (hA.get 8 hd.1).trans (f8 hd.1)
                have c4 := (hA.get 9 hd.2.1).trans (f9 hd.2.1)
                have h14 := hd.2.2.1
                have n16 : L 16 = false := by cases h : L 16 with | false => rfl | true => rw [l16 h] at hL; cases hL
                have n17 : L 17 = false := by cases h : L 17 with | false => rfl | true => rw [l17 h] at n16; cases n16
                have eM : mvMap c s a d x y m L = mput m c ⟨c, a.w, x⟩ := by unfold mvMap; rw [n17, h14]; rfl
                rw [eM] at oD
                obtain ⟨w2, born, hr, hB, o2, k2⟩ := run_mapEntry_mpI Try.underlying61 Try.underlying3 oD s hgd
                have o3 : Own w2 (mpI accV ab (mvMap c s a d x y m L) :: cel (w.heap.size + 1) 65 [.int .i64 d.w, .int .i64 y] :: cel w.heap.size 65 [.int .i64 a.w, .int .i64 x] :: cel b 63 [.map (some ab)] :: R) := by rw [eM]; exact o2
                have e12' : ∃ born : Nat, v 12 = .tuple #[accV a, .int .i64 (born : Int)] ∧ (L 13 = true → v 13 = .int .i64 (born : Int)) ∧ (L 14 = false → BornAt m w2 ab c born) := by
                  obtain ⟨b0, h1, h2, _⟩ := e12 (l13 (l14 h14))
                  exact ⟨b0, h1, h2, fun h => (by rw [h14] at h; cases h)⟩
                go_simp
                exact hK.out _ _ ⟨o3, kD.trans k2, ⟨f0, f1, f2, f3, f4, f5, f6, f7, f8, f9, f10, f11⟩, fun _ => e12', fun _ => ⟨born, rfl, fun h => (Bool.false_ne_true (n16.symm.trans h)).elim, fun _ => hB⟩, l13, l14, fun _ => h14, fun h => rfl, l17⟩
              · obtain ⟨born, h12, h13, hB⟩ := e15 hd
                have c0 := (hA.get 15 hd).trans h12
                go_simp
                exact hK.out _ _ ⟨oD, kD, ⟨f0, f1, f2, f3, f4, f5, f6, f7, f8, f9, f10, f11⟩, e12, fun _ => ⟨born, h12, fun _ => rfl, hB⟩, l13, l14, l15, fun _ => hd, fun h => rfl⟩
              · obtain ⟨born, h12, h13, hB⟩ := e15 hd.2.2.2.1
                have c0 := (hA.get 8 hd.1).trans (f8 hd.1)
                have c1' := (hA.get 16 hd.2.1).trans (h13 hd.2.1)
                have c2 := (hA.get 11 hd.2.2.1).trans (f11 hd.2.2.1)
                have hd16 := hd.2.1
                have h14 := l15 (l16 hd16)
                have eM : mvMap c s a d x y m L = mput m c ⟨c, a.w, x⟩ := by unfold mvMap; rw [hL, h14]; rfl
                rw [eM] at oD
                obtain ⟨w2, hr, o2, k2⟩ := run_entryStore_mpI (P := Try.prog) (t := 61) oD s ⟨s, d.w, y⟩ (hB hL)
                have o3 : Own w2 (mpI accV ab (mvMap c s a d x y m (dIns L 17)) :: cel (w.heap.size + 1) 65 [.int .i64 d.w, .int .i64 y] :: cel w.heap.size 65 [.int .i64 a.w, .int .i64 x] :: cel b 63 [.map (some ab)] :: R) := o2
                have hr' : (Instr.entryStore 61 (.map (some ab)) (.int .i64 (born : Int)) (.agg #[.int .i64 d.w, .int .i64 y])).run Try.prog wc = .ok () w2 := hr
                have e12' : ∃ born : Nat, v 12 = .tuple #[accV a, .int .i64 (born : Int)] ∧ (L 13 = true → v 13 = .int .i64 (born : Int)) ∧ (L 14 = false → BornAt m w2 ab c born) := by
                  obtain ⟨b0, h1, h2, _⟩ := e12 (l13 (l14 h14))
                  exact ⟨b0, h1, h2, fun h => (by rw [h14] at h; cases h)⟩
                go_simp
                exact hK.out undef _ ⟨o3, kD.trans k2, ⟨f0, f1, f2, f3, f4, f5, f6, f7, f8, f9, f10, f11⟩, fun _ => e12', fun h => ⟨born, h12, h13, fun h => (Bool.false_ne_true h.symm).elim⟩, l13, l14, l15, l16, fun _ => hd16⟩
            case fin =>
              rintro L v wc hall ⟨oD, kD, _⟩
              have eM : mvMap c s a d x y m L = mput (mput m c ⟨c, a.w, x⟩) s ⟨s, d.w, y⟩ := by unfold mvMap; rw [hall 17 (by decide)]; rfl
              rw [eM] at oD
              clear hall
              simp only [putAll, Act.put, List.setIfInBounds_toArray, List.set_cons_zero, List.set_cons_succ]
              go_wp2
              go_ret
              exact ⟨rfl, LagR.iff.2 ⟨ab, _, hrep2, hok2, oD.re [3, 0, 1, 2] |>.re [0, 1] |> fun q => (q.up 2).drop.up 2 |>.drop⟩, kD⟩
end
end Go.Proofs.Ytalkmeclkjnjnaa
