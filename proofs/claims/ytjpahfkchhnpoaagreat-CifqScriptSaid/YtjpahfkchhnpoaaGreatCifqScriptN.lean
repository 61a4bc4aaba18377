/- Texts that the law rests on, put together by a program. -/
import Derived.Test.YtjpahfkchhnpoaaGreatCifqScriptL
import Derived.Test.YtjpahfkchhnpoaaGreatCifqScriptM
import Derived.Test.YtjpahfkchhnpoaaGreatCifqScriptA
import Derived.Test.YtjpahfkchhnpoaaGreatProg
import Derived.ChangeSame
import Derived.ChangeArms
import Derived.WideShapes
import Derived.KernelRfl
/- Cifq: the beginning of the laws. -/
namespace Go.Proofs.YtjpahfkchhnpoaaGreat
open Go.RowKit
open SP
section
variable {W w w' : World} {R : List SP} {b N cb K : Nat} {num den reb : Int} {s : Cq} {Sp : SP}

theorem Tryz.intTq : ElemT Tryz.prog 22 3 1 8 := ElemT.mk' (z := .int .i64 0) Tryz.underlying22 (by kernel_rfl) rfl (by decide)
theorem rebAt {x : Int} (h0 : 0 ≤ x) (h1 : x < 2) : ∃ (j : Nat) (rb : Int), x = (j : Int) ∧ (j < 2) ∧ (rb = 1048576 ∨ rb = 1073741824) ∧ ∀ (w' : World) (g : Nat) (R' : List SP), Own w' (cel g 2 [.int .i64 1048576, .int .i64 1073741824] :: R') → w'.cell? ⟨g, j, none⟩ = some (.int .i64 rb) := by
  have : x = 0 ∨ x = 1 := by omega
  rcases this with rfl | rfl
  · exact ⟨0, _, rfl, by omega, .inl rfl, fun w' g R' o => o.cell 0⟩
  · exact ⟨1, _, rfl, by omega, .inr rfl, fun w' g R' o => o.cell 1⟩
theorem wt4At {x : Int} (h0 : 0 ≤ x) (h1 : x < 4) : ∃ (j : Nat) (y : Int), x = (j : Int) ∧ (j < 4) ∧ (y = 1 ∨ y = 2 ∨ y = 4) ∧ ∀ (w' : World) (g : Nat) (R' : List SP), Own w' (cel g 3 [.int .i64 1, .int .i64 2, .int .i64 1, .int .i64 4] :: R') → w'.cell? ⟨g, j, none⟩ = some (.int .i64 y) := by
  have : x = 0 ∨ x = 1 ∨ x = 2 ∨ x = 3 := by omega
  rcases this with rfl | rfl | rfl | rfl
  · exact ⟨0, 1, rfl, by omega, .inl rfl, fun w' g R' o => o.cell 0⟩
  · exact ⟨1, 2, rfl, by omega, .inr (.inl rfl), fun w' g R' o => o.cell 1⟩
  · exact ⟨2, 1, rfl, by omega, .inl rfl, fun w' g R' o => o.cell 2⟩
  · exact ⟨3, 4, rfl, by omega, .inr (.inr rfl), fun w' g R' o => o.cell 3⟩
theorem results_tmp4 {fn : Func} {t u v x : Tmp} (h : fn.results = #[.tmp t, .tmp u, .tmp v, .tmp x]) (tmps : Array Value) (P : Program) (w : World) :
    (results fn tmps).run P w = .ok (.tuple #[tmps.getD t undef, tmps.getD u undef, tmps.getD v undef, tmps.getD x undef]) w := by
  simp [results, h]
def idI (n : Nat) : List Int := (List.range n).map fun (k : Nat) => (k : Int)
theorem idI_len (n : Nat) : (idI n).length = n := by unfold idI; simp
theorem idI_snoc (n : Nat) : idI (n + 1) = idI n ++ [(n : Int)] := by unfold idI; rw [List.range_succ, List.map_append]; rfl
def WtOk (ws : List Int) : Prop := ∀ w ∈ ws, w = 1 ∨ w = 2 ∨ w = 4
def StRel (W : World) (b cb K n : Nat) (num den reb : Int) (R : List SP) (w : World) (v12 v13 v14 : Value) (wr : World) : Prop :=
  ∃ (i : Nat) (ws : List Int) (a1 a2 : Option Addr) (c1 c2 : Nat), v14 = .int .i64 (i : Int) ∧ ws.length = i ∧ i ≤ n ∧ WtOk ws ∧ v12 = .slice a1 i c1 ∧ v13 = .slice a2 i c2 ∧
    Own wr (slc 3 1 a1 i c1 ((idI i).map (Value.int .i64)) :: slc 3 1 a2 i c2 (ws.map (Value.int .i64)) :: CqF b num den reb 0 (stW ws) :: Ch W cb (K + 1 + i) :: old W :: R) ∧ Calm w wr
def StartPost (W : World) (cb K n : Nat) (num den : Int) (R : List SP) (w : World) (e : Ending) (w' : World) : Prop :=
  ∃ (b : Nat) (reb : Int) (ws : List Int) (a1 a2 : Option Addr) (c1 c2 : Nat), (reb = 1048576 ∨ reb = 1073741824) ∧ ws.length = n ∧ WtOk ws ∧
    Ret (.tuple #[.pointer (some ⟨b, 0, none⟩), .slice a1 n c1, .slice a2 n c2, .bool true])
      (slc 3 1 a1 n c1 ((idI n).map (Value.int .i64)) :: slc 3 1 a2 n c2 (ws.map (Value.int .i64)) :: CqF b num den reb 0 (stW ws) :: Ch W cb (K + 1 + n) :: old W :: R) w e w'

end
end Go.Proofs.YtjpahfkchhnpoaaGreat

/- Cifq: the example of chapter 24. -/
namespace Go.Proofs.YtjpahfkchhnpoaaGreat
open Go.RowKit
open SP
section
variable {W w w' : World} {R : List SP} {b N cb K : Nat} {num den reb : Int} {s : Cq} {Sp : SP}

theorem cqSumF_spec (hN : (N : Int) ≤ 1000000000000) (o : Own w (CqF b num den reb N s :: R)) :
    Calls Tryz.prog 14 #[.pointer (some ⟨b, 0, none⟩)] w (Ret (.int .i64 (sumS s.D)) (CqF b num den reb N s :: R) w) := by
  obtain ⟨rp, lp, cp, xp, nb, o1⟩ := CqF.iff.1 o
  refine (cqSum_spec hN (o1.re [0, 2])).mono ?_
  rintro e w' ⟨rfl, o2, k2⟩
  exact ⟨rfl, CqF.iff.2 ⟨rp, lp, cp, xp, nb, o2.re [0, 2, 1]⟩, k2⟩
theorem awStep {k : Nat} (hk : k < 4) {g c : Nat} (o : Own w (CqF b 1 2 1099511627776 k (awS k) :: slc 87 3 (some ⟨g, 0, none⟩) 2 c (flat headC (awH k)) :: R)) :
    Calls Tryz.prog 32 #[.pointer (some ⟨b, 0, none⟩), .slice (some ⟨g, 0, none⟩) 2 c] w
      (Ret (.tuple #[chV (awC k), .int .i64 0]) (CqF b 1 2 1099511627776 (k + 1) (awS (k + 1)) :: slc 87 3 (some ⟨g, 0, none⟩) 2 c (flat headC (awH k)) :: R) w) := by
  obtain ⟨h1, h2⟩ := aw_step hk
  have := cqStep_ok (nu := 1) (de := 2) (reb := 1099511627776) (aw_inv k (by omega)) (by omega) (by omega) (by omega) ⟨by decide, by decide, by decide⟩ (c := c) (headsAt_slc (some ⟨g, 0, none⟩) 2 c (awH k) (by cases k <;> rfl)) (by cases k <;> rfl) h1 (by cases k <;> simp [awH]) o
  rw [show (((1 : Nat) : Int)) = 1 from rfl, show (((2 : Nat) : Int)) = 2 from rfl, h2] at this
  exact this

set_option maxHeartbeats 6400000 in
set_option maxRecDepth 100000 in
theorem awake24_spec (o : Own w R) : Calls Tryz.prog 17 #[] w (Ret (.bool true) R w) := by
  have hA : AlOk 1 2 := ⟨by decide, by decide, by decide⟩
  go_enter Tryz.func17, Tryz.ntmps17
  go_wp2_with fail
  refine (cqNew_spec (nu := 1) (de := 2) hA 1099511627776 (by decide) (by decide) o).mono ?_
  rintro e1 w1 ⟨b, rfl, o1, k1⟩
  have j1 := stW_join (ws := []) (w := 1) (by decide) (by decide) (by decide)
  have i1 := (CqInv.join (stW_inv 0 [] rfl (by omega) (by simp)) j1.1).1
  have hj := cqJoin_ok (s := stW []) 0 1 j1.1 i1 o1
  have e1 := j1.2
  unfold joinC at e1
  change _ = stW [1] at e1
  change ({ stW [] with R := joinS (stW []).R 0 1, D := (nJoin (stW []).D 0 1).2 } : Cq) = stW [1] at e1
  rw [e1] at hj
  clear j1 i1 e1
  go_wp2_with fail
  refine hj.mono ?_
  rintro e2 w2 ⟨rfl, o2, k2⟩
  clear hj
  have j1 := stW_join (ws := [1]) (w := 1) (by decide) (by decide) (by decide)
  have i1 := (CqInv.join (stW_inv 1 [1] rfl (by omega) (by simp)) j1.1).1
  have hj := cqJoin_ok (s := stW [1]) 1 1 j1.1 i1 o2
  have e1 := j1.2
  unfold joinC at e1
  change ({ stW [1] with R := joinS (stW [1]).R 1 1, D := (nJoin (stW [1]).D 1 1).2 } : Cq) = stW [1, 1] at e1
  rw [e1] at hj
  clear j1 i1 e1
  go_wp2_with fail
  refine hj.mono ?_
  rintro e3 w3 ⟨rfl, o3, k3⟩
  clear hj
  have oH := o3.alloc (.cells #[.int .i64 0, .int .i64 100, .bool false, .int .i64 1, .int .i64 100, .bool true] 87)
  have oI := slc_new (size := 3) (n := 2) oH rfl (by omega)
  have oI' := oI.re [1, 0]
  have hs : Calls Tryz.prog 32 #[.pointer (some ⟨b, 0, none⟩), .slice (some ⟨w3.heap.size, 0, none⟩) 2 2] _ (Ret (.tuple #[.agg #[.int .i64 0, .int .i64 1, .int .i64 4], .int .i64 0]) (CqF b 1 2 1099511627776 1 (awS 1) :: _) _) := awStep (k := 0) (by decide) (oI.re [1, 0])
  clear oI'
  go_wp2_with fail
  refine hs.mono ?_
  rintro e4 w4 ⟨rfl, o4, k4⟩
  clear hs
  have oJ := o4.alloc (.cells #[.int .i64 0, .int .i64 1, .int .i64 4] 89)
  have oK := oJ.alloc (.cells #[.int .i64 0, .int .i64 100, .bool true, .int .i64 1, .int .i64 100, .bool true] 87)
  simp only [World.size_alloc] at oK
  have oL := slc_new (size := 3) (n := 2) oK rfl (by omega)
  have hs : Calls Tryz.prog 32 #[.pointer (some ⟨b, 0, none⟩), .slice (some ⟨w4.heap.size + 1, 0, none⟩) 2 2] _ (Ret (.tuple #[.agg #[.int .i64 1, .int .i64 1, .int .i64 1], .int .i64 0]) (CqF b 1 2 1099511627776 2 (awS 2) :: _) _) := awStep (k := 1) (by decide) (oL.re [2, 0])
  go_wp2_with fail
  refine hs.mono ?_
  rintro e5 w5 ⟨rfl, o5, k5⟩
  clear hs
  have oM := o5.alloc (.cells #[.int .i64 1, .int .i64 1, .int .i64 1] 89)
  have hs : Calls Tryz.prog 32 #[.pointer (some ⟨b, 0, none⟩), .slice (some ⟨w4.heap.size + 1, 0, none⟩) 2 2] _ (Ret (.tuple #[.agg #[.int .i64 0, .int .i64 0, .int .i64 1], .int .i64 0]) (CqF b 1 2 1099511627776 3 (awS 3) :: _) _) := awStep (k := 2) (by decide) (oM.re [1, 2])
  go_wp2_with fail
  refine hs.mono ?_
  rintro e6 w6 ⟨rfl, o6, k6⟩
  clear hs
  have oN := o6.alloc (.cells #[.int .i64 0, .int .i64 0, .int .i64 1] 89)
  have hs : Calls Tryz.prog 32 #[.pointer (some ⟨b, 0, none⟩), .slice (some ⟨w4.heap.size + 1, 0, none⟩) 2 2] _ (Ret (.tuple #[.agg #[.int .i64 1, .int .i64 0, .int .i64 2], .int .i64 0]) (CqF b 1 2 1099511627776 4 (awS 4) :: _) _) := awStep (k := 3) (by decide) (oN.re [1, 2])
  go_wp2_with fail
  refine hs.mono ?_
  rintro e7 w7 ⟨rfl, o7, k7⟩
  clear hs
  have oO := o7.alloc (.cells #[.int .i64 1, .int .i64 0, .int .i64 2] 89)
  have a0 := Own.cell (T := 89) (vs := [.int .i64 1, .int .i64 0, .int .i64 2]) (oO.up 0) 0
  have a1 := Own.cell (T := 89) (vs := [.int .i64 1, .int .i64 0, .int .i64 2]) (oO.up 0) 1
  have a2 := Own.cell (T := 89) (vs := [.int .i64 1, .int .i64 0, .int .i64 2]) (oO.up 0) 2
  have p0 := Own.cell (T := 89) (vs := [.int .i64 0, .int .i64 0, .int .i64 1]) (oO.up 3) 0
  have p1 := Own.cell (T := 89) (vs := [.int .i64 0, .int .i64 0, .int .i64 1]) (oO.up 3) 1
  have p2 := Own.cell (T := 89) (vs := [.int .i64 0, .int .i64 0, .int .i64 1]) (oO.up 3) 2
  have q0 := Own.cell (T := 89) (vs := [.int .i64 1, .int .i64 1, .int .i64 1]) (oO.up 4) 0
  have q1 := Own.cell (T := 89) (vs := [.int .i64 1, .int .i64 1, .int .i64 1]) (oO.up 4) 1
  have q2 := Own.cell (T := 89) (vs := [.int .i64 1, .int .i64 1, .int .i64 1]) (oO.up 4) 2
  have r0 := Own.cell (T := 89) (vs := [.int .i64 0, .int .i64 1, .int .i64 4]) (oO.up 5) 0
  have r1 := Own.cell (T := 89) (vs := [.int .i64 0, .int .i64 1, .int .i64 4]) (oO.up 5) 1
  have r2 := Own.cell (T := 89) (vs := [.int .i64 0, .int .i64 1, .int .i64 4]) (oO.up 5) 2
  have hsum := cqSumF_spec (by decide) (oO.re [1])
  rw [(aw_inv 4 (by omega)).sum] at hsum
  go_wp2_with fail
  refine hsum.mono ?_
  rintro e8 w8 ⟨rfl, o8, k8⟩
  go_wp2
  go_ret
  have K3 := k1.trans (k2.trans k3)
  have K4 := (qcalm_alloc (x := .cells #[.int .i64 0, .int .i64 100, .bool false, .int .i64 1, .int .i64 100, .bool true] 87) K3).trans k4
  have K5 := (qcalm_alloc (x := .cells #[.int .i64 0, .int .i64 100, .bool true, .int .i64 1, .int .i64 100, .bool true] 87) (qcalm_alloc (x := .cells #[.int .i64 0, .int .i64 1, .int .i64 4] 89) K4)).trans k5
  have K6 := (qcalm_alloc (x := .cells #[.int .i64 1, .int .i64 1, .int .i64 1] 89) K5).trans k6
  have K7 := (qcalm_alloc (x := .cells #[.int .i64 0, .int .i64 0, .int .i64 1] 89) K6).trans k7
  exact ⟨rfl, o8.dropN 7, (qcalm_alloc (x := .cells #[.int .i64 1, .int .i64 0, .int .i64 2] 89) K7).trans k8⟩
end
end Go.Proofs.YtjpahfkchhnpoaaGreat

/- Cifq: the flows of the reference; lists of accounts are equal; New of both sides for any part and rebase. -/
namespace Go.Proofs.YtjpahfkchhnpoaaGreat
open Go.RowKit
open SP
section
variable {w w' : World} {R : List SP} {b rp lp cp xp N : Nat} {num den reb at_ : Int} {O : List Tg} {P : SP} {T0 : St} {s : Cq} {cs : List (Int × Int)}

def IdRelQ (b : Nat) (num den reb : Int) (rp lp cp xp : Nat) (cs : List (Int × Int)) (at_ : Int) (T0 : St) (O : List Tg) (P : SP) (R : List SP) (w : World) (v3 v4 : Value) (wr : World) : Prop :=
  ∃ (i : Nat) (a' : Option Addr) (c' : Nat), v4 = .int .i64 (i : Int) ∧ v3 = .slice a' i c' ∧ i ≤ T0.L.length ∧
    Own wr (slc 3 1 a' i c' ((T0.L.take i).map fun t => Value.int .i64 t.f) :: KqC b num den reb rp lp cp xp cs :: RefT P rp at_ T0.L O T0.tm T0.aw :: P :: R) ∧ Calm w wr
def IdPostQ (b : Nat) (num den reb : Int) (rp lp cp xp : Nat) (cs : List (Int × Int)) (at_ : Int) (T0 : St) (O : List Tg) (P : SP) (R : List SP) (w : World) (e : Ending) (w' : World) : Prop :=
  ∃ (a : Option Addr) (c : Nat), Ret (.slice a T0.L.length c) (slc 3 1 a T0.L.length c ((T0.L.map (·.f)).map (Value.int .i64)) :: KqC b num den reb rp lp cp xp cs :: RefT P rp at_ T0.L O T0.tm T0.aw :: P :: R) w e w'
set_option maxHeartbeats 3200000 in
set_option maxRecDepth 100000 in
theorem idsQ_spec (hok : LOk T0.L) (o : Own w (KqC b num den reb rp lp cp xp cs :: RefT P rp at_ T0.L O T0.tm T0.aw :: P :: R)) :
    Calls Tryz.prog 31 #[.pointer (some ⟨b, 0, none⟩)] w (IdPostQ b num den reb rp lp cp xp cs at_ T0 O P R w) := by
  have hlen := hok.len
  have hT : IdRelQ b num den reb rp lp cp xp cs at_ T0 O P R w (.slice none 0 0) (.int .i64 0) w := ⟨0, none, 0, rfl, rfl, Nat.zero_le _, Own.slc_nil o, Calm.refl w⟩
  clear o
  go_enter Tryz.func31, Tryz.ntmps31
  go_wp2
  go_loopw [3, 4] (fun v3 v4 wr => IdRelQ b num den reb rp lp cp xp cs at_ T0 O P R w v3 v4 wr) (fun _ v _ => T0.L.length - (Lib.intOf v).toNat)
  case atStart => exact hT
  case round =>
    clear hT
    obtain ⟨i, a', c', rfl, rfl, hi, oR, kR⟩ := hrel
    have b0 := kq_ptr 3 (oR.up 1) (.inl ⟨rfl, rfl⟩)
    obtain ⟨a1, c1', a2, c2, ⟨⟨hP, hs⟩, hc, hP2⟩, o1⟩ := RefT.iff.1 (oR.up 2)
    have e1 := o1.cell 1
    by_cases hlt : i < T0.L.length
    · obtain ⟨t, ht⟩ : ∃ t, T0.L[i]? = some t := ⟨_, List.getElem?_eq_getElem hlt⟩
      obtain ⟨g, so, rfl, d0, d1, d2⟩ := hP _ _ (oR.up 3) i _ ht
      have HS := Lib.hid (show (T0.L.take (i + 1)).map (fun t => Value.int .i64 t.f) = (T0.L.take i).map (fun t => Value.int .i64 t.f) ++ [.int .i64 t.f] from by rw [List.take_add_one, ht, List.map_append]; rfl)
      clear ht hP hP2 hs hc
      have oA := oR.alloc (.cells #[.int .i64 t.f] 3)
      go_wp2_with (at_builtin; refine wpList_append_slc rfl _ _ rfl Tryz.intTq rfl (oA.up 1) ⟨wr.heap.size, 0, none⟩ 1 1 [.int .i64 t.f] rfl rfl ?c1 ?c2 ?c3 ?c4 ?c5)
      case c1 => exact Own.news (T := 3) oA
      case c2 => intro u hu; simp at hu; rcases hu with rfl; rfl
      case c3 => unfold maxLen; omega
      case c4 => omega
      case c5 =>
      intro a2 c2 w5 o5 k5
      go_wp2
      go_roundw
      case rel => exact ⟨i + 1, a2, c2, by go_num, rfl, by omega, by rw [HS.out]; rw [List.map_take]; exact o5.re [1] 1, kR.trans k5.al⟩
      case measure => simp [Lib.intOf]; omega
    · have hin : i = T0.L.length := by omega
      subst hin
      clear hP hP2 hs hc o1
      rw [List.take_length] at oR
      go_wp2
      go_ret
      refine ⟨a', c', rfl, ?_, kR⟩
      rw [List.map_map]
      exact oR

def EqRelQ (n : Nat) (w : World) (v : Value) (wr : World) : Prop := ∃ (i q : Nat), v = .int .i64 (i : Int) ∧ i ≤ n ∧ wr = w.drewN q
theorem accQ_cells {a : Option Addr} {n c : Nat} {L : List Tg} (o : Own w (slc 40 10 a n c (flat (accC s) L) :: R)) {i : Nat} {t : Tg} (ht : L[i]? = some t) (hn : 0 < n) :
    ∃ (g : Nat) (l x y u v : Int), (l, x, y, u, v) = (lagO s.D t.f, (cntO s.n t.f).1, (cntO s.n t.f).2, tget s.C.tg t.f, tget s.X.tg t.f) ∧ a = some ⟨g, 0, none⟩ ∧ w.cell? ⟨g, i * 10, none⟩ = some (.int .i64 t.f) ∧ w.cell? ⟨g, i * 10 + 1, none⟩ = some (.int .i64 t.w) ∧ w.cell? ⟨g, i * 10 + 2, none⟩ = some (.int .i64 l) ∧ w.cell? ⟨g, i * 10 + 3, none⟩ = some (.int .i64 t.s) ∧
      w.cell? ⟨g, i * 10 + 4, none⟩ = some (.int .i64 x) ∧ w.cell? ⟨g, i * 10 + 5, none⟩ = some (.int .i64 y) ∧ w.cell? ⟨g, i * 10 + 6, none⟩ = some (.int .i64 u) ∧ w.cell? ⟨g, i * 10 + 7, none⟩ = some (.int .i64 v) ∧ w.cell? ⟨g, i * 10 + 8, none⟩ = some (.int .i64 0) ∧ w.cell? ⟨g, i * 10 + 9, none⟩ = some (.int .i64 0) := by
  obtain ⟨g, rfl, hc, _, _⟩ := o.slc_cell hn
  refine ⟨g, _, _, _, _, _, rfl, rfl, ?_, ?_, ?_, ?_, ?_, ?_, ?_, ?_, ?_, ?_⟩
  · have := hc (i * 10 + 0) (.int .i64 t.f) (by rw [flat_get (accC_len s) L i 0 t ht (by omega)]; rfl)
    rwa [Nat.add_zero] at this
  · exact hc (i * 10 + 1) _ (by rw [flat_get (accC_len s) L i 1 t ht (by omega)]; rfl)
  · exact hc (i * 10 + 2) _ (by rw [flat_get (accC_len s) L i 2 t ht (by omega)]; rfl)
  · exact hc (i * 10 + 3) _ (by rw [flat_get (accC_len s) L i 3 t ht (by omega)]; rfl)
  · exact hc (i * 10 + 4) _ (by rw [flat_get (accC_len s) L i 4 t ht (by omega)]; rfl)
  · exact hc (i * 10 + 5) _ (by rw [flat_get (accC_len s) L i 5 t ht (by omega)]; rfl)
  · exact hc (i * 10 + 6) _ (by rw [flat_get (accC_len s) L i 6 t ht (by omega)]; rfl)
  · exact hc (i * 10 + 7) _ (by rw [flat_get (accC_len s) L i 7 t ht (by omega)]; rfl)
  · exact hc (i * 10 + 8) _ (by rw [flat_get (accC_len s) L i 8 t ht (by omega)]; rfl)
  · exact hc (i * 10 + 9) _ (by rw [flat_get (accC_len s) L i 9 t ht (by omega)]; rfl)
set_option maxHeartbeats 3200000 in
set_option maxRecDepth 100000 in
theorem equalQ_spec {a1 a2 : Option Addr} {n c1 c2 : Nat} {L : List Tg} (hn : n = L.length) (hn2 : n ≤ 1000) (o : Own w (slc 40 10 a1 n c1 (flat (accC s) L) :: slc 40 10 a2 n c2 (flat (accC s) L) :: R)) :
    Calls Tryz.prog 10 #[.slice a1 n c1, .slice a2 n c2] w (Ret (.bool true) (slc 40 10 a1 n c1 (flat (accC s) L) :: slc 40 10 a2 n c2 (flat (accC s) L) :: R) w) := by
  have HN := Lib.hid hn
  clear hn
  go_enter Tryz.func10, Tryz.ntmps10
  go_wp2
  go_loopw [5] (fun v wr => EqRelQ n w v wr) (fun v _ => n - (Lib.intOf v).toNat)
  case atStart => exact ⟨0, 0, rfl, by omega, rfl⟩
  case round =>
    obtain ⟨i, q, rfl, hi, rfl⟩ := hrel
    by_cases hlt : i < n
    · obtain ⟨t, ht⟩ : ∃ t, L[i]? = some t := ⟨_, List.getElem?_eq_getElem (by rw [← HN.out]; exact hlt)⟩
      obtain ⟨g1, l, x, y, u, v, hA, hg1, d0, d1, d2, d3, d4, d5, d6, d7, d8, d9⟩ := accQ_cells o ht (by omega)
      obtain ⟨g2, l', x', y', u', v', hA', hg2, f0, f1, f2, f3, f4, f5, f6, f7, f8, f9⟩ := accQ_cells (o.up 1) ht (by omega)
      rw [← hA] at hA'
      cases hA'
      subst hg1
      subst hg2
      clear hA ht
      go_wp2
      go_quiet (fail)
      go_wp2
      go_roundw
      case rel => exact ⟨i + 1, _, by go_num, by omega, rfl⟩
      case measure => simp [Lib.intOf]; omega
    · go_wp2
      go_ret
      exact ⟨rfl, o.drewN q, ⟨rfl, rfl, rfl⟩⟩

/-! ### New and ValidAlpha for anything -/
def alGood (nu de : Int) : Bool := decide (0 < nu) && (decide (nu < de) && decide (de ≤ 1048576))
theorem alGood_ok {nu de : Int} (h : alGood nu de = true) : ∃ a b : Nat, nu = (a : Int) ∧ de = (b : Int) ∧ AlOk a b := by
  unfold alGood at h
  simp only [Bool.and_eq_true, decide_eq_true_eq] at h
  exact ⟨nu.toNat, de.toNat, by omega, by omega, ⟨by omega, by omega, by omega⟩⟩
theorem alGood_parts (nu de : Int) : ∃ A B C : Bool, decide (0 < nu) = A ∧ decide (nu < de) = B ∧ decide (de ≤ 1048576) = C ∧ alGood nu de = (A && (B && C)) := ⟨_, _, _, rfl, rfl, rfl, rfl⟩
set_option maxHeartbeats 800000 in
theorem validQ_prog (nu de : Int) (o : Own w R) : Calls Tryz.prog 15 #[.agg #[.int .i64 nu, .int .i64 de]] w (Ret (.bool (alGood nu de)) R w) := by
  obtain ⟨A, B, C, d1, d2, d3, e⟩ := alGood_parts nu de
  rw [e]
  clear e
  go_enter Tryz.func15, Tryz.ntmps15
  cases A <;> cases B <;> cases C <;>
  · go_wp2
    go_ret
    exact ⟨by simp [], o.alloc _ |>.drop, ⟨rfl, rfl, rfl⟩⟩
set_option maxHeartbeats 800000 in
theorem validQ_ref (nu de : Int) (o : Own w R) : Calls Tryz.prog 16 #[.agg #[.int .i64 nu, .int .i64 de]] w (Ret (.bool (alGood nu de)) R w) := by
  obtain ⟨A, B, C, d1, d2, d3, e⟩ := alGood_parts nu de
  rw [e]
  clear e
  go_enter Tryz.func16, Tryz.ntmps16
  cases A <;> cases B <;> cases C <;>
  · go_wp2
    go_ret
    exact ⟨by simp [], o.alloc _ |>.drop, ⟨rfl, rfl, rfl⟩⟩
theorem sfqNewQ_bad (r : Int) (h : r < 1 ∨ 1099511627776 < r) (w : World) : Calls Tryz.prog 18 #[.int .i64 r] w (IsRet (.tuple #[.pointer none, .int .i64 1]) w) := by
  by_cases h1 : r < 1
  · clear h
    go_enter Tryz.func18, Tryz.ntmps18
    go_wp2
    go_ret2
    exact ⟨rfl, rfl⟩
  · have h2 : 1099511627776 < r := by omega
    clear h
    go_enter Tryz.func18, Tryz.ntmps18
    go_wp2
    go_ret2
    exact ⟨rfl, rfl⟩
theorem ref12NewQ_bad (r : Int) (h : r < 1 ∨ 1099511627776 < r) (w : World) : Calls Tryz.prog 21 #[.int .i64 r] w (IsRet (.tuple #[.pointer none, .int .i64 1]) w) := by
  by_cases h1 : r < 1
  · clear h
    go_enter Tryz.func21, Tryz.ntmps21
    go_wp2
    go_ret2
    exact ⟨rfl, rfl⟩
  · have h2 : 1099511627776 < r := by omega
    clear h
    go_enter Tryz.func21, Tryz.ntmps21
    go_wp2
    go_ret2
    exact ⟨rfl, rfl⟩
theorem ordNewQ_bad (r : Int) (h : r < 1 ∨ 1099511627776 < r) (w : World) : Calls Tryz.prog 22 #[.int .i64 r] w (IsRet (.tuple #[.pointer none, .int .i64 1]) w) := by
  by_cases h1 : r < 1
  · clear h
    go_enter Tryz.func22, Tryz.ntmps22
    go_wp2
    go_ret2
    exact ⟨rfl, rfl⟩
  · have h2 : 1099511627776 < r := by omega
    clear h
    go_enter Tryz.func22, Tryz.ntmps22
    go_wp2
    go_ret2
    exact ⟨rfl, rfl⟩
def newErrQ (nu de r : Int) : Int := if (r < 1 ∨ 1099511627776 < r) ∨ alGood nu de = false then 1 else 0
def NewQ (nu de r : Int) (R : List SP) (w : World) (e : Ending) (w' : World) : Prop := ∃ v : Value, e = .returned (.tuple #[v, .int .i64 (newErrQ nu de r)]) ∧ Own w' R ∧ Calm w w'
set_option maxHeartbeats 1600000 in
set_option maxRecDepth 100000 in
theorem newQ_prog (nu de r : Int) (o : Own w R) : Calls Tryz.prog 7 #[.agg #[.int .i64 nu, .int .i64 de], .int .i64 r] w (NewQ nu de r R w) := by
  have oA : Own _ (cel w.heap.size 24 [.int .i64 nu, .int .i64 de] :: R) := o.alloc (.cells #[.int .i64 nu, .int .i64 de] 24)
  unfold NewQ
  by_cases h : r < 1 ∨ 1099511627776 < r
  · rw [newErrQ, if_pos (.inl h)]
    have hb := sfqNewQ_bad r h
    clear h
    go_enter Tryz.func7, Tryz.ntmps7
    go_wp2_with fail
    refine (hb _).mono ?_
    rintro e1 w1 ⟨rfl, rfl⟩
    go_wp2
    go_ret2
    exact ⟨_, rfl, oA.drop, qcalm_alloc (Calm.refl w)⟩
  · cases hg : alGood nu de with
    | true =>
      obtain ⟨a, b, rfl, rfl, hA⟩ := alGood_ok hg
      rw [newErrQ, if_neg (by rintro (h1 | h1); exact h h1; rw [hg] at h1; cases h1)]
      refine (cqNew_spec hA r (by omega) (by omega) o).mono ?_
      rintro e w' ⟨b, rfl, o1, k1⟩
      exact ⟨_, rfl, o1.drop, k1⟩
    | false =>
      rw [newErrQ, if_pos (.inr hg)]
      have hv := fun {w : World} {R : List SP} (o : Own w R) => validQ_prog nu de o
      rw [hg] at hv
      have hn := sfqNew_spec r (by omega) (by omega) oA
      clear hg h
      go_enter Tryz.func7, Tryz.ntmps7
      go_wp2_with fail
      refine hn.mono ?_
      rintro e1 w1 ⟨rp, rfl, o1, k1⟩
      have c0 := (o1.up 1).cell 0
      have c1 := (o1.up 1).cell 1
      go_wp2_with fail
      refine (hv o1).mono ?_
      rintro e2 w2 ⟨rfl, o2, k2⟩
      go_wp2
      go_ret2
      exact ⟨_, rfl, o2.dropN 2, (qcalm_alloc (Calm.refl w)).trans (k1.trans k2)⟩
set_option maxHeartbeats 1600000 in
set_option maxRecDepth 100000 in
theorem newQ_ref (nu de r : Int) (o : Own w R) : Calls Tryz.prog 8 #[.agg #[.int .i64 nu, .int .i64 de], .int .i64 r] w (NewQ nu de r R w) := by
  have oA : Own _ (cel w.heap.size 24 [.int .i64 nu, .int .i64 de] :: R) := o.alloc (.cells #[.int .i64 nu, .int .i64 de] 24)
  unfold NewQ
  by_cases h : r < 1 ∨ 1099511627776 < r
  · rw [newErrQ, if_pos (.inl h)]
    have hb := ref12NewQ_bad r h
    have hb2 := ordNewQ_bad r h
    have hv := fun {w : World} {R : List SP} (o : Own w R) => validQ_ref nu de o
    have c0 := oA.cell 0
    have c1 := oA.cell 1
    generalize alGood nu de = B at *
    clear h
    go_enter Tryz.func8, Tryz.ntmps8
    go_wp2_with fail
    refine (hb _).mono ?_
    rintro e1 w1 ⟨rfl, rfl⟩
    go_wp2_with fail
    refine (hb2 _).mono ?_
    rintro e2 w2 ⟨rfl, rfl⟩
    go_wp2_with fail
    refine (hb2 _).mono ?_
    rintro e3 w3 ⟨rfl, rfl⟩
    go_wp2_with fail
    refine (hv oA).mono ?_
    rintro e4 w4 ⟨rfl, o4, k4⟩
    cases B
    all_goals go_wp2
    all_goals go_ret2
    all_goals exact ⟨_, rfl, o4.drop, (qcalm_alloc (Calm.refl w)).trans k4⟩
  · cases hg : alGood nu de with
    | true =>
      obtain ⟨a, b, rfl, rfl, hA⟩ := alGood_ok hg
      rw [newErrQ, if_neg (by rintro (h1 | h1); exact h h1; rw [hg] at h1; cases h1)]
      refine (kqNew_spec (P := SP.pu True) (S := SP.pu True) hA r (by omega) (by omega) (Own.pu.2 ⟨trivial, Own.pu.2 ⟨trivial, o⟩⟩)).mono ?_
      rintro e w' ⟨b, rfl, o1, k1⟩
      exact ⟨_, rfl, (Own.pu.1 (Own.pu.1 o1.drop).2).2, k1⟩
    | false =>
      rw [newErrQ, if_pos (.inr hg)]
      have hv := fun {w : World} {R : List SP} (o : Own w R) => validQ_ref nu de o
      rw [hg] at hv
      have oP : Own _ (cel w.heap.size 24 [.int .i64 nu, .int .i64 de] :: SP.pu True :: SP.pu True :: R) := (Own.pu.2 ⟨trivial, (Own.pu.2 ⟨trivial, oA⟩)⟩ : Own _ (SP.pu True :: SP.pu True :: _)).re [2]
      have hn := refNew12_spec (P := SP.pu True) r (by omega) (by omega) (oP.re [1, 0, 2])
      have hn2 := fun {w : World} {R : List SP} (o : Own w (SP.pu True :: R)) => refNew_spec (S := SP.pu True) r (by omega) (by omega) o
      clear hg h
      go_enter Tryz.func8, Tryz.ntmps8
      go_wp2_with fail
      refine hn.mono ?_
      rintro e1 w1 ⟨rp, rfl, o1, k1⟩
      go_wp2_with fail
      refine (hn2 (o1.re [3])).mono ?_
      rintro e2 w2 ⟨cp, rfl, o2, k2⟩
      go_wp2_with fail
      refine (hn2 (o2.re [1])).mono ?_
      rintro e3 w3 ⟨xp, rfl, o3, k3⟩
      have o3' : Own _ (cel w.heap.size 24 [.int .i64 nu, .int .i64 de] :: _) := o3.re [5]
      have c0 := o3'.cell 0
      have c1 := o3'.cell 1
      go_wp2_with fail
      refine (hv o3').mono ?_
      rintro e4 w4 ⟨rfl, o4, k4⟩
      go_wp2
      go_ret2
      exact ⟨_, rfl, o4.dropN 6, (qcalm_alloc (Calm.refl w)).trans (k1.trans (k2.trans (k3.trans k4)))⟩
end
end Go.Proofs.YtjpahfkchhnpoaaGreat

/- Cifq: one act of a script, on both sides. -/
namespace Go.Proofs.YtjpahfkchhnpoaaGreat
open Go.RowKit
open SP
section
variable {W w w' : World} {R : List SP} {b cb tb N M nu de : Nat} {reb : Int} {P S Sp : SP} {s : Cq} {g : KqG}

def ActPostQ (W : World) (cb M b tb nu de : Nat) (reb : Int) (N : Nat) (R : List SP) (w : World) (e : Ending) (w' : World) : Prop :=
  ∃ (s' : Cq) (g' : KqG) (P' S' : SP), CqS (N + 1) s' g' ∧ Ret (.bool true) (Ch W cb (M + 100) :: old W :: CqF b (nu : Int) (de : Int) reb (N + 1) s' :: KqT P' S' tb (nu : Int) (de : Int) reb s' g' :: P' :: S' :: R) w e w'
def ActCutQ (W : World) (cb M b tb nu de : Nat) (reb : Int) (N : Nat) (s : Cq) (g : KqG) (P S : SP) (R : List SP) (w : World) (v4 v5 : Value) (wc : World) : Prop :=
  ∃ f wt : Int, v4 = .int .i64 f ∧ v5 = .int .i64 wt ∧ Own wc (Ch W cb M :: old W :: CqF b (nu : Int) (de : Int) reb N s :: KqT P S tb (nu : Int) (de : Int) reb s g :: P :: S :: R) ∧ Calm w wc
def HdCutQ (W : World) (cb M b tb nu de : Nat) (reb : Int) (N : Nat) (s : Cq) (g : KqG) (P S : SP) (R : List SP) (w : World) (v : Value) (wc : World) : Prop :=
  ∃ (a : Option Addr) (n c : Nat) (H : List Head) (Sp : SP), v = .slice a n c ∧ KHds s.R.L Sp a n H ∧ Own wc (Sp :: Ch W cb M :: old W :: CqF b (nu : Int) (de : Int) reb N s :: KqT P S tb (nu : Int) (de : Int) reb s g :: P :: S :: R) ∧ Calm w wc
theorem act_endQ {w0 : World} {s' : Cq} {g' : KqG} {P' S' : SP} {K : Nat} (hI : CqS (N + 1) s' g') (hK : K ≤ M + 100) (o : Own w' (Ch W cb K :: old W :: CqF b (nu : Int) (de : Int) reb (N + 1) s' :: KqT P' S' tb (nu : Int) (de : Int) reb s' g' :: P' :: S' :: R)) (k : Calm w0 w') :
    ActPostQ W cb M b tb nu de reb N R w0 (.returned (.bool true)) w' := ⟨s', g', P', S', hI, rfl, Ch.upto o hK, k⟩
theorem act_endN {w0 : World} {s' : Cq} {g' : KqG} {P' S' : SP} {K : Nat} (hI : CqS (N + 1) s' g') (hK : K ≤ M + 100) (o : Own w' (CqF b (nu : Int) (de : Int) reb N s' :: Ch W cb K :: old W :: KqT P' S' tb (nu : Int) (de : Int) reb s' g' :: P' :: S' :: R)) (k : Calm w0 w') :
    ActPostQ W cb M b tb nu de reb N R w0 (.returned (.bool true)) w' := act_endQ hI hK ((CqF.next o).re [1, 2, 0]) k

set_option maxHeartbeats 12800000 in
set_option maxRecDepth 100000 in
theorem actQ_spec (hA : AlOk nu de) (h : CqS N s g) (hN : N ≤ 298) (hM : M ≤ 700000000) (o : Own w (Ch W cb M :: old W :: CqF b (nu : Int) (de : Int) reb N s :: KqT P S tb (nu : Int) (de : Int) reb s g :: P :: S :: R)) :
    Calls Tryz.prog 9 #[.pointer (some ⟨cb, 0, none⟩), .pointer (some ⟨b, 0, none⟩), .pointer (some ⟨tb, 0, none⟩)] w (ActPostQ W cb M b tb nu de reb N R w) := by
  go_enter Tryz.func9, Tryz.ntmps9
  go_wp2_with fail
  refine (next_spec W cb M 5 _ _ (by omega) (by omega) (by omega) o).mono ?_
  rintro e1 w1 ⟨f, hf0, hf1, rfl, o1, k1⟩
  go_wp2_with fail
  refine (weight_spec (M + 1) (by omega) o1).mono ?_
  rintro e2 w2 ⟨wt, hw0, hw1, rfl, o2, k2⟩
  go_wp2_with fail
  refine (next_spec W cb (M + 1 + 1) 30 _ _ (by omega) (by omega) (by omega) o2).mono ?_
  rintro e3 w3 ⟨z, hz0, hz1, rfl, o3, k3⟩
  have K3 := k1.trans (k2.trans k3)
  clear o1 o2 k1 k2 k3 o
  go_upto_block 0 with fail
  go_cut [7, 8] (fun v4 v5 wc => ActCutQ W cb (M + 4) b tb nu de reb N s g P S R w v4 v5 wc)
  case first =>
    by_cases hz : z = 0
    · subst hz
      have oA := o3.alloc (.cells #[.int .i64 (-1), .int .i64 32] 3)
      go_wp2_with fail
      refine (next_spec W cb (M + 1 + 1 + 1) 2 _ _ (by omega) (by omega) (by omega) (oA.re [1, 2])).mono ?_
      rintro e4 w4 ⟨y, hy0, hy1, rfl, o4, k4⟩
      obtain ⟨j, rfl⟩ : ∃ j : Nat, y = (j : Int) := ⟨y.toNat, by omega⟩
      have hj : j < 2 := by omega
      obtain ⟨u, hu⟩ : ∃ u, ([-1, 32] : List Int)[j]? = some u := ⟨_, List.getElem?_eq_getElem hj⟩
      have c := Own.cell (T := 3) (vs := ([-1, 32] : List Int).map (Value.int .i64)) (v := .int .i64 u) (o4.up 2) j (by rw [List.getElem?_map, hu]; rfl)
      have K4 := (qcalm_alloc (x := .cells #[.int .i64 (-1), .int .i64 32] 3) K3).trans k4
      clear hu o3 k4 K3 oA
      go_wp2
      go_meet
      exact ⟨u, wt, rfl, rfl, o4.re [2] 1, K4⟩
    · by_cases hz2 : z = 1
      · subst hz2
        have oA := o3.alloc (.cells #[.int .i64 0, .int .i64 17] 3)
        go_wp2_with fail
        refine (next_spec W cb (M + 1 + 1 + 1) 2 _ _ (by omega) (by omega) (by omega) (oA.re [1, 2])).mono ?_
        rintro e4 w4 ⟨y, hy0, hy1, rfl, o4, k4⟩
        obtain ⟨j, rfl⟩ : ∃ j : Nat, y = (j : Int) := ⟨y.toNat, by omega⟩
        have hj : j < 2 := by omega
        obtain ⟨u, hu⟩ : ∃ u, ([0, 17] : List Int)[j]? = some u := ⟨_, List.getElem?_eq_getElem hj⟩
        have c := Own.cell (T := 3) (vs := ([0, 17] : List Int).map (Value.int .i64)) (v := .int .i64 u) (o4.up 2) j (by rw [List.getElem?_map, hu]; rfl)
        have K4 := (qcalm_alloc (x := .cells #[.int .i64 0, .int .i64 17] 3) K3).trans k4
        clear hu o3 k4 K3 oA
        go_wp2
        go_meet
        exact ⟨f, u, rfl, rfl, o4.re [2] 1, K4⟩
      · have d1 : (z == 0) = false := by simpa using hz
        have d2 : (z == 1) = false := by simpa using hz2
        clear hz hz2
        go_wp2
        go_meet
        exact ⟨f, wt, rfl, rfl, Ch.upto o3 (by omega), K3⟩
  case rest =>
    clear o3 K3
    obtain ⟨f', wt', rfl, rfl, o4, k4⟩ := hcut
    go_wp2_with fail
    refine (next_spec W cb (M + 4) 12 _ _ (by omega) (by omega) (by omega) o4).mono ?_
    rintro e7 w7 ⟨q, hq0, hq1, rfl, o7, k7⟩
    have K7 := k4.trans k7
    clear o4 k4 k7 hf0 hf1 hw0 hw1 hz0 hz1
    by_cases hq : q = 0 ∨ q = 1
    · obtain ⟨g', hI, hR⟩ := h.join (by omega) (nu : Int) (de : Int) reb f' wt'
      have hp := cqJoin_spec f' wt' (joinQ_zero h.inv f' wt') (o7.re [2])
      obtain ⟨J, hJ⟩ : ∃ J, joinQ s f' wt' = J := ⟨_, rfl⟩
      rw [hJ] at hI hR hp
      clear hJ
      rcases hq with rfl | rfl
      · go_wp2_with fail
        refine hp.mono ?_
        rintro e8 w8 ⟨rfl, o8, k8⟩
        have hr := hR P S tb w8 _ (o8.re [3, 4, 5])
        clear hp
        go_wp2_with fail
        refine hr.mono ?_
        rintro e9 w9 ⟨P', S', rfl, o9, k9⟩
        clear hr
        go_wp2
        go_ret
        exact act_endN hI (by omega) (o9.re [3, 4, 5]) (K7.trans (k8.trans k9))
      · go_wp2_with fail
        refine hp.mono ?_
        rintro e8 w8 ⟨rfl, o8, k8⟩
        have hr := hR P S tb w8 _ (o8.re [3, 4, 5])
        clear hp
        go_wp2_with fail
        refine hr.mono ?_
        rintro e9 w9 ⟨P', S', rfl, o9, k9⟩
        clear hr
        go_wp2
        go_ret
        exact act_endN hI (by omega) (o9.re [3, 4, 5]) (K7.trans (k8.trans k9))
    · by_cases hq2 : q = 2
      · obtain ⟨g', hI, hR⟩ := h.leave (by omega) (nu : Int) (de : Int) reb f'
        have hp := cqLeave_spec f' (by omega) h.inv.nu (o7.re [2])
        obtain ⟨J, hJ⟩ : ∃ J, leaveQ s f' = J := ⟨_, rfl⟩
        rw [hJ] at hI hR hp
        clear hJ hq
        subst hq2
        go_wp2_with fail
        refine hp.mono ?_
        rintro e8 w8 ⟨rfl, o8, k8⟩
        have hr := hR P S tb w8 _ (o8.re [3, 4, 5])
        clear hp
        go_wp2_with fail
        refine hr.mono ?_
        rintro e9 w9 ⟨P', S', rfl, o9, k9⟩
        clear hr
        go_wp2
        go_ret
        exact act_endN hI (by omega) (o9.re [3, 4, 5]) (K7.trans (k8.trans k9))
      · by_cases hq3 : q = 3
        · obtain ⟨g', hI, hR⟩ := h.setW (nu : Int) (de : Int) reb f' wt'
          have hp := cqSetW_spec f' wt' (o7.re [2])
          obtain ⟨J, hJ⟩ : ∃ J, setWQ s f' wt' = J := ⟨_, rfl⟩
          rw [hJ] at hI hR hp
          clear hJ hq hq2
          subst hq3
          go_wp2_with fail
          refine hp.mono ?_
          rintro e8 w8 ⟨rfl, o8, k8⟩
          have hr := hR P S tb w8 _ (o8.re [3, 4, 5])
          clear hp
          go_wp2_with fail
          refine hr.mono ?_
          rintro e9 w9 ⟨P', S', rfl, o9, k9⟩
          clear hr
          go_wp2
          go_ret
          exact act_endN hI (by omega) (o9.re [3, 4, 5]) (K7.trans (k8.trans k9))
        · have d0 : (q == 0) = false := by simpa using (fun e => hq (.inl e))
          have d1 : (q == 1) = false := by simpa using (fun e => hq (.inr e))
          have d2 : (q == 2) = false := by simpa using hq2
          have d3 : (q == 3) = false := by simpa using hq3
          clear hq hq2 hq3
          have hlen := h.inv.t.ok.ok.len
          obtain ⟨rp, lp, cp, xp, oK⟩ := KqT.iff.1 (o7.re [3])
          go_wp2_with fail
          refine (idsQ_spec h.inv.t.ok.ok (oK.re [0, 1, 8])).mono ?_
          rintro e8 w8 ⟨ai, ci, rfl, o8, k8⟩
          have oT : Own _ (KqT P S tb (nu : Int) (de : Int) reb s g :: _) := KqT.iff.2 ⟨rp, lp, cp, xp, o8.re [1, 2, 4, 5, 6]⟩
          have hFl : s.R.L.length = (s.R.L.map (·.f)).length := (List.length_map _).symm
          have hhd := heads_spec (W := W) (b := cb) (N := M + 4 + 1) (sz := 0) (.inl rfl) (intsAt_slc (T := 3) ai s.R.L.length ci (s.R.L.map (·.f)) hFl) (c := ci) hFl (by omega) (by omega) (oT.re [3, 4, 1])
          unfold HeadsPost at hhd
          rw [← hFl] at hhd
          have HFl := Lib.hid hFl
          clear o7 hFl oK o8 oT
          go_wp2_with fail
          refine hhd.mono ?_
          rintro e9 w9 ⟨ah, ch, H, hH, rfl, o9, k9⟩
          clear hhd
          have hHl : H.length = s.R.L.length := by rw [HFl.out, ← hH.1, List.length_map]
          have o10 : Own w9 (slc 87 3 ah s.R.L.length ch (flat headC H) :: Ch W cb (M + 5 + 2 * s.R.L.length) :: old W :: CqF b (nu : Int) (de : Int) reb N s :: KqT P S tb (nu : Int) (de : Int) reb s g :: P :: S :: R) := (o9.re [3] 1).re [0, 1, 2, 5, 3, 4]
          have K9 := K7.trans (k8.trans k9)
          obtain ⟨n, hn⟩ : ∃ n, s.R.L.length = n := ⟨_, rfl⟩
          rw [hn] at o10 hlen hHl ⊢
          have HN := Lib.hid hn
          have HHL := Lib.hid hHl
          have HHD := Lib.hid hH
          clear o9 k8 k9 K7 hH hn hHl
          go_upto_region 18 with fail
          go_cut [97] (fun v wc => ∃ B : Bool, v = .bool B ∧ (B = true → 1 ≤ n) ∧ Own wc (slc 87 3 ah n ch (flat headC H) :: Ch W cb (M + 5 + 2 * n + 1) :: old W :: CqF b (nu : Int) (de : Int) reb N s :: KqT P S tb (nu : Int) (de : Int) reb s g :: P :: S :: R) ∧ Calm w wc)
          case first =>
            by_cases hn0 : n = 0
            · have dn : decide ((0 : Int) < (n : Int)) = false := decide_eq_false (by omega)
              have dn2 : ¬ 0 < n := by omega
              have HN0 := Lib.hid hn0
              clear hn0
              go_wp2
              go_meet
              exact ⟨false, rfl, (fun e => by cases e), (Ch.upto (o10.up 1) (by omega)).re [1], K9⟩
            · have dn : decide ((0 : Int) < (n : Int)) = true := decide_eq_true (by omega)
              have dn2 : 0 < n := by omega
              clear hn0
              go_wp2_with fail
              refine (next_spec W cb (M + 5 + 2 * n) 15 _ _ (by omega) (by omega) (by omega) (o10.re [1, 2])).mono ?_
              rintro e11 w11 ⟨v, hv0, hv1, rfl, o11, k11⟩
              go_wp2
              go_meet
              exact ⟨_, rfl, fun _ => dn2, o11.re [2], K9.trans k11⟩
          case rest =>
            clear o10 K9
            obtain ⟨B, rfl, hB, o11, K11⟩ := hcut
            go_upto_if 97 with fail
            go_cut [13] (fun v15 wc => HdCutQ W cb (M + 5 + 2 * n + 5) b tb nu de reb N s g P S R w v15 wc)
            case first =>
              cases B with
              | false =>
                go_wp2
                go_meet
                exact ⟨ah, n, ch, H, _, rfl, ⟨by omega, .inl ⟨HHL.out.symm, headsAt_slc (T := 87) ah n ch H HHL.out.symm⟩⟩, (Ch.upto (o11.up 1) (by omega)).re [1], K11⟩
              | true =>
                have hn1 := hB rfl
                clear hB
                go_wp2_with fail
                refine (next_spec W cb (M + 5 + 2 * n + 1) n _ _ (by omega) (by omega) (by omega) (o11.re [1, 2])).mono ?_
                rintro e12 w12 ⟨i, hi0, hi1, rfl, o12, k12⟩
                go_wp2_with fail
                refine (next_spec W cb (M + 5 + 2 * n + 1 + 1) 3 _ _ (by omega) (by omega) (by omega) o12).mono ?_
                rintro e13 w13 ⟨v, hv0, hv1, rfl, o13, k13⟩
                have K13 := K11.trans (k12.trans k13)
                obtain ⟨i, rfl⟩ : ∃ j : Nat, i = (j : Int) := ⟨i.toNat, by omega⟩
                have hin : i < n := by omega
                obtain ⟨g, rfl, _, hfz, hgl⟩ := (o13.up 2).slc_cell (by omega)
                obtain ⟨x0, hx0⟩ : ∃ x, H[i]? = some x := ⟨_, List.getElem?_eq_getElem (by rw [HHL.out]; exact hin)⟩
                have HX0 := Lib.hid hx0
                clear hx0
                clear o11 o12 k12 k13 K11
                by_cases hv : v = 0
                · have oA := o13.alloc (.cells #[.int .i64 0, .int .i64 4097] 3)
                  clear hfz hgl
                  subst hv
                  go_wp2_with fail
                  refine (next_spec W cb (M + 5 + 2 * n + 1 + 1 + 1) 2 _ _ (by omega) (by omega) (by omega) (oA.re [1, 2])).mono ?_
                  rintro e14 w14 ⟨y, hy0, hy1, rfl, o14, k14⟩
                  obtain ⟨j, rfl⟩ : ∃ j : Nat, y = (j : Int) := ⟨y.toNat, by omega⟩
                  have hj : j < 2 := by omega
                  obtain ⟨u, hu⟩ : ∃ u, ([0, 4097] : List Int)[j]? = some u := ⟨_, List.getElem?_eq_getElem hj⟩
                  have c := Own.cell (T := 3) (vs := ([0, 4097] : List Int).map (Value.int .i64)) (v := .int .i64 u) (o14.up 2) j (by rw [List.getElem?_map, hu]; rfl)
                  obtain ⟨g2, hg2, _, hfz, hgl⟩ := (o14.up 3).slc_cell (by omega)
                  cases hg2
                  have hz1 := hfz (i * 3 + 1)
                  have hst := flat_set headC_len H i 1 x0 ⟨x0.f, u, x0.good⟩ (.int .i64 u) HX0.out (by omega) rfl
                  have hcl : ∃ q, World.cell? w14 ⟨g, i * 3 + 1, none⟩ = some (.int .i64 q) := by
                    obtain ⟨g3, hg3, hc3, _, _⟩ := (o14.up 3).slc_cell (by omega)
                    cases hg3
                    exact ⟨x0.len, hc3 (i * 3 + 1) _ (flat_get headC_len H i 1 x0 HX0.out (by omega))⟩
                  obtain ⟨ql, hcl⟩ := hcl
                  have oB := (o14.up 3).slc_set (i * 3 + 1) (.int .i64 u) (by rw [flat_length headC_len, HHL.out]; omega)
                  rw [← hst] at oB
                  have hsl : (H.set i ⟨x0.f, u, x0.good⟩).length = n := by rw [List.length_set, HHL.out]
                  have HSL := Lib.hid hsl
                  have K14 := ((qcalm_alloc (x := .cells #[.int .i64 0, .int .i64 4097] 3) K13).trans k14)
                  clear hst hu hfz o13 o14 k14 K13 oA hsl
                  go_wp2
                  go_meet
                  exact ⟨some ⟨g, 0, none⟩, n, ch, _, _, rfl, ⟨by omega, .inl ⟨HSL.out.symm, headsAt_slc (T := 87) (some ⟨g, 0, none⟩) n ch _ HSL.out.symm⟩⟩, (Ch.upto ((oB.re [3] 1).up 1) (by omega)).re [1], qcalm_set K14⟩
                · by_cases hv1' : v = 1
                  · subst hv1'
                    clear hv hfz hgl
                    have hb1 : (1 : Int) ≤ (n : Int) := by omega
                    have hch : n ≤ ch := (o13.up 2).slc_len.2.1
                    have hb2 : (1 : Int) ≤ (ch : Int) := by omega
                    have hb3 : 1 ≤ ch := by omega
                    have hun : fitsH s.R.L (H.drop 1) = false := by
                      unfold fitsH
                      rw [Bool.and_eq_false_iff]
                      refine .inl (decide_eq_false fun e => ?_)
                      have := congrArg List.length e
                      rw [List.length_map, List.length_map, List.length_drop, HHL.out, HN.out] at this
                      omega
                    have hne : n - 1 ≠ s.R.L.length := by rw [HN.out]; omega
                    have HUN := Lib.hid hun
                    have HNE := Lib.hid hne
                    clear hun hne
                    by_cases hc1 : ch = 1
                    · subst hc1
                      have HNE2 := Lib.hid (show 0 ≠ s.R.L.length by rw [HN.out]; omega)
                      go_wp2
                      go_meet
                      exact ⟨_, _, _, H.drop 1, _, rfl, ⟨by omega, .inr ⟨by first | exact HNE2.out | exact HNE.out, HUN.out⟩⟩, (Ch.upto o13 (by omega)).re [2], K13⟩
                    · have dc : ((1 : Int) == (ch : Int)) = false := by rw [beq_eq_false_iff_ne]; omega
                      have dc2 : ¬ ch = 1 := hc1
                      have dc3 : ¬ 1 = ch := fun e => hc1 e.symm
                      go_wp2
                      go_meet
                      exact ⟨_, _, _, H.drop 1, _, rfl, ⟨by omega, .inr ⟨HNE.out, HUN.out⟩⟩, (Ch.upto o13 (by omega)).re [2], K13⟩
                  · have dv : (v == 0) = false := by simpa using hv
                    have dv1 : (v == 1) = false := by simpa using hv1'
                    have hz0 := hfz (i * 3)
                    have hcl : World.cell? w13 ⟨g, i * 3, none⟩ = some (.int .i64 x0.f) := by
                      obtain ⟨g3, hg3, hc3, _, _⟩ := (o13.up 2).slc_cell (by omega)
                      cases hg3
                      have := hc3 (i * 3 + 0) _ (flat_get headC_len H i 0 x0 HX0.out (by omega))
                      rw [Nat.add_zero] at this
                      exact this
                    have hxr : 0 ≤ x0.f ∧ x0.f < 32 := by
                      have hm : x0.f ∈ H.map (·.f) := List.mem_map.2 ⟨x0, List.mem_of_getElem? HX0.out, rfl⟩
                      rw [HHD.out.1] at hm
                      obtain ⟨t, ht, e⟩ := List.mem_map.1 hm
                      have := h.inv.t.ok.ok.rng t ht
                      omega
                    have hwr : IntKind.i64.wrap (x0.f + 1) = x0.f + 1 := by rw [IntKind.wrap_i64]; omega
                    have hst := flat_set headC_len H i 0 x0 ⟨x0.f + 1, x0.len, x0.good⟩ (.int .i64 (x0.f + 1)) HX0.out (by omega) rfl
                    rw [Nat.add_zero] at hst
                    have oB := (o13.up 2).slc_set (i * 3) (.int .i64 (x0.f + 1)) (by rw [flat_length headC_len, HHL.out]; omega)
                    rw [← hst] at oB
                    have HSL := Lib.hid (show (H.set i ⟨x0.f + 1, x0.len, x0.good⟩).length = n by rw [List.length_set, HHL.out])
                    clear hst hfz hv hv1' o13 hxr
                    go_wp2
                    go_meet
                    exact ⟨some ⟨g, 0, none⟩, n, ch, _, _, rfl, ⟨by omega, .inl ⟨HSL.out.symm, headsAt_slc (T := 87) (some ⟨g, 0, none⟩) n ch _ HSL.out.symm⟩⟩, (Ch.upto (oB.up 1) (by omega)).re [1], qcalm_set K13⟩
            case rest =>
              clear o11 K11 hB
              obtain ⟨a, k, c, H2, Sp, rfl, hHd, o12, K12⟩ := hcut
              have hp := stepQ_prog (b := b) (reb := reb) (c := c) h.inv (by omega) hA hHd (o12.re [3, 0])
              have hR := stepQ_ref (c := c) h (by omega) hA reb hHd
              obtain ⟨RS, hRS⟩ : ∃ RS, stepC (nu : Int) (de : Int) reb s H2 = RS := ⟨_, rfl⟩
              rw [hRS] at hp hR
              obtain ⟨⟨C1, C2, C3⟩, er, s2⟩ := RS
              unfold chV at hp hR
              dsimp only at hp hR
              have HR := Lib.hid hR
              clear hR hRS
              go_wp2_with fail
              refine hp.mono ?_
              rintro e13 w13 ⟨rfl, o13, k13⟩
              have oA := o13.alloc (.cells #[.int .i64 C1, .int .i64 C2, .int .i64 C3] 89)
              have hr := HR.out P S tb _ _ (oA.re [5, 6, 7, 2])
              clear hp o12
              go_wp2_with fail
              refine hr.mono ?_
              rintro e14 w14 ⟨P', S', g', hI, rfl, o14, k14⟩
              have HI := Lib.hid hI
              clear hr hI oA
              have a0 := Own.cell (T := 89) (vs := [.int .i64 C1, .int .i64 C2, .int .i64 C3]) (o14.up 4) 0
              have a1 := Own.cell (T := 89) (vs := [.int .i64 C1, .int .i64 C2, .int .i64 C3]) (o14.up 4) 1
              have a2 := Own.cell (T := 89) (vs := [.int .i64 C1, .int .i64 C2, .int .i64 C3]) (o14.up 4) 2
              have al := Own.celLt (T := 89) (vs := [.int .i64 C1, .int .i64 C2, .int .i64 C3]) (o14.up 4)
              have oB := o14.alloc (.cells #[.int .i64 C1, .int .i64 C2, .int .i64 C3] 89)
              go_wp2
              go_ret
              exact act_endQ HI.out (by omega) ((oB.re [0, 4, 5] 3).re [4, 5, 3, 0, 1, 2]) (qcalm_alloc ((qcalm_alloc (K12.trans k13)).trans k14))
end
end Go.Proofs.YtjpahfkchhnpoaaGreat

/- A parameter that is a pair of integers (api.Alpha): what it holds. -/
namespace Go.Proofs.YtjpahfkchhnpoaaGreat
open Go.RowKit Go.ChangeShapes Go.WideShapes
theorem alpha_cells {H : Type} {enc : TypeId × Value → H} {W : World} {base : Nat} {spare : Nat → Bool} {held : Bool} {fuel : Nat} {cs : List Value} {x : DataW H × List MemPlace}
    (hf : DataW.trod enc Tryz.prog W base spare held fuel 24 cs = some x) : ∃ a b : Int, cs = [.int .i64 a, .int .i64 b] := by
  obtain ⟨xs, n, _, _, hl, hlen, hx⟩ := DataW.trod_struct Tryz.underlying24 hf
  have hl6 : cs.length = 2 := hl.trans (by kernel_rfl)
  have hlen6 : xs.length = 2 := hlen
  have key : ∀ (j : Nat) (f : Field) (T : TypeId), Tryz.prog.underlying T = some (.int .i64) → f.type = T → f.offset = j → Tryz.prog.cellsOf T = 1 → j < 2 → (∃ x, DataW.trod enc Tryz.prog W base spare held n f.type ((cs.drop f.offset).take (Tryz.prog.cellsOf f.type)) = some x) → ∃ y : Int, cs[j]? = some (.int .i64 y) := by
    rintro j f T hT rfl rfl hc hj ⟨x, hx⟩
    obtain ⟨y, hy, _⟩ := DataW.trod_int hT hx
    rw [hc] at hy
    refine ⟨y, ?_⟩
    have := congrArg (fun l => l[0]?) hy
    simp only [List.getElem?_take, List.getElem?_drop, Nat.add_zero, List.getElem?_cons_zero] at this
    simpa using this
  have get : ∀ (i : Nat), i < 2 → ∃ x, xs[i]? = some x := fun i hi => ⟨_, List.getElem?_eq_getElem (by omega)⟩
  obtain ⟨y0, h0⟩ := key 0 _ 2 Tryz.underlying2 rfl rfl (by kernel_rfl) (by omega) (by rw [hx 0 _ rfl]; exact get 0 (by omega))
  obtain ⟨y1, h1⟩ := key 1 _ 2 Tryz.underlying2 rfl rfl (by kernel_rfl) (by omega) (by rw [hx 1 _ rfl]; exact get 1 (by omega))
  refine ⟨y0, y1, ?_⟩
  apply List.ext_getElem?
  intro j
  by_cases hj : j < 2
  · match j, hj with
    | 0, _ => exact h0
    | 1, _ => exact h1
  · rw [List.getElem?_eq_none (by omega), List.getElem?_eq_none (by show 2 ≤ j; omega)]
theorem alpha_of_trod {H : Type} {enc : TypeId × Value → H} {W : World} {base : Nat} {spare : Nat → Bool} {held : Bool} {cs : Array Value} {d : DataW H} {p : List MemPlace}
    (h : DataW.Trod enc Tryz.prog W base spare held 24 (.agg cs) d p) : ∃ a b : Int, Value.agg cs = .agg #[.int .i64 a, .int .i64 b] := by
  obtain ⟨fuel, hf⟩ := h
  obtain ⟨a, b, hr⟩ := alpha_cells hf
  have hcell : (Value.agg cs).cells = cs := rfl
  rw [hcell] at hr
  refine ⟨a, b, ?_⟩
  rw [show cs = cs.toList.toArray from rfl, hr]
end Go.Proofs.YtjpahfkchhnpoaaGreat

/- Cifq: the script, walked. -/
namespace Go.Proofs.YtjpahfkchhnpoaaGreat
open Go.RowKit
open SP
section
variable {W w w' : World} {R : List SP} {b cb tb N nu de : Nat} {reb : Int} {P S : SP} {s : Cq} {g : KqG}

def ScRelQ (b cb tb nu de : Nat) (reb : Int) (w : World) (R : List SP) (v : Value) (wr : World) : Prop :=
  ∃ (i : Nat) (s : Cq) (g : KqG) (P S : SP), v = .int .i64 (i : Int) ∧ i ≤ 50 ∧ CqS i s g ∧
    Own wr (Ch w cb (2 + 100 * i) :: old w :: CqF b (nu : Int) (de : Int) reb i s :: KqT P S tb (nu : Int) (de : Int) reb s g :: P :: S :: R) ∧ Calm w wr
theorem cqRebasedF_spec (o : Own w (CqF b (nu : Int) (de : Int) reb N s :: R)) :
    Calls Tryz.prog 13 #[.pointer (some ⟨b, 0, none⟩)] w (IsRet (.int .i64 s.R.aw) w) := by
  obtain ⟨rp, lp, cp, xp, nb, o1⟩ := CqF.iff.1 o
  have c2 := o1.cell 2
  have hq := sfqRebased_spec (o1.re [1])
  go_enter Tryz.func13, Tryz.ntmps13
  go_wp2_with fail
  refine hq.mono ?_
  rintro e1 w1 ⟨rfl, rfl⟩
  go_wp2
  go_ret
  exact ⟨rfl, rfl⟩
theorem Pb.ys {la ls : Bool} {v : Value} {T : TypeId} {zs ys ys' : List Value} (h : ls = false) (o : Own w (Pb la ls v T zs ys :: R)) : Own w (Pb la ls v T zs ys' :: R) := by
  subst h
  unfold Pb at o ⊢
  rw [if_neg Bool.false_ne_true] at o ⊢
  exact o
def alCells (v : Value) : List Value := match v with
  | .agg a => a.toList
  | _ => []
def RbT (cb : Nat) (w0 : World) (w : World) (p v : Value) (wc : World) : Prop :=
  ∃ (g nu de : Nat) (rb : Int), AlOk nu de ∧ 1 ≤ rb ∧ rb ≤ 1099511627776 ∧ p = .pointer (some ⟨g, 0, none⟩) ∧ v = .int .i64 rb ∧ Own wc (cel g 24 [.int .i64 (nu : Int), .int .i64 (de : Int)] :: Ch w0 cb 2 :: old w0 :: []) ∧ Calm w wc
set_option maxHeartbeats 12800000 in
set_option maxRecDepth 100000 in
theorem cifqScript_walk (a0 : Option Addr) (len0 cap0 : Nat) (z0 : List Int) (x y rr : Int) (w : World) (w0 : IsRow .i64 w a0 len0 cap0 z0) :
    Calls Tryz.prog 3 #[.slice a0 len0 cap0, .agg #[.int .i64 x, .int .i64 y], .int .i64 rr] w fun e w' => e = .returned (.bool true) ∧ Below w.heap.size w w' := by
  have oW := Own.start w
  have oX : Own _ (cel w.heap.size 24 [.int .i64 x, .int .i64 y] :: _) := oW.alloc (.cells #[.int .i64 x, .int .i64 y] 24)
  go_enter Tryz.func3, Tryz.ntmps3
  go_wp2_with fail
  refine (genNew_spec a0 len0 cap0 z0 w0 oX).mono ?_
  rintro e1 v1 ⟨cb, rfl, o1, k1⟩
  have K1 := (qcalm_alloc (x := .cells #[.int .i64 x, .int .i64 y] 24) (Calm.refl w)).trans k1
  have oS : Own v1 (Ch w cb 0 :: old w :: cel w.heap.size 24 [.int .i64 x, .int .i64 y] :: []) := o1.re [0, 2]
  clear o1 k1 oX oW
  go_upto_region 2 with fail
  go_cut [8, 9] (fun p v wc => ∃ (g nu de : Nat) (rb : Int), AlOk nu de ∧ 1 ≤ rb ∧ rb ≤ 1099511627776 ∧ p = .pointer (some ⟨g, 0, none⟩) ∧ v = .int .i64 rb ∧ Own wc (cel g 24 [.int .i64 (nu : Int), .int .i64 (de : Int)] :: Ch w cb 2 :: old w :: cel w.heap.size 24 [.int .i64 x, .int .i64 y] :: []) ∧ Calm w wc)
  case first =>
    refine wp_region_draws (fun L v wc => Own wc (Ch w cb (dOne (L 1) + dOne (L 4)) :: old w :: Tb (L 2) (v 2) 2 [.int .i64 1099511627776, .int .i64 1, .int .i64 536870912] :: Pb (L 7) (L 8) (v 7) 24 [.int .i64 0, .int .i64 0] (alCells (v 1)) :: cel w.heap.size 24 [.int .i64 x, .int .i64 y] :: []) ∧ Calm w wc ∧
      (L 0 = true → v 0 = .pointer (some ⟨cb, 0, none⟩)) ∧ (L 1 = true → ∃ nu de : Nat, AlOk nu de ∧ v 1 = .agg #[.int .i64 (nu : Int), .int .i64 (de : Int)]) ∧ TD L v cb 2 3 4 5 6 [.int .i64 1099511627776, .int .i64 1, .int .i64 536870912] ∧ (L 8 = true → L 1 = true) ∧ (L 9 = true → L 6 = true ∧ v 9 = v 6)) (by kernel_rfl) (by kernel_rfl) (by kernel_rfl) ?h0 ?step ?fin
    case h0 => exact ⟨((Pb.no (Tb.no oS)).re [2, 3, 1, 0]).same rfl, ⟨K1.os, K1.tape, K1.output⟩, fun h => (Bool.false_ne_true h).elim, fun h => (Bool.false_ne_true h).elim, TD.no, fun h => (Bool.false_ne_true h).elim, fun h => (Bool.false_ne_true h).elim⟩
    case step =>
      refine ⟨DrawStep.mk rfl ?_, DrawStep.mk rfl ?_, DrawStep.mk rfl ?_, DrawStep.mk rfl ?_, DrawStep.mk rfl ?_, DrawStep.mk rfl ?_, DrawStep.mk rfl ?_, DrawStep.mk rfl ?_, DrawStep.mk rfl ?_, DrawStep.mk rfl ?_, trivial⟩
      all_goals intro L v a wc hL hd hA hI K' hK
      all_goals obtain ⟨oD, kD, f0, f1, t1, f8, f9⟩ := hI
      all_goals simp [Region.binds] at hd
      · have c0 := hA.base 7 (by rfl)
        simp only [List.getElem?_toArray, List.getElem?_cons_zero, List.getElem?_cons_succ, Option.getD_some] at c0
        go_simp
        exact hK.out _ _ ⟨oD, kD, fun _ => rfl, f1, t1.other _ hL (by decide), f8, f9⟩
      · have c0 := (hA.get 0 hd).trans (f0 hd)
        have h8 : L 8 = false := by
          cases h : L 8 with
          | false => rfl
          | true => rw [hL] at f8; exact absurd (f8 h) Bool.false_ne_true
        go_simp
        have b4 := dOne_le (L 4)
        have b1 : dOne (L 1) = 0 := by rw [hL]; rfl
        refine (alpha_spec (by omega) oD).mono ?_
        rintro e3 w3 ⟨nu, de, hAl, rfl, o3, k3⟩
        exact hK.out _ _ ⟨Ch.upto ((Pb.ys h8 (o3.up 3)).re [1, 2, 3, 0]) (by show _ ≤ dOne true + dOne (L 4); rw [dOne_yes]; omega), kD.trans k3, f0, fun _ => ⟨nu, de, hAl, rfl⟩, t1.other _ hL (by decide), fun h => rfl, f9⟩
      · go_simp
        rw [hL] at oD
        exact hK.out _ _ ⟨(Tb.new (oD.up 2) _ (((oD.up 2).alloc (.cells #[Value.int .i64 1099511627776, .int .i64 1, .int .i64 536870912] 2)))).re [1, 2, 0, 3], ⟨kD.os, kD.tape, kD.output⟩, f0, f1, t1.other _ hL (by decide), f8, f9⟩
      · have c0 := hA.base 7 (by rfl)
        simp only [List.getElem?_toArray, List.getElem?_cons_zero, List.getElem?_cons_succ, Option.getD_some] at c0
        go_simp
        exact hK.out _ _ ⟨oD, kD, f0, f1, t1.doMove hL (by decide), f8, f9⟩
      · have h3 : L 3 = true := by simp [hd]
        have c0 := (hA.get 3 h3).trans (t1.move h3)
        go_simp
        have b1 := dOne_le (L 1)
        have b4 : dOne (L 4) = 0 := by rw [hL]; rfl
        refine (next_spec w cb _ 3 _ _ (by omega) (by omega) (by omega) oD).mono ?_
        rintro e6 w6 ⟨z, hz0, hz1, rfl, o6, k6⟩
        obtain ⟨j, rfl⟩ : ∃ j : Nat, z = (j : Int) := ⟨z.toNat, by omega⟩
        refine hK.out _ _ ⟨Ch.upto o6 (by show _ ≤ dOne (L 1) + dOne true; rw [dOne_yes]; omega), kD.trans k6, f0, f1, t1.doCall hL (by decide) (show j < 3 by omega), f8, f9⟩
      · have h2 : L 2 = true := by simp [hd]
        have h4 : L 4 = true := by simp [hd]
        obtain ⟨j, hj, hv⟩ := t1.call h4
        rw [h2] at oD
        have c0 := hA.get 2 h2
        have c2 := (hA.get 4 h4).trans hv
        obtain ⟨g, hg⟩ := Tb.val (oD.up 2)
        rw [hg] at c0
        have hj' : (j : Int) < 3 := by have h4 : j < 3 := hj; omega
        go_simp
        exact hK.out _ _ ⟨by rw [← h2] at oD; exact oD, kD, f0, f1, t1.doAddr hL (by decide) h2 hj hg, f8, f9⟩
      · have h5 : L 5 = true := by simp [hd]
        obtain ⟨h0, g, j, hj, h1, h2⟩ := t1.addr h5
        rw [h0, h1] at oD
        have c3 := (hA.get 5 h5).trans h2
        have cc := Tb.at (oD.up 2) hj
        have hx : ([.int .i64 1099511627776, .int .i64 1, .int .i64 536870912] : List Value)[j] ∈ ([.int .i64 1099511627776, .int .i64 1, .int .i64 536870912] : List Value) := List.getElem_mem hj
        obtain ⟨x9, hx0⟩ := tblInt [1099511627776, 1, 536870912] hx
        generalize ([.int .i64 1099511627776, .int .i64 1, .int .i64 536870912] : List Value)[j] = y9 at *
        subst hx0
        go_simp
        exact hK.out _ _ ⟨by rw [← h0, ← h1] at oD; exact oD, kD, f0, f1, t1.doLoad hL (by decide) hx, f8, fun h => (by rw [hL] at f9; cases (f9 h).1)⟩
      · go_simp
        rw [hL] at oD
        exact hK.out _ _ ⟨(Pb.new (oD.up 3)).re [1, 2, 3, 0], qcalm_alloc kD, f0, f1, t1.other _ hL (by decide), f8, f9⟩
      · have h7 : L 7 = true := by simp [hd]
        have h1 : L 1 = true := by simp [hd]
        obtain ⟨nu, de, hAl, hv1⟩ := f1 h1
        have c0 := hA.get 7 h7
        have c1 := (hA.get 1 h1).trans hv1
        rw [h7, hL] at oD
        obtain ⟨gN, hgN, oN⟩ := Pb.val (oD.up 3)
        rw [hgN] at c0
        have hgN := Lib.hid hgN
        have HV1 := Lib.hid hv1
        clear hv1
        have n0_ := oN.cell 0
        have n1_ := oN.cell 1
        have nf_ := oN.frozen
        have nl_ := oN.celLt
        go_simp
        have oY := (oN.setCell 0 (.int .i64 (nu : Int))).setCell 1 (.int .i64 (de : Int))
        have oQ := Pb.put (l := L 7) (v := v 7) (zs := [.int .i64 0, .int .i64 0]) oY h7 hgN.out
        refine hK.out undef _ ⟨?_, qcalm_set (qcalm_set kD), f0, f1, t1.other _ hL (by decide), fun _ => h1, f9⟩
        show Own _ (Ch w cb (dOne (L 1) + dOne (L 4)) :: old w :: Tb (L 2) (v 2) 2 [.int .i64 1099511627776, .int .i64 1, .int .i64 536870912] :: Pb (L 7) true (v 7) 24 [.int .i64 0, .int .i64 0] (alCells (v 1)) :: _)
        rw [HV1.out]
        rw [h7] at oQ ⊢
        exact oQ.re [1, 2, 3, 0]
      · have h6 : L 6 = true := by simp [hd]
        have c4 := hA.get 6 h6
        go_simp
        exact hK.out _ _ ⟨oD, kD, f0, f1, t1.other _ hL (by decide), f8, fun _ => ⟨h6, rfl⟩⟩
    case fin =>
      rintro L v wc hall ⟨oD, kD, f0, f1, t1, f8, f9⟩
      have e9 := (f9 (hall 9 (by decide))).2
      obtain ⟨nu, de, hAl, hv1⟩ := f1 (hall 1 (by decide))
      obtain ⟨rb, hr1, hr2, hrb⟩ : ∃ rb : Int, 1 ≤ rb ∧ rb ≤ 1099511627776 ∧ v 6 = .int .i64 rb := by
        have := t1.load (hall 6 (by decide))
        simp only [List.mem_cons, List.not_mem_nil, or_false] at this
        rcases this with h | h | h
        · exact ⟨_, by decide, by decide, h⟩
        · exact ⟨_, by decide, by decide, h⟩
        · exact ⟨_, by decide, by decide, h⟩
      rw [hall 1 (by decide), hall 4 (by decide), hall 7 (by decide), hall 8 (by decide)] at oD
      obtain ⟨gN, hgN, oN⟩ := Pb.got (oD.up 3)
      rw [hv1] at oN
      rw [hrb] at e9
      clear t1 f0 f1 f8 f9 hall hv1
      simp only [putAll, Act.put, List.setIfInBounds_toArray, List.set_cons_zero, List.set_cons_succ]
      go_wp2
      go_meet
      exact ⟨gN, nu, de, rb, hAl, hr1, hr2, hgN, e9, oN.re [3] 1, kD⟩
  case rest =>
    obtain ⟨ga, nu, de, reb, hA, hr1, hr2, rfl, rfl, o2, K2⟩ := hcut
    clear oS K1
    have q0 := Own.cell (T := 24) (vs := [.int .i64 (nu : Int), .int .i64 (de : Int)]) o2 0
    have q1 := Own.cell (T := 24) (vs := [.int .i64 (nu : Int), .int .i64 (de : Int)]) o2 1
    go_wp2_with fail
    refine (cqNew_spec hA reb hr1 hr2 o2).mono ?_
    rintro e3 v3 ⟨b, rfl, o3, k3⟩
    clear q0 q1
    have q0 := Own.cell (T := 24) (vs := [.int .i64 (nu : Int), .int .i64 (de : Int)]) (o3.up 1) 0
    have q1 := Own.cell (T := 24) (vs := [.int .i64 (nu : Int), .int .i64 (de : Int)]) (o3.up 1) 1
    have oP : Own v3 (SP.pu True :: SP.pu True :: _) := Own.pu.2 ⟨trivial, Own.pu.2 ⟨trivial, o3⟩⟩
    go_wp2_with fail
    refine (kqNew_spec (P := SP.pu True) (S := SP.pu True) hA reb hr1 hr2 oP).mono ?_
    rintro e4 v4 ⟨tb, rfl, o4, k4⟩
    clear q0 q1 oP
    have K4 := K2.trans (k3.trans k4)
    have hT : ScRelQ b cb tb nu de reb w [cel ga 24 [.int .i64 (nu : Int), .int .i64 (de : Int)], cel w.heap.size 24 [.int .i64 x, .int .i64 y]] (.int .i64 0) v4 := ⟨0, cq0, kq0, SP.pu True, SP.pu True, rfl, by omega, CqS.start, o4.re [5, 6, 3, 0, 1, 2, 4], K4⟩
    clear o2 o3 o4 k3 k4 K4 K2
    go_wp2
    go_loopw [14] (fun v wr => ScRelQ b cb tb nu de reb w [cel ga 24 [.int .i64 (nu : Int), .int .i64 (de : Int)], cel w.heap.size 24 [.int .i64 x, .int .i64 y]] v wr) (fun v _ => 50 - (Lib.intOf v).toNat)
    case atStart => exact hT
    case round =>
      clear hT
      obtain ⟨i, s, g, P, S, rfl, hi, hI, oR, kR⟩ := hrel
      by_cases hlt : i < 50
      · have hact := actQ_spec (reb := reb) hA hI (by omega) (by omega) oR.drew
        clear oR
        go_upto_region 10 with fail
        go_region_law (first
          | (go_simp; go_at_call 9; (with_reducible refine hact.mono ?_); rintro e5 w5 ⟨s', g', P', S', hI', rfl, o5, k5⟩; have hacc := cqAcc_spec hI'.inv.t.ok.ok.len (o5.re [2]))
          | (go_simp; go_at_call 11; (with_reducible refine hacc.mono ?_); rintro e6 w6 ⟨a6, c6, rfl, o6, k6⟩; have hacr := kqAcc_spec hI'.rel hI'.inv.lg.ok hI'.inv.fl (o6.re [4, 5, 6]))
          | (go_simp; go_at_call 12; (with_reducible refine hacr.mono ?_); rintro e7 w7 ⟨a7, c7, rfl, o7, k7⟩; have heq := equalQ_spec (n := s'.R.L.length) (c1 := c6) (c2 := c7) rfl (by have := hI'.inv.t.ok.ok.len; omega) (o7.re [4, 0]))
          | (go_simp; go_at_call 10; (with_reducible refine heq.mono ?_); rintro e8 w8 ⟨rfl, o8, k8⟩; obtain ⟨rp, lp, cp, xp, oT⟩ := KqT.iff.1 (o8.up 2); obtain ⟨a1, c1', a2, c2, hpu, o9⟩ := RefT.iff.1 (oT.up 1); have q3 := kq_ptr 3 oT (.inl ⟨rfl, rfl⟩); have q4 := o9.cell 4; have hrb := cqRebasedF_spec (b := b) (nu := nu) (de := de) (reb := reb) (s := s') (o8.re [5]); have hsum := cqSumF_spec (by omega) (o8.re [5]); rw [hI'.inv.sum] at hsum)
          | (go_simp; go_at_call 13; (with_reducible refine hrb.mono ?_); rintro e10 w10 ⟨rfl, rfl⟩)
          | (go_simp; go_at_call 14; (with_reducible refine hsum.mono ?_); rintro e11 w11 ⟨rfl, o11, k11⟩))
        all_goals go_wp2
        all_goals go_roundw
        all_goals first
          | (show _ < _; simp [Lib.intOf]; omega)
          | (refine ⟨i + 1, s', g', P', S', by go_num, by omega, hI', ?_, kR.trans ((qcalm_drew (Calm.refl wr)).trans (k5.trans (k6.trans (k7.trans (k8.trans k11)))))⟩; rw [show 2 + 100 * (i + 1) = 2 + 100 * i + 100 by omega]; exact (o11.re [1, 2] 2).re [4, 5, 0, 1, 2, 3])
      · have q0 := Own.cell (T := 24) (vs := [.int .i64 x, .int .i64 y]) (oR.up 7) 0
        have q1 := Own.cell (T := 24) (vs := [.int .i64 x, .int .i64 y]) (oR.up 7) 1
        have hp := newQ_prog x y rr oR
        clear hI
        go_wp2_with fail
        refine hp.mono ?_
        rintro e5 w5 ⟨va, rfl, o5, k5⟩
        clear hp q0 q1
        have q0 := Own.cell (T := 24) (vs := [.int .i64 x, .int .i64 y]) (o5.up 7) 0
        have q1 := Own.cell (T := 24) (vs := [.int .i64 x, .int .i64 y]) (o5.up 7) 1
        have hp := newQ_ref x y rr o5
        go_wp2_with fail
        refine hp.mono ?_
        rintro e6 w6 ⟨vb, rfl, o6, k6⟩
        clear hp q0 q1
        obtain ⟨ne, hne⟩ : ∃ ne, newErrQ x y rr = ne := ⟨_, rfl⟩
        rw [hne]
        clear hne oR o5
        have q0 := Own.cell (T := 24) (vs := [.int .i64 x, .int .i64 y]) (o6.up 7) 0
        have q1 := Own.cell (T := 24) (vs := [.int .i64 x, .int .i64 y]) (o6.up 7) 1
        have hv := validQ_prog x y o6.drew
        have hv2 := fun {w : World} {R : List SP} (o : Own w R) => validQ_ref x y o
        obtain ⟨B, hB⟩ : ∃ B, alGood x y = B := ⟨_, rfl⟩
        rw [hB] at hv
        simp only [hB] at hv2
        clear hB
        go_upto_region 14 with fail
        go_region_law (first
          | (go_simp; go_at_call 15; (with_reducible refine hv.mono ?_); rintro e7 w7 ⟨rfl, o7, k7⟩; have d0 := Own.cell (T := 24) (vs := [.int .i64 x, .int .i64 y]) (o7.up 7) 0; have d1 := Own.cell (T := 24) (vs := [.int .i64 x, .int .i64 y]) (o7.up 7) 1; have hv3 := hv2 o7)
          | (go_simp; go_at_call 16; (with_reducible refine hv3.mono ?_); rintro e8 w8 ⟨rfl, o8, k8⟩; have haw := awake24_spec o8)
          | (go_simp; go_at_call 17; (with_reducible refine haw.mono ?_); rintro e9 w9 ⟨rfl, o9, k9⟩))
        all_goals go_wp2
        all_goals go_ret
        all_goals exact ⟨by cases B <;> rfl, (o9.up 1).below (kR.trans (k5.trans (k6.trans ((qcalm_drew (Calm.refl w6)).trans (k7.trans (k8.trans k9))))))⟩
end
end Go.Proofs.YtjpahfkchhnpoaaGreat
