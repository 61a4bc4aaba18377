/- The program's ledger of lags: Parts, Sum. -/
import Derived.Test.YtalkmeclkjnjnaaLag
namespace Go.Proofs.Ytalkmeclkjnjnaa
open Go.RowKit
open SP
section
variable {W w w' : World} {b N : Nat} {L : List Tg} {R : List SP}

theorem accW (x y : Int) (w : World) : (Instr.field 65 (.agg #[.int .i64 x, .int .i64 y]) 0).run Try.prog w = .ok (.int .i64 x) w := by kernel_rfl
theorem accS (x y : Int) (w : World) : (Instr.field 65 (.agg #[.int .i64 x, .int .i64 y]) 1).run Try.prog w = .ok (.int .i64 y) w := by kernel_rfl
/-- The flows with their weights. -/
def ptsOf (L : List Tg) : List (Int × Int) := L.map fun t => (t.f, t.w)
theorem ptsOf_len (L : List Tg) : (ptsOf L).length = L.length := by unfold ptsOf; rw [List.length_map]
theorem ptsOf_ok (h : NOk L) : PtOk (ptsOf L) := by
  refine ⟨?_, fun p hp => ?_, by rw [ptsOf_len]; exact h.len⟩
  · unfold ptsOf; rw [List.pairwise_map]; exact h.asc
  · obtain ⟨t, ht, rfl⟩ := List.mem_map.1 hp
    exact h.rng t ht
theorem pws_pts (L : List Tg) : pws (ptsOf L) = wts L := by unfold pws ptsOf wts; rw [List.map_map]; rfl

def PtRel (b ab : Nat) (L : List Tg) (m : List (Int × Tg)) (a : Option Addr) (cap : Nat) (ks : List Int) (R : List SP) (w : World) (v3 v13 : Value) (wr : World) : Prop :=
  ∃ (i : Nat) (a' : Option Addr) (c' : Nat), v13 = .int .i64 (i : Int) ∧ i ≤ L.length ∧ v3 = .slice a' i c' ∧
    Own wr (slc 34 2 a' i c' (flat part ((ptsOf L).take i)) :: slc 3 1 a ks.length cap (ks.map (Value.int .i64)) :: cel b 63 [.map (some ab)] :: mpI accV ab m :: R) ∧ Calm w wr
def PartsPost (b N : Nat) (L : List Tg) (R : List SP) (w : World) (e : Ending) (w' : World) : Prop :=
  ∃ (a : Option Addr) (c : Nat), Ret (.slice a L.length c) (slc 34 2 a L.length c (flat part (ptsOf L)) :: LagR b N L :: R) w e w'

set_option maxHeartbeats 3200000 in
set_option maxRecDepth 100000 in
theorem lagParts_spec (o : Own w (LagR b N L :: R)) :
    Calls Try.prog 23 #[.pointer (some ⟨b, 0, none⟩)] w (PartsPost b N L R w) := by
  obtain ⟨ab, m, hm, hok, o1⟩ := LagR.iff.1 o
  have c1 := o1.cell 0
  have hlen := hm.ok.len
  have hml := hm.len
  have hks := hm.sort
  have hbl := o1.celLt
  go_enter Try.func23, Try.ntmps23
  go_wp2_with fail
  refine (keysAcc_spec _ _).mono ?_
  rintro e1 w1 ⟨rfl, rfl⟩
  have o2 := ((o1.alloc (.cells #[.map (some ab)] 61)).up 2).up 1
  go_wp2_with fail
  refine (sortedAcc_spec w.heap.size hm.keyOk (by omega) o2).mono ?_
  rintro e2 w2 ⟨a, cap, rfl, o3, k3⟩
  rw [hks] at o3
  have hkl : (L.map (·.f)).length = m.length := by rw [List.length_map, hml]
  rw [← hkl] at o3 ⊢
  have hget : ∀ (i : Nat) (t : Tg), L[i]? = some t → (L.map (·.f))[i]? = some t.f := fun i t h => by rw [List.getElem?_map, h]; rfl
  have Hget := Lib.hid hget
  have hkn : (L.map (·.f)).length = L.length := List.length_map _
  generalize L.map (·.f) = ks at *
  have hT : PtRel b ab L m a cap ks R w (.slice none 0 0) (.int .i64 0) w2 :=
    ⟨0, none, 0, rfl, by omega, rfl, Own.slc_nil (o3.re [0, 2, 1]), ⟨k3.os, k3.tape, k3.output⟩⟩
  have Hkn := Lib.hid hkn
  have hk32 : ks.length ≤ 32 := by omega
  clear hkn hkl hks hml o3 k3 o2 o1 c1 hget hbl
  go_wp2
  go_loopw [3, 13] (fun v3 v13 wr => PtRel b ab L m a cap ks R w v3 v13 wr) (fun _ v13 _ => ks.length - (ivOf v13).toNat)
  case atStart => exact hT
  case round =>
    clear hT
    obtain ⟨i, a', c', rfl, hi, rfl, oR, kR⟩ := hrel
    by_cases hlt : i < ks.length
    · obtain ⟨t, ht⟩ : ∃ t, L[i]? = some t := ⟨_, List.getElem?_eq_getElem (by have := Hkn.out; omega)⟩
      have hkt := Hget.out i t ht
      obtain ⟨g, rfl, hc, _, _⟩ := (oR.up 1).slc_cell (by omega)
      have d0 := hc i (.int .i64 t.f) (by rw [List.getElem?_map, hkt]; rfl)
      have c1 := (oR.up 2).cell 0
      have hfg := fget_memN hm.ok (List.mem_of_getElem? ht)
      have hlk := lookN_one (oR.up 3) hm hfg
      have htk : (ptsOf L).take (i + 1) = (ptsOf L).take i ++ [(t.f, t.w)] := by
        rw [List.take_add_one]; unfold ptsOf; rw [List.getElem?_map, ht]; rfl
      have HTK := Lib.hid htk
      have hfl := accW t.w t.s
      have oA := oR.alloc (.cells #[.int .i64 t.f, .int .i64 t.w] 34)
      clear hc hkt ht hfg htk
      go_wp2_with (at_builtin; refine wpList_append_slc rfl _ _ rfl Try.partT rfl (oA.up 1) ⟨wr.heap.size, 0, none⟩ 1 1 [.int .i64 t.f, .int .i64 t.w] rfl rfl ?c1 ?c2 ?c3 ?c4 ?c5)
      case c1 => exact Own.news (T := 34) oA
      case c2 => intro u hu; simp at hu; rcases hu with rfl | rfl <;> rfl
      case c3 => unfold maxLen; omega
      case c4 => omega
      case c5 =>
      intro a2 c2 w5 o5 k5
      go_wp2
      go_roundw
      case rel =>
        refine ⟨i + 1, a2, c2, by go_num, by have := Hkn.out; omega, rfl, ?_, kR.trans ⟨k5.os, k5.tape, k5.output⟩⟩
        rw [HTK.out, flat_append]
        exact (o5.up 1).drop
      case measure => simp [ivOf]; omega
    · have hin : i = L.length := by have := Hkn.out; omega
      subst hin
      rw [List.take_of_length_le (by rw [ptsOf_len]; omega)] at oR
      go_wp2
      go_ret
      exact ⟨a', c', rfl, Own.swap (LagR.iff.2 ⟨ab, m, hm, hok, oR.re [1, 2, 3, 0] 1⟩), kR⟩

/-- The sum over the entries that have been visited. -/
def sumV (S : Int → Bool) (m : List (Int × Tg)) : Int := sumI (m.map fun p => if S p.1 then p.2.s else 0)
theorem sumV_none (m : List (Int × Tg)) : sumV (fun _ => false) m = 0 := by
  unfold sumV
  induction m with
  | nil => rfl
  | cons p m ih => rw [List.map_cons, sumI_cons, ih]; rfl
theorem sumI_perm {l l' : List Int} (h : l.Perm l') : sumI l = sumI l' := by
  induction h with
  | nil => rfl
  | cons x _ ih => rw [sumI_cons, sumI_cons, ih]
  | swap x y l => rw [sumI_cons, sumI_cons, sumI_cons, sumI_cons]; omega
  | trans _ _ h1 h2 => rw [h1, h2]
theorem sumV_next {S : Int → Bool} {k : Int} : ∀ {m : List (Int × Tg)} (_ : Uniq m) {t : Tg} (_ : mget m k = some t) (_ : S k = false), sumV (fun z => S z || z == k) m = sumV S m + t.s
  | [], _, t, h, _ => by simp [mget] at h
  | (k0, u) :: m, hu, t, h, hS => by
    unfold Uniq at hu
    rw [List.map_cons, List.nodup_cons] at hu
    unfold sumV
    rw [List.map_cons, List.map_cons, sumI_cons, sumI_cons]
    unfold mget at h
    by_cases hk : k = k0
    · subst hk
      rw [if_pos rfl] at h
      obtain rfl := Option.some.inj h
      have e : m.map (fun p => if (S p.1 || p.1 == k) = true then p.2.s else 0) = m.map (fun p => if S p.1 = true then p.2.s else 0) := by
        refine List.map_congr_left fun p hp => ?_
        have : p.1 ≠ k := fun e => hu.1 (List.mem_map.2 ⟨p, hp, e⟩)
        simp [this]
      rw [e]
      simp [hS]; omega
    · rw [if_neg hk] at h
      have ih := sumV_next (S := S) (k := k) (m := m) hu.2 h hS
      unfold sumV at ih
      rw [ih]
      have : (k0 == k) = false := by simpa using fun e => hk e.symm
      simp [this]; omega
theorem sumV_all {S : Int → Bool} {m : List (Int × Tg)} (h : ∀ x ∈ m, S x.1 = true) (hm : RepN m L) : sumV S m = sumS L := by
  have e : m.map (fun p => if S p.1 = true then p.2.s else 0) = m.map fun p => p.2.s := List.map_congr_left fun p hp => by rw [if_pos (h p hp)]
  unfold sumV
  rw [e]
  have := sumI_perm (hm.perm.map fun p => p.2.s)
  rw [this, List.map_map]; rfl
theorem sumV_abs (S : Int → Bool) (m : List (Int × Tg)) : ab (sumV S m) ≤ sumI (m.map fun p => ab p.2.s) := by
  unfold sumV
  induction m with
  | nil => show ab 0 ≤ 0; decide
  | cons p m ih =>
    rw [List.map_cons, List.map_cons, sumI_cons, sumI_cons]
    generalize sumI (m.map fun p => if S p.1 then p.2.s else 0) = y at *
    generalize sumI (m.map fun p => ab p.2.s) = z at *
    have h1 : ab (if S p.1 = true then p.2.s else 0) ≤ ab p.2.s := by split <;> (unfold ab; omega)
    unfold ab at *
    omega
theorem repN_abs {m : List (Int × Tg)} (hm : RepN m L) : sumI (m.map fun p => ab p.2.s) = absS L := by
  have := sumI_perm (hm.perm.map fun p => ab p.2.s)
  rw [this, List.map_map]
  unfold absS lags
  rw [List.map_map]; rfl

def SumRel (b ab ib : Nat) (_ : List Tg) (m : List (Int × Tg)) (R : List SP) (w : World) (v3 : Value) (wr : World) : Prop :=
  ∃ (S : Int → Bool) (cur : Option Int), v3 = .int .i64 (sumV S m) ∧ Own wr (rng accV ab ib m S cur :: cel b 63 [.map (some ab)] :: R) ∧ Calm w wr
set_option maxHeartbeats 3200000 in
set_option maxRecDepth 100000 in
theorem lagSum_spec (hN : (N : Int) ≤ 1000000000000) (o : Own w (LagR b N L :: R)) :
    Calls Try.prog 25 #[.pointer (some ⟨b, 0, none⟩)] w (Ret (.int .i64 (sumS L)) (LagR b N L :: R) w) := by
  obtain ⟨ab, m, hm, hok, o1⟩ := LagR.iff.1 o
  have c1 := o1.cell 0
  have hum := hm.uniq
  obtain ⟨w5, hr5, o9, k9⟩ := run_range_mpI (P := Try.prog) Try.underlying61 (o1.up 1)
  have hT : SumRel b ab w.heap.size L m R w (.int .i64 0) w5 := ⟨fun _ => false, none, by rw [sumV_none], o9, k9⟩
  have hbd : ∀ S : Int → Bool, Go.Proofs.Ytalkmeclkjnjnaa.ab (sumV S m) ≤ 8192 * (N : Int) := fun S => by
    have h1 := sumV_abs S m
    rw [repN_abs hm] at h1
    exact Int.le_trans h1 hok.sm
  have HBd := Lib.hid hbd
  generalize hib : w.heap.size = ib at *
  have HM := Lib.hid hm
  have HOK := Lib.hid hok
  clear o9 k9 hib hbd hm hok
  go_enter Try.func25, Try.ntmps25
  go_wp2
  go_loopw [3] (fun v wr => SumRel b ab ib L m R w v wr) (fun _ wr => rleft wr ab ib)
  case atStart => exact hT
  case round =>
    clear hT hr5 c1 o1 o
    obtain ⟨S, cur, rfl, oR, kR⟩ := hrel
    rcases run_next_rng (P := Try.prog) 0 hum oR with ⟨hd, hr⟩ | ⟨x, w6, hx, hS, hr, o10, k10⟩
    · have hall := sumV_all hd HM.out
      rw [hall]
      have oD := oR.rng_done
      go_wp2
      go_ret
      exact ⟨rfl, LagR.iff.2 ⟨ab, m, HM.out, HOK.out, oD.up 1⟩, kR⟩
    · have hmv := mget_mem hum hx
      have hen := run_entry_rng (P := Try.prog) hum o10 hmv
      obtain ⟨k, t⟩ := x
      dsimp only at hS hmv hen o10
      have hnx := sumV_next hum hmv hS
      have b1 := HBd.out S
      have b2 := HBd.out (fun z => S z || z == k)
      rw [hnx] at b2
      unfold accV at hen
      obtain ⟨s0, hs0⟩ : ∃ s0, sumV S m = s0 := ⟨_, rfl⟩
      rw [hs0] at hnx b1 b2 ⊢
      have hw : IntKind.i64.wrap (s0 + t.s) = s0 + t.s := by unfold Go.Proofs.Ytalkmeclkjnjnaa.ab at b1 b2; rw [IntKind.wrap_i64]; omega
      have HNX := Lib.hid hnx
      clear hnx b1 b2 hs0
      have oA := o10.alloc (.cells #[.int .i64 t.w, .int .i64 t.s] 65)
      go_wp2
      go_roundw
      case rel => exact ⟨_, _, by rw [HNX.out], oA.drop, ⟨k10.os.trans kR.os, k10.tape.trans kR.tape, k10.output.trans kR.output⟩⟩
      case measure =>
        rw [oA.drop.rleft, oR.rleft]
        exact kleft_lt hx hS
end
end Go.Proofs.Ytalkmeclkjnjnaa
