/- The error-free reference of the program: subtract, Charge. -/
import Derived.Test.YtnandakoigmknaaSfqB
import Derived.Deep.RegionHeld3
namespace Go.Proofs.Ytnandakoigmknaa
open Go.RowKit
open SP

section
variable {W w w' : World} {b : Nat} {reb : Int} {S : St} {R : List SP}

def lowT (by_ : Int) (t : Tg) : Tg := ⟨t.f, t.w, t.s - by_⟩
def lowI (by_ : Int) (v : Int) : Int := max (v - by_) 0

def SubRel1 (b ab rb ib : Nat) (reb tm aw by_ : Int) (m : List (Int × Tg)) (rem : List (Int × Int)) (R : List SP) (w wr : World) : Prop :=
  ∃ (X : Int → Bool) (cur : Option Int) (m' : List (Int × Tg)), True = True ∧ m' = upd (lowT by_) X m ∧
    Own wr (rng tagV ab ib m' X cur :: cel b 93 [.int .i64 reb, .map (some ab), .map (some rb), .int .i64 tm, .int .i64 aw] :: mpI (Value.int .i64) rb rem :: R) ∧ Calm w wr
def SubRel2 (b ab rb ib : Nat) (reb tm aw by_ : Int) (m : List (Int × Tg)) (rem : List (Int × Int)) (R : List SP) (w wr : World) : Prop :=
  ∃ (X : Int → Bool) (cur : Option Int) (r' : List (Int × Int)), True = True ∧ r' = upd (lowI by_) X rem ∧
    Own wr (rng (Value.int .i64) rb ib r' X cur :: cel b 93 [.int .i64 reb, .map (some ab), .map (some rb), .int .i64 tm, .int .i64 aw] :: mpI tagV ab m :: R) ∧ Calm w wr

theorem tget_lowI {by_ : Int} (h : 0 ≤ by_) (rem : List (Int × Int)) (f : Int) : tget (rem.map fun x => (x.1, lowI by_ x.2)) f = max (tget rem f - by_) 0 := by
  have : rem.map (fun x => (x.1, lowI by_ x.2)) = upd (lowI by_) (fun _ => true) rem := by unfold upd; simp
  rw [this]
  unfold tget
  rw [mget_upd]
  cases mget rem f with
  | none => simp; omega
  | some v => simp [lowI]

set_option maxHeartbeats 6400000 in
set_option maxRecDepth 100000 in
theorem sfqSub_spec (by_ : Int) (h0 : 0 ≤ by_) (h1 : by_ ≤ S.tm) (h2 : ∀ t ∈ S.L, by_ ≤ t.s) (haw : 0 ≤ S.aw ∧ S.aw ≤ 1152921504606846976) (o : Own w (SfqR b reb S :: R)) :
    Calls Try.prog 55 #[.pointer (some ⟨b, 0, none⟩), .int .i64 by_] w (Ret (.tuple #[]) (SfqR b reb (subS S by_) :: R) w) := by
  obtain ⟨ab, rb, m, rem, hm, hold, hur, hok, o1⟩ := SfqR.iff.1 o
  have hok1 := hok.sub h0 h1 h2
  have hby : by_ ≤ 1099511627776 := by have := hok.tm; omega
  have htm := hok.tm
  have hmr : ∀ x ∈ m, by_ ≤ x.2.s ∧ x.2.s ≤ 1099511627776 ∧ x.2.f = x.1 := fun x hx => by
    obtain ⟨t, ht, he⟩ := List.mem_map.1 (hm.perm.mem_iff.1 hx)
    rw [← he]
    exact ⟨h2 t ht, (hok.ok.rng t ht).2.2.2.2.2, rfl⟩
  have hrr : ∀ x ∈ rem, 0 ≤ x.2 ∧ x.2 ≤ 1099511627776 := fun x hx => by
    have h3 := hold x.1
    have h4 := hok.old x.1
    rw [← h3] at h4
    unfold tget at h4
    rw [mget_mem hur hx] at h4
    exact h4
  have hum := hm.uniq
  have hfin : Rep (m.map fun p => (p.1, lowT by_ p.2)) (subS S by_).L := hm.map (lowT by_) (fun _ => rfl) hok1.ok
  have hfin2 : ∀ f, tget (rem.map fun x => (x.1, lowI by_ x.2)) f = (subS S by_).old f := fun f => by rw [tget_lowI h0, hold]; rfl
  have hfin3 : Uniq (rem.map fun x => (x.1, lowI by_ x.2)) := by
    unfold Uniq
    rw [List.map_map]
    exact hur
  have Hmr := Lib.hid hmr
  have Hrr := Lib.hid hrr
  have HF := Lib.hid hfin
  have HF2 := Lib.hid hfin2
  have HF3 := Lib.hid hfin3
  have HOK := Lib.hid hok1
  obtain ⟨w5, hr5, o9, k9⟩ := run_range_mpI (P := Try.prog) Try.underlying91 (o1.up 1)
  have hT : SubRel1 b ab rb w.heap.size reb S.tm S.aw by_ m rem R w w5 := ⟨fun _ => false, none, m, rfl, (upd_none _ _).symm, o9, k9⟩
  have c1 := o1.cell 1
  have e1 : subS S by_ = ⟨S.L.map (lowT by_), fun g => max (S.old g - by_) 0, S.tm - by_, S.aw + by_⟩ := rfl
  have HE1 := Lib.hid e1
  generalize hTM : S.tm = TM at *
  generalize hAW : S.aw = AW at *
  generalize hib : w.heap.size = ib at *
  clear hfin hfin2 hfin3 hok1 hmr hrr hold hok h2 o9 k9 e1 hTM hAW hib
  go_enter Try.func55, Try.ntmps55
  go_wp2
  go_loopw [13] (fun _ wr => SubRel1 b ab rb ib reb TM AW by_ m rem R w wr) (fun _ wr => rleft wr ab ib)
  case atStart => exact hT
  case round =>
    clear hT hr5 c1 o1 o
    obtain ⟨X, cur, m', _, hm', oR, kR⟩ := hrel
    have Hm := Lib.hid hm'
    have hkm : m'.map (·.1) = m.map (·.1) := by rw [hm', upd_keys]
    have hum' : Uniq m' := by unfold Uniq; rw [hkm]; exact hum
    clear hm'
    rcases run_next_rng (P := Try.prog) 0 hum' oR with ⟨hd, hr⟩ | ⟨x, w6, hx, hS, hr, o10, k10⟩
    · have hall : ∀ x ∈ m, X x.1 = true := fun x hx => by
        have : x.1 ∈ m'.map (·.1) := by rw [hkm]; exact List.mem_map.2 ⟨x, hx, rfl⟩
        obtain ⟨y, hy, hyx⟩ := List.mem_map.1 this
        rw [← hyx]; exact hd y hy
      have oD := oR.rng_done
      rw [Hm.out, upd_all hall] at oD
      have g2 := (oD.up 1).cell 2
      obtain ⟨w7, hr7, o7, k7⟩ := run_range_mpI (P := Try.prog) Try.underlying81 (oD.up 2)
      have hT2 : SubRel2 b ab rb wr.heap.size reb TM AW by_ (m.map fun p => (p.1, lowT by_ p.2)) rem R w w7 := ⟨fun _ => false, none, rem, rfl, (upd_none _ _).symm, o7.re [0, 2, 1], kR.trans k7⟩
      have HFm := HF
      generalize (m.map fun p => (p.1, lowT by_ p.2)) = m1 at *
      generalize wr.heap.size = ib2 at *
      clear hd hall o7 k7 HF
      go_wp2
      go_loopw [34] (fun _ wr => SubRel2 b ab rb ib2 reb TM AW by_ m1 rem R w wr) (fun _ wr => rleft wr rb ib2)
      case atStart => exact hT2
      case round =>
        clear hT2 hr7 g2 oD oR kR hr
        obtain ⟨X, cur, r', _, hr', oR, kR⟩ := hrel
        have Hr := Lib.hid hr'
        have hkr : r'.map (·.1) = rem.map (·.1) := by rw [hr', upd_keys]
        have hur' : Uniq r' := by unfold Uniq; rw [hkr]; exact hur
        clear hr'
        rcases run_next_rng (P := Try.prog) 0 hur' oR with ⟨hd, hr⟩ | ⟨x, w6, hx, hS, hr, o10, k10⟩
        · have hall : ∀ x ∈ rem, X x.1 = true := fun x hx => by
            have : x.1 ∈ r'.map (·.1) := by rw [hkr]; exact List.mem_map.2 ⟨x, hx, rfl⟩
            obtain ⟨y, hy, hyx⟩ := List.mem_map.1 this
            rw [← hyx]; exact hd y hy
          have oD := oR.rng_done
          rw [Hr.out, upd_all hall] at oD
          have g3 := (oD.up 1).cell 3
          have g4 := (oD.up 1).cell 4
          have gf := (oD.up 1).frozen
          have gb := (oD.up 1).celLt
          have oE := ((oD.up 1).setCell 3 (.int .i64 (TM - by_))).setCell 4 (.int .i64 (AW + by_))
          clear hd hall
          go_wp2
          go_end0
          refine ⟨rfl, SfqR.iff.2 ⟨ab, rb, _, _, HFm.out, HF2.out, HF3.out, HOK.out, ?_⟩, ⟨kR.os, kR.tape, kR.output⟩⟩
          rw [HE1.out]
          exact oE.re [0, 2, 1]
        · obtain ⟨key, val⟩ := x
          dsimp only at hS hr o10
          have hmv : mget r' key = some val := mget_mem hur' hx
          have hmt : mget rem key = some val := by
            rw [Hr.out, mget_upd] at hmv
            simp only [hS, Bool.false_eq_true, if_false, Option.map_eq_some_iff, exists_eq_right] at hmv
            exact hmv
          have hvr := Hrr.out _ (mem_of_mget hmt)
          dsimp only at hvr
          have hen := run_entry_rng (P := Try.prog) hur' o10 hmv
          have g6 := (o10.up 1).cell 2
          have hin : (mget r' key).isSome = true := by rw [hmv]; rfl
          have Hmv := Lib.hid hmv
          have Hin := Lib.hid hin
          have Hmt := Lib.hid hmt
          clear hmv hin hmt
          go_wp2_with (at_mapUpdate; refine wpList_mapUpdate_rng rfl _ _ _ rfl Try.underlying81 Try.underlying3 hur' o10 key (max (val - by_) 0) Hin.out rfl rfl rfl ?k2)
          case k2 =>
          intro w7 o11 k11
          go_wp2
          go_roundw
          case rel =>
            refine ⟨_, _, _, rfl, ?_, o11, (kR.trans k10).trans k11⟩
            rw [Hr.out]; exact upd_put hur Hmt.out
          case measure =>
            rw [o11.rleft, oR.rleft, kleft_mput (List.mem_map.2 ⟨_, hx, rfl⟩)]
            exact kleft_lt hx hS
    · obtain ⟨key, t⟩ := x
      dsimp only at hS hr o10
      have hmv : mget m' key = some t := mget_mem hum' hx
      have hmt : mget m key = some t := by
        rw [Hm.out, mget_upd] at hmv
        simp only [hS, Bool.false_eq_true, if_false, Option.map_eq_some_iff, exists_eq_right] at hmv
        exact hmv
      have hvr := Hmr.out _ (mem_of_mget hmt)
      dsimp only at hvr
      have hen := run_entry_rng (P := Try.prog) hum' o10 hmv
      obtain ⟨x, y, z⟩ := t
      unfold tagV at hen
      dsimp only at hen hvr
      obtain ⟨hv1, hv2, rfl⟩ := hvr
      have g6 := (o10.up 1).cell 1
      have gb := (o10.up 1).celLt
      have oA := o10.alloc (.cells #[.int .i64 x, .int .i64 y, .int .i64 (z - by_)] 64)
      have hin : (mget m' x).isSome = true := by rw [hmv]; rfl
      have Hmv := Lib.hid hmv
      have Hin := Lib.hid hin
      have Hmt := Lib.hid hmt
      clear hmv hin hmt
      go_wp2
      refine wp_region_tail 6 (by kernel_rfl) (by kernel_rfl) ?_
      simp only [List.take_succ_cons, List.take_zero, List.drop_succ_cons, List.drop_zero]
      repeat still_step
      refine wpStill_nil ?_
      go_wp2_with (at_mapUpdate; refine wpList_mapUpdate_rng (f := tagV) rfl _ _ _ rfl Try.underlying91 Try.underlying3 hum' ((oA.up 1).drew) x (lowT by_ ⟨x, y, z⟩) Hin.out rfl rfl rfl ?k3)
      case k3 =>
      intro w7 o11 k11
      go_wp2
      go_roundw
      case rel =>
        refine ⟨_, _, _, rfl, ?_, o11.re [0, 2, 3, 1] |>.re [3, 0, 1, 2] 1, (kR.trans k10).trans ⟨k11.os, k11.tape, k11.output⟩⟩
        rw [Hm.out]; exact upd_put hum Hmt.out
      case measure =>
        rw [o11.rleft, oR.rleft, kleft_mput (List.mem_map.2 ⟨_, hx, rfl⟩)]
        exact kleft_lt hx hS
end
end Go.Proofs.Ytnandakoigmknaa
