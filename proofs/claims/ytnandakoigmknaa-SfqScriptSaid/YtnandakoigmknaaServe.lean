/- The order of comp: Serve. -/
import Derived.Test.YtnandakoigmknaaCompB
import Derived.Test.YtnandakoigmknaaTags
import Derived.Deep.RegionHeld3
namespace Go.Proofs.Ytnandakoigmknaa
open Go.RowKit
open SP

section
variable {W w w' : World} {b : Nat} {reb tm : Int} {el tg : List (Int × Int)} {R : List SP}

def servFin (el tg : List (Int × Int)) (f len : Int) : Int × Int := finF (tget tg f) len (tget el f)
def servE (el tg : List (Int × Int)) (f len : Int) : Int := if (mget el f).isSome then (servFin el tg f len).2 else 6
def servTg (el tg : List (Int × Int)) (f len : Int) : List (Int × Int) := mput tg f (servFin el tg f len).1
def servTm (tg : List (Int × Int)) (tm f : Int) : Int := max tm (tget tg f)
def servBy (el tg : List (Int × Int)) (tm f len : Int) : Int := min (servTm tg tm f) (tget (servTg el tg f len) (leastF el (servTg el tg f len)))
def lower (by_ : Int) (tg : List (Int × Int)) : List (Int × Int) := tg.map fun x => (x.1, max (x.2 - by_) 0)
def ServPost (b : Nat) (reb tm : Int) (el tg : List (Int × Int)) (f len : Int) (R : List SP) (w : World) (e : Ending) (w' : World) : Prop :=
  if servE el tg f len ≠ 0 then Ret (.int .i64 (servE el tg f len)) (OrderR b reb el tg tm :: R) w e w' else
  if servBy el tg tm f len < reb then Ret (.int .i64 0) (OrderR b reb el (servTg el tg f len) (servTm tg tm f) :: R) w e w' else
  Ret (.int .i64 0) (OrderR b reb el (lower (servBy el tg tm f len) (servTg el tg f len)) (servTm tg tm f - servBy el tg tm f len) :: R) w e w'

theorem tget_range {tg : List (Int × Int)} (hv : ∀ x ∈ tg, 0 ≤ x.2 ∧ x.2 ≤ 1099511627776) (f : Int) : 0 ≤ tget tg f ∧ tget tg f ≤ 1099511627776 := by
  unfold tget
  cases h : mget tg f with
  | none => simp
  | some v => exact hv _ (mem_of_mget h)
theorem mput_mem {α : Type} {m : List (Int × α)} {k : Int} {v : α} {x : Int × α} (h : x ∈ mput m k v) : x ∈ m ∨ x = (k, v) := by
  induction m with
  | nil => simp [mput] at h; exact .inr h
  | cons y m ih =>
    obtain ⟨k', v'⟩ := y
    unfold mput at h
    split at h
    · rcases List.mem_cons.1 h with rfl | h
      · exact .inr rfl
      · exact .inl (List.mem_cons_of_mem _ h)
    · rcases List.mem_cons.1 h with rfl | h
      · exact .inl (by simp)
      · rcases ih h with h | h
        · exact .inl (List.mem_cons_of_mem _ h)
        · exact .inr h
theorem mput_range {tg : List (Int × Int)} {f nx : Int} (hv : ∀ x ∈ tg, 0 ≤ x.2 ∧ x.2 ≤ 1099511627776) (hn : 0 ≤ nx ∧ nx ≤ 1099511627776) : ∀ x ∈ mput tg f nx, 0 ≤ x.2 ∧ x.2 ≤ 1099511627776 := by
  intro x hx
  rcases mput_mem hx with h | rfl
  · exact hv x h
  · exact hn
theorem finF_range {was len wt : Int} (hw : 0 ≤ was ∧ was ≤ 1099511627776) : 0 ≤ (finF was len wt).1 ∧ (finF was len wt).1 ≤ 1099511627776 := by
  unfold finF
  split
  · simp
  · rename_i h
    have h' : 1 ≤ len ∧ len ≤ 4096 ∧ 1 ≤ wt ∧ wt ≤ 16 := by
      have h1 : ¬ badLW len wt := fun h2 => h (.inl h2)
      unfold badLW at h1; omega
    obtain ⟨c1, c2⟩ := cst_range h'.2.2.1 h'.2.2.2 h'.1 h'.2.1
    split
    · simp
    · simp only; omega

def Serv2 (b : Nat) (reb : Int) (el tg1 : List (Int × Int)) (tm1 by_ : Int) (R : List SP) (w : World) (e : Ending) (w' : World) : Prop :=
  if by_ < reb then Ret (.int .i64 0) (OrderR b reb el tg1 tm1 :: R) w e w' else Ret (.int .i64 0) (OrderR b reb el (lower by_ tg1) (tm1 - by_) :: R) w e w'

/-- The range lowers every tag. -/
def lowered (by_ : Int) (S : Int → Bool) (tg : List (Int × Int)) : List (Int × Int) := tg.map fun x => (x.1, if S x.1 then max (x.2 - by_) 0 else x.2)

theorem lowered_keys (by_ : Int) (S : Int → Bool) (tg : List (Int × Int)) : (lowered by_ S tg).map (·.1) = tg.map (·.1) := by
  unfold lowered; rw [List.map_map]; rfl
theorem lowered_all {by_ : Int} {S : Int → Bool} {tg : List (Int × Int)} (h : ∀ x ∈ tg, S x.1 = true) : lowered by_ S tg = lower by_ tg := by
  unfold lowered lower
  exact List.map_congr_left fun x hx => by rw [h x hx, if_pos rfl]
theorem lowered_put {by_ : Int} {S : Int → Bool} : ∀ {tg : List (Int × Int)} (_ : Uniq tg) {k v : Int} (_ : mget tg k = some v), mput (lowered by_ S tg) k (max (v - by_) 0) = lowered by_ (fun z => S z || z == k) tg
  | [], _, k, v, h => by simp [mget] at h
  | (k0, v0) :: tg, hu, k, v, h => by
    unfold Uniq at hu
    rw [List.map_cons, List.nodup_cons] at hu
    unfold mget at h
    unfold lowered
    simp only [List.map_cons]
    unfold mput
    by_cases hk : k = k0
    · subst hk
      rw [if_pos rfl] at h ⊢
      simp at h
      subst h
      simp only [BEq.rfl, Bool.or_true, if_true, List.cons.injEq, true_and]
      refine List.map_congr_left fun x hx => ?_
      have hne : x.1 ≠ k := fun e => hu.1 (List.mem_map.2 ⟨x, hx, e⟩)
      have : (x.1 == k) = false := by simpa using hne
      simp only [this, Bool.or_false]
    · rw [if_neg hk] at h ⊢
      have hb : (k0 == k) = false := by simpa using Ne.symm hk
      simp only [hb, Bool.or_false, List.cons.injEq, true_and]
      exact lowered_put hu.2 h
theorem mget_lowered {by_ : Int} {S : Int → Bool} : ∀ {tg : List (Int × Int)} (k : Int), mget (lowered by_ S tg) k = (mget tg k).map (fun v => if S k then max (v - by_) 0 else v)
  | [], k => rfl
  | (k0, v0) :: tg, k => by
    unfold lowered
    simp only [List.map_cons]
    unfold mget
    by_cases hk : k = k0
    · subst hk; simp
    · rw [if_neg hk, if_neg hk]; exact mget_lowered k

def LowRel (b : Nat) (reb : Int) (eb tb ib : Nat) (el tg1 : List (Int × Int)) (tm1 by_ : Int) (R : List SP) (w wr : World) : Prop :=
  ∃ (S : Int → Bool) (cur : Option Int) (m : List (Int × Int)), True = True ∧ m = lowered by_ S tg1 ∧
    Own wr (rng (Value.int .i64) tb ib m S cur :: cel b 83 [.int .i64 reb, .map (some eb), .map (some tb), .int .i64 tm1] :: mpI (Value.int .i64) eb el :: R) ∧ Calm w wr

set_option maxHeartbeats 3200000 in
set_option maxRecDepth 100000 in
theorem serve_spec (f len : Int) (hk : KeyOk el) (hn : el.length ≤ 1000) (hu : Uniq tg) (hv : ∀ x ∈ tg, 0 ≤ x.2 ∧ x.2 ≤ 1099511627776) (ht : 0 ≤ tm ∧ tm ≤ 1099511627776) (o : Own w (OrderR b reb el tg tm :: R)) :
    Calls Try.prog 18 #[.pointer (some ⟨b, 0, none⟩), .int .i64 f, .int .i64 len] w (ServPost b reb tm el tg f len R w) := by
  obtain ⟨eb, tb, o1⟩ := OrderR.iff.1 o
  have c1 := o1.cell 1
  have c2 := o1.cell 2
  have hlk := lookII eb (o1.up 1) f true
  simp only [if_true] at hlk
  cases hel : mget el f with
  | none =>
    have e1 : servE el tg f len = 6 := by unfold servE; rw [hel]; rfl
    have : ServPost b reb tm el tg f len R w = Ret (.int .i64 6) (OrderR b reb el tg tm :: R) w := by
      funext e w'; unfold ServPost; rw [e1, if_pos (by decide)]
    rw [this]; clear this
    rw [hel] at hlk
    go_enter Try.func18, Try.ntmps18
    go_wp2
    go_ret
    exact ⟨rfl, o, Calm.refl w⟩
  | some wt =>
    have hls : (mget el f).isSome = true := by rw [hel]; rfl
    have e1 : servE el tg f len = (servFin el tg f len).2 := if_pos hls
    rw [hel] at hlk
    have hl2 := lookIL tb (o1.up 2) f false
    simp only [Bool.false_eq_true, if_false] at hl2
    have hfin := finish_spec (tget tg f) len (tget el f) w
    have H0 : servFin el tg f len = finF (tget tg f) len (tget el f) := rfl
    rw [← H0] at hfin
    clear H0
    have hwas : 0 ≤ tget tg f ∧ tget tg f ≤ 1099511627776 := tget_range hv f
    have hnx : 0 ≤ (servFin el tg f len).1 ∧ (servFin el tg f len).1 ≤ 1099511627776 := finF_range hwas
    cases hP : servFin el tg f len with
    | mk nx er =>
    rw [hP] at hfin hnx e1
    dsimp only at hnx e1
    unfold pairV at hfin
    dsimp only at hfin
    by_cases her : er = 0
    · subst her
      have hm1 : servTg el tg f len = mput tg f nx := by unfold servTg; rw [hP]
      have hm2 : servTm tg tm f = max tm (tget tg f) := rfl
      have hpost : ServPost b reb tm el tg f len R w = Serv2 b reb el (servTg el tg f len) (servTm tg tm f) (servBy el tg tm f len) R w := by
        funext e w'; unfold ServPost Serv2; rw [e1, if_neg (by simp)]
      have hb0 : servBy el tg tm f len = min (servTm tg tm f) (tget (servTg el tg f len) (leastF el (servTg el tg f len))) := rfl
      have hu1 : Uniq (servTg el tg f len) := by rw [hm1]; exact hu.mput _ _
      have hv1 : ∀ x ∈ servTg el tg f len, 0 ≤ x.2 ∧ x.2 ≤ 1099511627776 := by rw [hm1]; exact mput_range hv hnx
      have ht1 : 0 ≤ servTm tg tm f ∧ servTm tg tm f ≤ 1099511627776 := by rw [hm2]; omega
      have hby : 0 ≤ servBy el tg tm f len ∧ servBy el tg tm f len ≤ 1099511627776 := by
        have := tget_range hv1 (leastF el (servTg el tg f len)); rw [hb0]; omega
      rw [hpost]
      clear hpost hP e1
      generalize servTg el tg f len = tg1 at *
      generalize servTm tg tm f = tm1 at *
      generalize servBy el tg tm f len = by_ at *
      have HM1 := Lib.hid hm1
      have HM2 := Lib.hid hm2
      have HB0 := Lib.hid hb0
      clear hm1 hm2 hb0
      go_enter Try.func18, Try.ntmps18
      go_wp2_with fail
      refine hfin.mono ?_
      rintro e2 w2 ⟨rfl, rfl⟩
      go_wp2_with (at_mapUpdate; refine wpList_mapUpdate_mpI rfl _ _ _ rfl Try.underlying81 Try.underlying3 (o1.up 2) f nx rfl rfl rfl ?k1)
      case k1 =>
      intro w3 o3 k3
      rw [← HM1.out] at o3
      have o4 := o3.up 1
      have c3 := o4.cell 3
      have hf := o4.frozen
      have hlt := o4.celLt
      have hmx : max tm (tget tg f) = tm1 := HM2.out.symm
      have o5 := o4.setCell 3 (.int .i64 tm1)
      have o6 : Own ((w3.setCell ⟨b, 3, none⟩ (.int .i64 tm1)).drew) (OrdC b reb eb tb el tg1 tm1 :: R) := OrdC.iff.2 ((o5.up 2).up 1 |>.drew)
      clear c1 c2 hlk hl2
      have d2 := o5.cell 2
      have d3 := o5.cell 3
      have hmn : min tm1 (tget tg1 (leastF el tg1)) = by_ := HB0.out.symm
      go_wp2
      go_region_held3 (fun w' => w'.cell? ⟨b, 2, none⟩ = some (.map (some tb)) ∧ w'.cell? ⟨b, 3, none⟩ = some (.int .i64 tm1)) (go_keep) (first
        | (go_at_call 44; (with_reducible refine (leastC_spec hk hn o6).mono ?_); rintro e4 w4 ⟨rfl, o7, k7⟩; have q2 := (OrdC.iff.1 o7).cell 2; have q3 := (OrdC.iff.1 o7).cell 3; have l7 := lookIL tb ((OrdC.iff.1 o7).up 2) (leastF el tg1) false; simp only [Bool.false_eq_true, if_false] at l7))
      have o8 := OrdC.iff.1 o7
      have q0 := o8.cell 0
      have K7 : Calm w w4 := k3.trans ⟨k7.os, k7.tape, k7.output⟩
      clear l7 d2 d3 hmn hmx c3 hf hlt
      by_cases hcmp : by_ < reb
      · go_wp2
        go_ret
        rw [Serv2, if_pos hcmp]
        exact ⟨rfl, OrderR.iff.2 ⟨eb, tb, o8⟩, K7⟩
      · obtain ⟨w5, hr5, o9, k9⟩ := run_range_mpI (P := Try.prog) Try.underlying81 (o8.up 2)
        have hT : LowRel b reb eb tb w4.heap.size el tg1 tm1 by_ R w w5 := ⟨fun _ => false, none, tg1, rfl, by unfold lowered; simp, o9, K7.trans k9⟩
        have qr2 := (o9.up 1).cell 2
        generalize hib : w4.heap.size = ib at *
        clear hib
        go_wp2
        go_loopw [13] (fun _ wr => LowRel b reb eb tb ib el tg1 tm1 by_ R w wr) (fun _ wr => rleft wr tb ib)
        case atStart => exact hT
        case round =>
          obtain ⟨S, cur, m, _, hm, oR, kR⟩ := hrel
          have Hm := Lib.hid hm
          have hkm : m.map (·.1) = tg1.map (·.1) := by rw [hm, lowered_keys]
          have hum : Uniq m := by unfold Uniq; rw [hkm]; exact hu1
          clear hm
          have g0 := (oR.up 1).cell 2
          rcases run_next_rng (P := Try.prog) 0 hum oR with ⟨hd, hr⟩ | ⟨x, w6, hx, hS, hr, o10, k10⟩
          · have g3 := (oR.up 1).cell 3
            have gf := (oR.up 1).frozen
            have gb := (oR.up 1).celLt
            have oD := (oR.rng_done.up 1).setCell 3 (.int .i64 (tm1 - by_))
            have hall : ∀ x ∈ tg1, S x.1 = true := fun x hx => by
              have : x.1 ∈ m.map (·.1) := by rw [hkm]; exact List.mem_map.2 ⟨x, hx, rfl⟩
              obtain ⟨y, hy, hyx⟩ := List.mem_map.1 this
              rw [← hyx]; exact hd y hy
            rw [Hm.out, lowered_all hall] at oD
            clear hd
            go_wp2
            go_ret
            rw [Serv2, if_neg (by omega)]
            exact ⟨rfl, OrderR.iff.2 ⟨eb, tb, oD.up 2 |>.up 1⟩, ⟨kR.os, kR.tape, kR.output⟩⟩
          · obtain ⟨key, val⟩ := x
            dsimp only at hS hr o10
            have hmv : mget m key = some val := mget_mem hum hx
            have hmt : mget tg1 key = some val := by
              rw [Hm.out, mget_lowered] at hmv
              simp only [hS, Bool.false_eq_true, if_false, Option.map_eq_some_iff, exists_eq_right] at hmv
              exact hmv
            have hvr := hv1 _ (mem_of_mget hmt)
            dsimp only at hvr
            have hen := run_entry_rng (P := Try.prog) hum o10 hmv
            have g6 := (o10.up 1).cell 2
            have hin : (mget m key).isSome = true := by rw [hmv]; rfl
            have Hmv := Lib.hid hmv
            have Hin := Lib.hid hin
            have Hmt := Lib.hid hmt
            clear hmv hin hmt
            go_wp2_with (at_mapUpdate; refine wpList_mapUpdate_rng rfl _ _ _ rfl Try.underlying81 Try.underlying3 hum o10 key (max (val - by_) 0) Hin.out rfl rfl rfl ?k2)
            case k2 =>
            intro w7 o11 k11
            go_wp2
            go_roundw
            case rel =>
              refine ⟨_, _, _, rfl, ?_, o11, (kR.trans k10).trans k11⟩
              rw [Hm.out]; exact lowered_put hu1 Hmt.out
            case measure =>
              rw [o11.rleft, oR.rleft, kleft_mput (List.mem_map.2 ⟨_, hx, rfl⟩)]
              exact kleft_lt hx hS
    · have hpost : ServPost b reb tm el tg f len R w = Ret (.int .i64 er) (OrderR b reb el tg tm :: R) w := by
        funext e w'; unfold ServPost; rw [e1, if_pos her]
      rw [hpost]
      have her' : (er == 0) = false := by simpa using her
      clear hpost e1 her hP
      go_enter Try.func18, Try.ntmps18
      go_wp2_with fail
      refine hfin.mono ?_
      rintro e2 w2 ⟨rfl, rfl⟩
      go_wp2
      go_ret
      exact ⟨rfl, o, Calm.refl w⟩
end
end Go.Proofs.Ytnandakoigmknaa
