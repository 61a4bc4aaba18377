/- The program's SetWeight and Copy. -/
import Derived.Test.YtnandakoigmknaaR12i
namespace Go.Proofs.Ytnandakoigmknaa
open Go.RowKit
open SP
section
variable {W w w' : World} {R : List SP} {b : Nat} {reb : Int} {S : St}
def setWR (S : St) (f wt : Int) : Int × St := match fget S.L f with
  | none => (6, S)
  | some t => if wt < 1 ∨ 16 < wt then (1, S) else (0, { S with L := setT ⟨t.f, wt, t.s⟩ S.L })
set_option maxHeartbeats 3200000 in
set_option maxRecDepth 100000 in
theorem sfqSetW_spec (f wt : Int) (o : Own w (SfqR b reb S :: R)) :
    Calls Try.prog 62 #[.pointer (some ⟨b, 0, none⟩), .int .i64 f, .int .i64 wt] w (Ret (.int .i64 (setWR S f wt).1) (SfqR b reb (setWR S f wt).2 :: R) w) := by
  obtain ⟨ab, rb, m, rem, hm, hold, hur, hok, o1⟩ := SfqR.iff.1 o
  have Hold := Lib.hid hold
  have c1 := o1.cell 1
  have hbl := o1.celLt
  clear hold
  unfold setWR
  cases hf : fget S.L f with
  | none =>
    have hlk := lookT_none (o1.up 1) hm hf
    dsimp only
    clear hf hm
    go_enter Try.func62, Try.ntmps62
    go_wp2
    go_ret
    exact ⟨rfl, o.more _, ⟨rfl, rfl, rfl⟩⟩
  | some t =>
    have hlk := lookT_some (o1.up 1) hm hf
    obtain ⟨htm, htf⟩ := fget_some hf
    obtain ⟨x, y, z⟩ := t
    dsimp only at htf hlk ⊢
    subst htf
    have htr := hok.ok.rng _ htm
    dsimp only at htr
    by_cases hb : wt < 1 ∨ 16 < wt
    · rw [if_pos hb]
      rcases hb with hb | hb
      · clear hf hm
        go_enter Try.func62, Try.ntmps62
        go_wp2
        go_ret
        exact ⟨rfl, o.more _, ⟨rfl, rfl, rfl⟩⟩
      · have hb2 : ¬ wt < 1 := by omega
        clear hf hm
        go_enter Try.func62, Try.ntmps62
        go_wp2
        go_ret
        exact ⟨rfl, o.more _, ⟨rfl, rfl, rfl⟩⟩
    · rw [if_neg hb]
      have b1 : ¬ wt < 1 := by omega
      have b2 : ¬ 16 < wt := by omega
      have hrep : Rep (mput m x ⟨x, wt, z⟩) (setT ⟨x, wt, z⟩ S.L) := by
        have := hm.set (x := ⟨x, wt, z⟩) (by rw [hf]; simp) ⟨htr.1, htr.2.1, by show 1 ≤ wt; omega, by show wt ≤ 16; omega, htr.2.2.2.2.1, htr.2.2.2.2.2⟩
        exact this
      have hok2 : StOk { S with L := setT ⟨x, wt, z⟩ S.L } := ⟨hok.ok.set (x := ⟨x, wt, z⟩) ⟨htr.1, htr.2.1, by show 1 ≤ wt; omega, by show wt ≤ 16; omega, htr.2.2.2.2.1, htr.2.2.2.2.2⟩, hok.old, hok.tm⟩
      have oM := o1.alloc (.cells #[.int .i64 x, .int .i64 wt, .int .i64 z] 64)
      clear hf hm hb
      go_enter Try.func62, Try.ntmps62
      go_wp2
      refine wp_region_tail 6 (by kernel_rfl) (by kernel_rfl) ?_
      simp only [List.take_succ_cons, List.take_zero, List.drop_succ_cons, List.drop_zero]
      repeat still_step
      refine wpStill_nil ?_
      go_wp2_with (at_mapUpdate; refine wpList_mapUpdate_mpI (f := tagV) rfl _ _ _ rfl Try.underlying91 Try.underlying3 ((oM.up 2).drew) x ⟨x, wt, z⟩ rfl rfl rfl ?c1)
      case c1 =>
      intro w3 o3 k3
      go_wp2
      go_ret
      have oE : Own w3 (SfqR b reb { S with L := setT ⟨x, wt, z⟩ S.L } :: R) := SfqR.iff.2 ⟨ab, rb, _, rem, hrep, Hold.out, hur, hok2, o3.re [1, 2, 0, 3] 1⟩
      exact ⟨rfl, oE, ⟨k3.os, k3.tape, k3.output⟩⟩
end
end Go.Proofs.Ytnandakoigmknaa
