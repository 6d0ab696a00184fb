/- The functions that the laws of this seat reach, a proof for each that the Go code comes to them, and the plain laws; merged. Conditions: none beside those of the given statements. -/
import Derived.Test.YtjofkebiacaciaaProg
import Derived.Below
import Derived.Deep.Draws
import Derived.Deep.AppendLies
import Derived.Maps.AppendAt
import Derived.OwnWalk
import Derived.Laws.BytesArg
import Derived.Laws.MakeOwn
import Derived.Laws.OwnMore
import Derived.Deep.OwnRows
import Derived.Tactics
import Derived.Lib.ConvBytes
import Derived.Laws.Slices
import Derived.WalkKit
import Derived.KernelRfl
import Derived.RowKit3
import Derived.Deep.LoopGhost
import Derived.Deep.QuietTactic
import Derived.BigQuiet
import Derived.WideLaws
import Derived.Deep.DeepCutAuto
import Derived.Deep.CutBlock
import Derived.Deep.RegionHeld3
import Derived.Laws.Rows
import Derived.Lib.AppendStr
import Derived.ArgAppend
import Derived.Laws.IdiomCopy
import Derived.OrdersHeld
import Derived.Laws.BitsLemmas
import Derived.RowKit
import Derived.Laws.StructEq
import Derived.Laws.EntriesVeiled
import Derived.Outline
import Derived.Deep.RegionWith
import Derived.BigRegion
import Derived.Test.YtjofkebiacaciaaMcWMore
import Derived.Test.YtjofkebiacaciaaMcWWords
import Derived.Test.YtjofkebiacaciaaMcWLast
import Derived.Test.YtjofkebiacaciaaMcWTab
import Derived.Test.YtjofkebiacaciaaMcWApart
import Derived.Test.YtjofkebiacaciaaMcWFoot
import Derived.Test.YtjofkebiacaciaaMcWKept
import Derived.Test.YtjofkebiacaciaaMcWShare
import Derived.Test.YtjofkebiacaciaaMcWN
import Derived.Test.YtjofkebiacaciaaMcWFootNe
import Derived.Test.YtjofkebiacaciaaMcWRepsOne
import Derived.Test.YtjofkebiacaciaaMcWGuard
import Derived.Test.YtjofkebiacaciaaMcWNEv
section
namespace Go.Proofs.YtjofkebiacaciaaW.PrintWords
open Go.RowKit
set_option linter.all false
theorem bB {b : Nat} {w W : World} (h : Below b w W := by repeat (first | (with_reducible first | exact HB.out | apply below_alloc | apply pw_below_drewN | apply below_drew1 | refine below_set ?_ (Aside0.out (by assumption))) | exact HB.out)) : Below b w W := h
theorem bK {W : World} {g : Nat} {o : Obj} (h : W.heap[g]? = some o := by (with_reducible repeat (first | refine blk_drewN ?_ _ | refine blk_drew ?_ | refine blk_alloc ?_ _)); exact Aside0.out (by assumption)) : W.heap[g]? = some o := h
theorem kK {w W : World} {g : Nat} {r : Option Nat} (h : KeepBut w W g r := by repeat (first | (with_reducible first | exact HK.out | apply KeepBut.set_ | apply keep_drewN | apply keep_drew | apply keep_alloc | refine keep_far ?_ (Aside0.out (by assumption)) _) | exact HK.out)) : KeepBut w W g r := h
theorem kP {w W : World} {S : Nat → Prop} (h : Kept w W S := by repeat (first | (with_reducible first | exact HK.out | apply Kept.alloc | apply Kept.drewN | apply Kept.drew | refine Kept.setCell ?_ (.inr (Aside0.out (by assumption))) _) | exact HK.out)) : Kept w W S := h
end Go.Proofs.YtjofkebiacaciaaW.PrintWords
end
section
namespace Go.Proofs.Ytjofkebiacaciaa.PAll
open Go.RowKit Go.Proofs.YtjofkebiacaciaaW.PrintWords Go.Proofs.YtjofkebiacaciaaW.PrintLast Go.Proofs.YtjofkebiacaciaaW.PrintMore
attribute [local go_sem] max2_int min2_int max_two min_two max_three min_three max_four min_four
set_option linter.unusedVariables false
set_option linter.unusedSimpArgs false
def errW : Option Int → Value
 | none => .nilIface
 | some c => .iface 0 (.int .i64 c)
theorem errW_none : errW none = .nilIface := rfl
theorem errW_some (c : Int) : errW (some c) = .iface 0 (.int .i64 c) := rfl
theorem info5 : (Try.prog.info? 5).map (fun i => (i.zero, i.size, i.bytes)) = some (some (.int .u8 0), 1, 1) := by kernel_rfl
theorem info24 : (Try.prog.info? 24).map (fun i => (i.zero, i.size, i.bytes)) = some (some (.agg #[(.int .i64 0), (.int .i64 0), (.slice none 0 0)]), 3, 40) := by kernel_rfl
theorem info70 : (Try.prog.info? 70).map (fun i => (i.zero, i.size, i.bytes)) = some (some (.slice none 0 0), 1, 24) := by kernel_rfl
theorem info71 : (Try.prog.info? 71).map (fun i => (i.zero, i.size, i.bytes)) = some (some (.int .u64 0), 1, 8) := by kernel_rfl
structure S24 where
 f0 : Int
 f1 : Int
 f2 : (List S24)
def z24 : S24 := ⟨(0 : Int), (0 : Int), ([] : List S24)⟩
def F24 (d : Kd S24) : Kd S24 := Kd.iso (Kd.pair (Kd.int .i64) (Kd.pair (Kd.int .i64) (Kd.slice 24 d))) (fun x : S24 => (x.f0, x.f1, x.f2))
theorem mono24 : Kd.Mono F24 := Kd.mono_iso _ (Kd.mono_pair (Kd.mono_const _) (Kd.mono_pair (Kd.mono_const _) (Kd.mono_slice 24 Kd.mono_id)))
theorem sub24 : Kd.Sub F24 [24] := Kd.sub_iso _ (Kd.sub_pair (Kd.sub_const _ (by decide)) (Kd.sub_pair (Kd.sub_const _ (by decide)) (Kd.sub_slice 24 (by decide) Kd.sub_id)))
theorem sz24 : ∀ n, (Kd.upto F24 3 [24] n).sz = 3 := Kd.upto_sz (fun _ => rfl)
def k24 : Kd S24 := Kd.fix F24 3 [24] sz24 (Kd.upto_E sub24)
theorem k24_heap : Kd.Heap k24 := Kd.heap_fix (fun _ h_ => Kd.heap_iso _ (Kd.heap_pair (Kd.heap_int .i64) (Kd.heap_pair (Kd.heap_int .i64) (Kd.heap_slice 24 h_))))
theorem k24_open {w : World} {x : S24} {cs : List Value} (h : k24.K w x cs) : ∃ A2 c2, cs = [.int .i64 x.f0, .int .i64 x.f1, .slice A2 x.f2.length c2] ∧ x.f2.length ≤ c2 ∧ k24.C w A2 x.f2.length x.f2 := by
 obtain ⟨n, h⟩ := h
 cases n with
 | zero => exact h.elim
 | succ n =>
  obtain ⟨_, _, rfl, rfl, ⟨_, _, rfl, rfl, ⟨A2, c2, rfl, l2, g2⟩⟩⟩ := h
  exact ⟨A2, c2, rfl, l2, Kd.fix_C g2⟩
theorem k24_mk (w : World) (x : S24) {A2 : Option Addr} {c2 : Nat} (l2 : x.f2.length ≤ c2) (g2 : k24.C w A2 x.f2.length x.f2) : k24.K w x [.int .i64 x.f0, .int .i64 x.f1, .slice A2 x.f2.length c2] := by
 obtain ⟨n2, q2⟩ := Kd.fix_C_back mono24 g2
 have r2 := Kd.upto_C_le mono24 sz24 (show n2 ≤ n2 by omega) q2
 exact ⟨n2 + 1, ⟨[.int .i64 x.f0], [.int .i64 x.f1, .slice A2 x.f2.length c2], rfl, rfl, ⟨[.int .i64 x.f1], [.slice A2 x.f2.length c2], rfl, rfl, ⟨A2, c2, rfl, l2, r2⟩⟩⟩⟩
theorem k24_openF {W : World} {ok : Nat → Prop} {x : S24} {cs : List Value} (h : Kd.FK k24 W ok x cs) : ∃ A2 c2, cs = [.int .i64 x.f0, .int .i64 x.f1, .slice A2 x.f2.length c2] ∧ x.f2.length ≤ c2 ∧ Kd.F k24 W ok A2 x.f2.length x.f2 := by
 obtain ⟨A2, c2, rfl, l2, _⟩ := k24_open (Kd.FK_now h)
 exact ⟨A2, c2, rfl, l2, (fun W' hW => by obtain ⟨A2_, c2_, he, l2_, g2_⟩ := k24_open (h W' hW); injection (Option.some.inj (show some (Value.slice A2 x.f2.length c2) = some (Value.slice A2_ x.f2.length c2_) from congrArg (fun l => l[2]?) he)) with ha_ _ _; rw [ha_]; exact g2_)⟩
theorem k24_mkF (W : World) (ok : Nat → Prop) (x : S24) {A2 : Option Addr} {c2 : Nat} (l2 : x.f2.length ≤ c2) (g2 : Kd.F k24 W ok A2 x.f2.length x.f2) : Kd.FK k24 W ok x [.int .i64 x.f0, .int .i64 x.f1, .slice A2 x.f2.length c2] := fun W2 hW => k24_mk W2 x l2 (g2 W2 hW)
def rd_T24 (xs : List S24) (i : Int) : S24 := xs.getD i.toNat z24
theorem at_T24 {w : World} {A : Option Addr} {n : Nat} {xs : List S24} (h : Kd.C k24 w A n xs) (i : Int) (h0 : 0 ≤ i) (h1 : i < n) : ∃ ad A2 c2, A = some ad ∧ w.cell? (ad.add (i.toNat * 3)) = some (.int .i64 (rd_T24 xs i).f0) ∧ w.cell? ⟨(ad.add (i.toNat * 3)).block, (ad.add (i.toNat * 3)).off + 1, none⟩ = some (.int .i64 (rd_T24 xs i).f1) ∧ w.cell? ⟨(ad.add (i.toNat * 3)).block, (ad.add (i.toNat * 3)).off + 2, none⟩ = some (.slice A2 (rd_T24 xs i).f2.length c2) ∧ (rd_T24 xs i).f2.length ≤ c2 ∧ k24.C w A2 (rd_T24 xs i).f2.length (rd_T24 xs i).f2 := by
 obtain ⟨ad, c, e, _, hK, hc0⟩ := Kd.C_get h z24 i h0 h1
 have hc : ∀ j u, c[j]? = some u → w.cell? (ad.add (i.toNat * 3 + j)) = some u := hc0
 obtain ⟨A2, c2, rfl, l2, g2⟩ := k24_open hK
 exact ⟨ad, A2, c2, e, hc 0 _ rfl, by rw [← add_field _ _ 1 (by omega)]; exact hc 1 _ rfl, by rw [← add_field _ _ 2 (by omega)]; exact hc 2 _ rfl, l2, g2⟩
def rd_L4 (xs : List (List Int)) (i : Int) : (List Int) := xs.getD i.toNat ([] : List Int)
theorem at_L4 {w : World} {A : Option Addr} {n : Nat} {xs : List (List Int)} (h : Kd.C (Kd.slice 71 (Kd.int .u64)) w A n xs) (i : Int) (h0 : 0 ≤ i) (h1 : i < n) : ∃ ad A0 c0, A = some ad ∧ w.cell? (ad.add i.toNat) = some (.slice A0 (rd_L4 xs i).length c0) ∧ (rd_L4 xs i).length ≤ c0 ∧ (Kd.int .u64).C w A0 (rd_L4 xs i).length (rd_L4 xs i) := by
 obtain ⟨ad, c, e, _, hK, hc0⟩ := Kd.C_get h ([] : List Int) i h0 h1
 have hc : ∀ j u, c[j]? = some u → w.cell? (ad.add (i.toNat * 1 + j)) = some u := hc0
 obtain ⟨A0, c0, rfl, l0, g0⟩ := hK
 exact ⟨ad, A0, c0, e, by have hq := hc 0 _ rfl; rwa [Nat.mul_one, Nat.add_zero] at hq, l0, g0⟩
end Go.Proofs.Ytjofkebiacaciaa.PAll
end
section
namespace Go.Proofs.Ytjofkebiacaciaa.PAll
open Go.RowKit Go.Proofs.YtjofkebiacaciaaW.PrintWords Go.Proofs.YtjofkebiacaciaaW.PrintLast Go.Proofs.YtjofkebiacaciaaW.PrintMore
attribute [local go_sem] max2_int min2_int max_two min_two max_three min_three max_four min_four
set_option linter.unusedVariables false
set_option linter.unusedSimpArgs false
mutual
def expr_shaped.j2 : Nat → Int → Int → Int → Int → Int → List (S24) → Option (Bool)
 | 0, _, _, _, _, _, _ => none
 | k + 1, x1, x5, x6, x102000, x102001, x102002 => if (x102002.length : Int) < x5 then (expr_shaped.j3 k x1 true x102000 x102001 x102002) else (expr_shaped.j3 k x1 (decide ((x102002.length : Int) > x6)) x102000 x102001 x102002)
def expr_shaped.j3 : Nat → Int → Bool → Int → Int → List (S24) → Option (Bool)
 | 0, _, _, _, _, _ => none
 | k + 1, x1, x33, x102000, x102001, x102002 => if x33 = true then (some false) else (if x102000 = 3 then (if x102001 < 0 then (expr_shaped.j4 k x1 true x102000 x102001 x102002) else (if x102001 ≥ x1 then (expr_shaped.j4 k x1 true x102000 x102001 x102002) else (expr_shaped.j4 k x1 false x102000 x102001 x102002))) else (expr_shaped.j4 k x1 (x102001 != 0) x102000 x102001 x102002))
def expr_shaped.j4 : Nat → Int → Bool → Int → Int → List (S24) → Option (Bool)
 | 0, _, _, _, _, _ => none
 | k + 1, x1, x57, x102000, x102001, x102002 => if x57 = true then (some false) else (expr_shaped.l0 k x1 x102002 (x102002.length : Int) 0)
def expr_shaped.l0 : Nat → Int → List (S24) → Int → Int → Option (Bool)
 | 0, _, _, _, _ => none
 | k + 1, x1, x59, x60, x61 => if x61 < x60 then (if 0 ≤ x61 then (if x61 < (x59.length : Int) then ((expr_shaped.f k ((rd_T24 x59 x61).f0) ((rd_T24 x59 x61).f1) ((rd_T24 x59 x61).f2) x1).bind fun t104 => (if t104 = true then (expr_shaped.l0 k x1 x59 x60 (wrap64 (x61 + 1))) else (some false))) else (none)) else (none)) else (some true)
def expr_shaped.j0 : Nat → Int → Int → Int → Int → Bool → Int → Int → List (S24) → Option (Bool)
 | 0, _, _, _, _, _, _, _, _ => none
 | k + 1, x1, x5, x6, x10, x11, x102000, x102001, x102002 => if x11 = true then (expr_shaped.j2 k x1 x5 x6 x102000 x102001 x102002) else (if x10 = 4 then (expr_shaped.j1 k x1 x10 (x10 == 4) x102000 x102001 x102002) else (if x10 = 5 then (expr_shaped.j1 k x1 x10 (x10 == 5) x102000 x102001 x102002) else (expr_shaped.j1 k x1 x10 (x10 == 6) x102000 x102001 x102002)))
def expr_shaped.j1 : Nat → Int → Int → Bool → Int → Int → List (S24) → Option (Bool)
 | 0, _, _, _, _, _, _ => none
 | k + 1, x1, x10, x15, x102000, x102001, x102002 => if x15 = true then (expr_shaped.j2 k x1 2 400 x102000 x102001 x102002) else (if x10 = 7 then (expr_shaped.j2 k x1 1 1 x102000 x102001 x102002) else (if x10 = 8 then (expr_shaped.j2 k x1 1 1 x102000 x102001 x102002) else (some false)))
def expr_shaped.f : Nat → Int → Int → List (S24) → Int → Option (Bool)
 | 0, _, _, _, _ => none
 | k + 1, a0_0, a0_1, l0_2, a1 => if a0_0 = 1 then (expr_shaped.j0 k a1 0 0 a0_0 (a0_0 == 1) a0_0 a0_1 l0_2) else (if a0_0 = 2 then (expr_shaped.j0 k a1 0 0 a0_0 (a0_0 == 2) a0_0 a0_1 l0_2) else (expr_shaped.j0 k a1 0 0 a0_0 (a0_0 == 3) a0_0 a0_1 l0_2))
end
theorem expr_shaped.mono_l : ∀ k, (∀ y0 y1 y2 y3, LeO (expr_shaped.f k y0 y1 y2 y3) (expr_shaped.f (k + 1) y0 y1 y2 y3)) ∧ (∀ y0 y1 y2 y3 y4 y5, LeO (expr_shaped.j2 k y0 y1 y2 y3 y4 y5) (expr_shaped.j2 (k + 1) y0 y1 y2 y3 y4 y5)) ∧ (∀ y0 y1 y2 y3 y4, LeO (expr_shaped.j3 k y0 y1 y2 y3 y4) (expr_shaped.j3 (k + 1) y0 y1 y2 y3 y4)) ∧ (∀ y0 y1 y2 y3 y4, LeO (expr_shaped.j4 k y0 y1 y2 y3 y4) (expr_shaped.j4 (k + 1) y0 y1 y2 y3 y4)) ∧ (∀ y0 y1 y2 y3, LeO (expr_shaped.l0 k y0 y1 y2 y3) (expr_shaped.l0 (k + 1) y0 y1 y2 y3)) ∧ (∀ y0 y1 y2 y3 y4 y5 y6 y7, LeO (expr_shaped.j0 k y0 y1 y2 y3 y4 y5 y6 y7) (expr_shaped.j0 (k + 1) y0 y1 y2 y3 y4 y5 y6 y7)) ∧ (∀ y0 y1 y2 y3 y4 y5, LeO (expr_shaped.j1 k y0 y1 y2 y3 y4 y5) (expr_shaped.j1 (k + 1) y0 y1 y2 y3 y4 y5))
 | 0 => ⟨fun _ _ _ _ r h => by simp [expr_shaped.f] at h, fun _ _ _ _ _ _ r h => by simp [expr_shaped.j2] at h, fun _ _ _ _ _ r h => by simp [expr_shaped.j3] at h, fun _ _ _ _ _ r h => by simp [expr_shaped.j4] at h, fun _ _ _ _ r h => by simp [expr_shaped.l0] at h, fun _ _ _ _ _ _ _ _ r h => by simp [expr_shaped.j0] at h, fun _ _ _ _ _ _ r h => by simp [expr_shaped.j1] at h⟩
 | k + 1 => by
  obtain ⟨ih0, ih1, ih2, ih3, ih4, ih5, ih6⟩ := expr_shaped.mono_l k
  refine ⟨?_, ?_, ?_, ?_, ?_, ?_, ?_⟩
  ·intro y0 y1 y2 y3
   unfold expr_shaped.f
   repeat' first
   | (with_reducible exact ih0 _ _ _ _)
   | (with_reducible exact ih1 _ _ _ _ _ _)
   | (with_reducible exact ih2 _ _ _ _ _)
   | (with_reducible exact ih3 _ _ _ _ _)
   | (with_reducible exact ih4 _ _ _ _)
   | (with_reducible exact ih5 _ _ _ _ _ _ _ _)
   | (with_reducible exact ih6 _ _ _ _ _ _)
   | (with_reducible exact LeO.refl _)
   | (with_reducible exact LeO.none _)
   | (with_reducible refine LeO.ite ?_ ?_)
   | (with_reducible refine LeO.bind ?_ (fun _ => ?_))
   | exact ih0 _ _ _ _
   | exact ih1 _ _ _ _ _ _
   | exact ih2 _ _ _ _ _
   | exact ih3 _ _ _ _ _
   | exact ih4 _ _ _ _
   | exact ih5 _ _ _ _ _ _ _ _
   | exact ih6 _ _ _ _ _ _
   | exact LeO.none _
   | refine LeO.ite ?_ ?_
   | refine LeO.bind ?_ (fun _ => ?_)
  ·intro y0 y1 y2 y3 y4 y5
   unfold expr_shaped.j2
   repeat' first
   | (with_reducible exact ih0 _ _ _ _)
   | (with_reducible exact ih1 _ _ _ _ _ _)
   | (with_reducible exact ih2 _ _ _ _ _)
   | (with_reducible exact ih3 _ _ _ _ _)
   | (with_reducible exact ih4 _ _ _ _)
   | (with_reducible exact ih5 _ _ _ _ _ _ _ _)
   | (with_reducible exact ih6 _ _ _ _ _ _)
   | (with_reducible exact LeO.refl _)
   | (with_reducible exact LeO.none _)
   | (with_reducible refine LeO.ite ?_ ?_)
   | (with_reducible refine LeO.bind ?_ (fun _ => ?_))
   | exact ih0 _ _ _ _
   | exact ih1 _ _ _ _ _ _
   | exact ih2 _ _ _ _ _
   | exact ih3 _ _ _ _ _
   | exact ih4 _ _ _ _
   | exact ih5 _ _ _ _ _ _ _ _
   | exact ih6 _ _ _ _ _ _
   | exact LeO.none _
   | refine LeO.ite ?_ ?_
   | refine LeO.bind ?_ (fun _ => ?_)
  ·intro y0 y1 y2 y3 y4
   unfold expr_shaped.j3
   repeat' first
   | (with_reducible exact ih0 _ _ _ _)
   | (with_reducible exact ih1 _ _ _ _ _ _)
   | (with_reducible exact ih2 _ _ _ _ _)
   | (with_reducible exact ih3 _ _ _ _ _)
   | (with_reducible exact ih4 _ _ _ _)
   | (with_reducible exact ih5 _ _ _ _ _ _ _ _)
   | (with_reducible exact ih6 _ _ _ _ _ _)
   | (with_reducible exact LeO.refl _)
   | (with_reducible exact LeO.none _)
   | (with_reducible refine LeO.ite ?_ ?_)
   | (with_reducible refine LeO.bind ?_ (fun _ => ?_))
   | exact ih0 _ _ _ _
   | exact ih1 _ _ _ _ _ _
   | exact ih2 _ _ _ _ _
   | exact ih3 _ _ _ _ _
   | exact ih4 _ _ _ _
   | exact ih5 _ _ _ _ _ _ _ _
   | exact ih6 _ _ _ _ _ _
   | exact LeO.none _
   | refine LeO.ite ?_ ?_
   | refine LeO.bind ?_ (fun _ => ?_)
  ·intro y0 y1 y2 y3 y4
   unfold expr_shaped.j4
   repeat' first
   | (with_reducible exact ih0 _ _ _ _)
   | (with_reducible exact ih1 _ _ _ _ _ _)
   | (with_reducible exact ih2 _ _ _ _ _)
   | (with_reducible exact ih3 _ _ _ _ _)
   | (with_reducible exact ih4 _ _ _ _)
   | (with_reducible exact ih5 _ _ _ _ _ _ _ _)
   | (with_reducible exact ih6 _ _ _ _ _ _)
   | (with_reducible exact LeO.refl _)
   | (with_reducible exact LeO.none _)
   | (with_reducible refine LeO.ite ?_ ?_)
   | (with_reducible refine LeO.bind ?_ (fun _ => ?_))
   | exact ih0 _ _ _ _
   | exact ih1 _ _ _ _ _ _
   | exact ih2 _ _ _ _ _
   | exact ih3 _ _ _ _ _
   | exact ih4 _ _ _ _
   | exact ih5 _ _ _ _ _ _ _ _
   | exact ih6 _ _ _ _ _ _
   | exact LeO.none _
   | refine LeO.ite ?_ ?_
   | refine LeO.bind ?_ (fun _ => ?_)
  ·intro y0 y1 y2 y3
   unfold expr_shaped.l0
   repeat' first
   | (with_reducible exact ih0 _ _ _ _)
   | (with_reducible exact ih1 _ _ _ _ _ _)
   | (with_reducible exact ih2 _ _ _ _ _)
   | (with_reducible exact ih3 _ _ _ _ _)
   | (with_reducible exact ih4 _ _ _ _)
   | (with_reducible exact ih5 _ _ _ _ _ _ _ _)
   | (with_reducible exact ih6 _ _ _ _ _ _)
   | (with_reducible exact LeO.refl _)
   | (with_reducible exact LeO.none _)
   | (with_reducible refine LeO.ite ?_ ?_)
   | (with_reducible refine LeO.bind ?_ (fun _ => ?_))
   | exact ih0 _ _ _ _
   | exact ih1 _ _ _ _ _ _
   | exact ih2 _ _ _ _ _
   | exact ih3 _ _ _ _ _
   | exact ih4 _ _ _ _
   | exact ih5 _ _ _ _ _ _ _ _
   | exact ih6 _ _ _ _ _ _
   | exact LeO.none _
   | refine LeO.ite ?_ ?_
   | refine LeO.bind ?_ (fun _ => ?_)
  ·intro y0 y1 y2 y3 y4 y5 y6 y7
   unfold expr_shaped.j0
   repeat' first
   | (with_reducible exact ih0 _ _ _ _)
   | (with_reducible exact ih1 _ _ _ _ _ _)
   | (with_reducible exact ih2 _ _ _ _ _)
   | (with_reducible exact ih3 _ _ _ _ _)
   | (with_reducible exact ih4 _ _ _ _)
   | (with_reducible exact ih5 _ _ _ _ _ _ _ _)
   | (with_reducible exact ih6 _ _ _ _ _ _)
   | (with_reducible exact LeO.refl _)
   | (with_reducible exact LeO.none _)
   | (with_reducible refine LeO.ite ?_ ?_)
   | (with_reducible refine LeO.bind ?_ (fun _ => ?_))
   | exact ih0 _ _ _ _
   | exact ih1 _ _ _ _ _ _
   | exact ih2 _ _ _ _ _
   | exact ih3 _ _ _ _ _
   | exact ih4 _ _ _ _
   | exact ih5 _ _ _ _ _ _ _ _
   | exact ih6 _ _ _ _ _ _
   | exact LeO.none _
   | refine LeO.ite ?_ ?_
   | refine LeO.bind ?_ (fun _ => ?_)
  ·intro y0 y1 y2 y3 y4 y5
   unfold expr_shaped.j1
   repeat' first
   | (with_reducible exact ih0 _ _ _ _)
   | (with_reducible exact ih1 _ _ _ _ _ _)
   | (with_reducible exact ih2 _ _ _ _ _)
   | (with_reducible exact ih3 _ _ _ _ _)
   | (with_reducible exact ih4 _ _ _ _)
   | (with_reducible exact ih5 _ _ _ _ _ _ _ _)
   | (with_reducible exact ih6 _ _ _ _ _ _)
   | (with_reducible exact LeO.refl _)
   | (with_reducible exact LeO.none _)
   | (with_reducible refine LeO.ite ?_ ?_)
   | (with_reducible refine LeO.bind ?_ (fun _ => ?_))
   | exact ih0 _ _ _ _
   | exact ih1 _ _ _ _ _ _
   | exact ih2 _ _ _ _ _
   | exact ih3 _ _ _ _ _
   | exact ih4 _ _ _ _
   | exact ih5 _ _ _ _ _ _ _ _
   | exact ih6 _ _ _ _ _ _
   | exact LeO.none _
   | refine LeO.ite ?_ ?_
   | refine LeO.bind ?_ (fun _ => ?_)
theorem expr_shaped.mono : ∀ a0 a1 a2 a3 k, LeO (expr_shaped.f k a0 a1 a2 a3) (expr_shaped.f (k + 1) a0 a1 a2 a3) := by
 intro a0 a1 a2 a3 k
 obtain ⟨ih0, ih1, ih2, ih3, ih4, ih5, ih6⟩ := expr_shaped.mono_l k
 exact ih0 a0 a1 a2 a3
set_option maxHeartbeats 8000000 in
set_option maxRecDepth 100000 in
theorem expr_shaped.calls (k : Nat) : ∀ (a0_0 : Int) (a0_1 : Int) (A0_2 : Option Addr) (c0_2 : Nat) (l0_2 : List (S24)) (a1 : Int) (r : Bool) (w : World) (hr0_2 : Kd.C k24 w A0_2 l0_2.length l0_2) (hc0_2 : l0_2.length ≤ c0_2) (h : expr_shaped.f k a0_0 a0_1 l0_2 a1 = some r),
  Calls Try.prog 42 #[.agg #[.int .i64 a0_0, .int .i64 a0_1, .slice A0_2 l0_2.length c0_2], .int .i64 a1] w fun e w' => e = .returned (.bool r) ∧ Below w.heap.size w w' := by
 induction k using Nat.strongRecOn with
 | _ k ih =>
 intro a0_0 a0_1 A0_2 c0_2 l0_2 a1 r w hr0_2 hc0_2 h
 cases k with
 | zero => exact absurd h (by simp [expr_shaped.f])
 | succ k =>
 simp only [expr_shaped.f] at h
 have hu24 := Try.underlying24
 have HR0_2 := Aside0.mk hr0_2
 have HC0_2 := Aside0.mk hc0_2
 clear hr0_2 hc0_2
 have HB := Aside0.mk (Below.refl w.heap.size w)
 have H : (if a0_0 = 1 then (expr_shaped.j0 k a1 0 0 a0_0 (a0_0 == 1) a0_0 a0_1 l0_2) else (if a0_0 = 2 then (expr_shaped.j0 k a1 0 0 a0_0 (a0_0 == 2) a0_0 a0_1 l0_2) else (expr_shaped.j0 k a1 0 0 a0_0 (a0_0 == 3) a0_0 a0_1 l0_2))) = some r := h
 clear h
 have HC3 := Aside0.mk H
 clear H
 go_enter Try.func42, Try.ntmps42
 go_upto_block 0 with (first | ((with_reducible refine gate_dst (N := 2) rfl ?_); (try (refine gate_guard (by rfl) ?_; dsimp only)); refine box_event ?hg (N := 2) ?hd (cs := #[.int .i64 a0_0, .int .i64 a0_1, .slice A0_2 l0_2.length c0_2]) (t := 24) ?hr ?_; (case hd => rfl); (case hg => rfl); (case hr => first | (go_simp; done) | (go_simp; rfl)); intro gb101 hg w4 hbox hb; have n0_ := Aside0.mk (below_step (bB) hb); have n1_ := Aside0.mk (hbox); have n2_ := Aside0.mk ((by rw [hg]; exact (below_size (bB)) : w.heap.size ≤ gb101)); have n3_ := Aside0.mk ((by rw [hg]; exact (below_size (bB)) : w.heap.size ≤ gb101)); clear HB; have HB := n0_; have BK101 := n1_; have GW101 := n2_; have GE101 := n3_; clear n0_ n1_ n2_ n3_; clear hb hbox hg; have hcz5_0 : w4.cell? ⟨gb101, 0, none⟩ = some (.int .i64 a0_0) := (blk_cell BK101.out 0).trans rfl; have hcz5_1 : w4.cell? ⟨gb101, 1, none⟩ = some (.int .i64 a0_1) := (blk_cell BK101.out 1).trans rfl; have hcz5_2 : w4.cell? ⟨gb101, 2, none⟩ = some (.slice A0_2 l0_2.length c0_2) := (blk_cell BK101.out 2).trans rfl; have hfz5_0 := blk_frozen BK101.out 0; have hfz5_1 := blk_frozen BK101.out 1; have hfz5_2 := blk_frozen BK101.out 2))
 (try simp only [Act.put, List.setIfInBounds_toArray, List.set_cons_zero, List.set_cons_succ])
 go_cut [5, 6] (fun v5 v6 wc => ∃ (kq : Nat) (x5_2 : Int) (x6_2 : Int), v5 = .int .i64 x5_2 ∧ v6 = .int .i64 x6_2 ∧ Aside0 (expr_shaped.j2 kq a1 x5_2 x6_2 a0_0 a0_1 l0_2 = some r) ∧ Aside0 (kq ≤ k) ∧ Aside0 (wc.heap[gb101]? = some (.cells #[.int .i64 a0_0, .int .i64 a0_1, (.slice A0_2 l0_2.length c0_2)] 24 (0, 0))) ∧ Aside0 (Below w.heap.size w wc))
 case first =>
  have H := HC3.out
  clear HC3
  have HC6 := Aside0.mk H
  clear H
  go_upto_if 11 with (fail)
  go_cut [11] (fun v11 wc => ∃ (kq : Nat) (x11_5 : Bool), v11 = .bool x11_5 ∧ Aside0 (expr_shaped.j0 kq a1 0 0 a0_0 x11_5 a0_0 a0_1 l0_2 = some r) ∧ Aside0 (kq ≤ k) ∧ Aside0 (wc.heap[gb101]? = some (.cells #[.int .i64 a0_0, .int .i64 a0_1, (.slice A0_2 l0_2.length c0_2)] 24 (0, 0))) ∧ Aside0 (Below w.heap.size w wc))
  case first =>
   have H := HC6.out
   clear HC6
   by_cases c7 : a0_0 = 1
   ·rw [if_pos c7] at H
    have c7b0 : (a0_0 == 1) = true := beq_iff_eq.mpr c7
    have c7b1 : (a0_0 != 1) = false := bne_eq_false_iff_eq.mpr c7
    clear c7
    (first | rw [c7b0] | (simp only [i64_w, i32_w]; rw [c7b0]) | skip)
    have H' := Aside0.mk H
    clear H
    go_wp2
    go_meet
    case rel => exact ⟨_, ((a0_0 == 1)), (by first | rfl | (simp; done) | (simp [*]; done)), H', ⟨by first | omega | exact Nat.le_refl _⟩, ⟨bK⟩, ⟨bB⟩⟩
   ·rw [if_neg c7] at H
    have c7b0 : (a0_0 == 1) = false := beq_eq_false_iff_ne.mpr c7
    have c7b1 : (a0_0 != 1) = true := bne_iff_ne.mpr c7
    (first | rw [c7b0] | (simp only [i64_w, i32_w]; rw [c7b0]) | skip)
    by_cases c8 : a0_0 = 2
    ·rw [if_pos c8] at H
     have c8b0 : (a0_0 == 2) = true := beq_iff_eq.mpr c8
     have c8b1 : (a0_0 != 2) = false := bne_eq_false_iff_eq.mpr c8
     clear c8
     have H' := Aside0.mk H
     clear H
     go_wp2
     go_meet
     case rel => exact ⟨_, ((a0_0 == 2)), (by first | rfl | (simp; done) | (simp [*]; done)), H', ⟨by first | omega | exact Nat.le_refl _⟩, ⟨bK⟩, ⟨bB⟩⟩
    ·rw [if_neg c8] at H
     have c8b0 : (a0_0 == 2) = false := beq_eq_false_iff_ne.mpr c8
     have c8b1 : (a0_0 != 2) = true := bne_iff_ne.mpr c8
     have H' := Aside0.mk H
     clear H
     go_wp2
     go_meet
     case rel => exact ⟨_, ((a0_0 == 3)), (by first | rfl | (simp; done) | (simp [*]; done)), H', ⟨by first | omega | exact Nat.le_refl _⟩, ⟨bK⟩, ⟨bB⟩⟩
  case rest =>
   clear HC6
   try clear hcz5_0
   try clear hcz5_1
   try clear hcz5_2
   try clear hfz5_0
   try clear hfz5_1
   try clear hfz5_2
   obtain ⟨kq, x11_5, rfl, HA, HJ5, BK101, HB⟩ := hcut
   cases kq with
   | zero => exact absurd HA.out (by simp [expr_shaped.j0])
   | succ kj5 =>
    have H := HA.out
    clear HA
    simp only [expr_shaped.j0] at H
    by_cases c9 : x11_5 = true
    ·subst c9
     have H1 : (expr_shaped.j2 kj5 a1 0 0 a0_0 a0_1 l0_2) = some r := by rw [if_pos rfl] at H; exact H
     clear H
     have H := H1
     clear H1
     have H' := Aside0.mk H
     clear H
     go_wp2
     go_meet
     case rel => exact ⟨_, (0), (0), (by first | rfl | (simp; done) | (simp [*]; done)), (by first | rfl | (simp; done) | (simp [*]; done)), H', ⟨by have := HJ5.out; first | omega | exact Nat.le_refl _⟩, ⟨bK⟩, ⟨bB⟩⟩
    ·replace c9 := Bool.eq_false_iff.mpr c9
     subst c9
     have H1 : (if a0_0 = 4 then (expr_shaped.j1 kj5 a1 a0_0 (a0_0 == 4) a0_0 a0_1 l0_2) else (if a0_0 = 5 then (expr_shaped.j1 kj5 a1 a0_0 (a0_0 == 5) a0_0 a0_1 l0_2) else (expr_shaped.j1 kj5 a1 a0_0 (a0_0 == 6) a0_0 a0_1 l0_2))) = some r := by rw [if_neg (show ¬ (false = true) by decide)] at H; exact H
     clear H
     have H := H1
     clear H1
     have HC10 := Aside0.mk H
     clear H
     go_upto_if 15 with (fail)
     go_cut [15] (fun v15 wc => ∃ (kq : Nat) (x15_9 : Bool), v15 = .bool x15_9 ∧ Aside0 (expr_shaped.j1 kq a1 a0_0 x15_9 a0_0 a0_1 l0_2 = some r) ∧ Aside0 (kq ≤ kj5) ∧ Aside0 (wc.heap[gb101]? = some (.cells #[.int .i64 a0_0, .int .i64 a0_1, (.slice A0_2 l0_2.length c0_2)] 24 (0, 0))) ∧ Aside0 (Below w.heap.size w wc))
     case first =>
      have H := HC10.out
      clear HC10
      by_cases c11 : a0_0 = 4
      ·rw [if_pos c11] at H
       have c11b0 : (a0_0 == 4) = true := beq_iff_eq.mpr c11
       have c11b1 : (a0_0 != 4) = false := bne_eq_false_iff_eq.mpr c11
       clear c11
       (first | rw [c11b0] | (simp only [i64_w, i32_w]; rw [c11b0]) | skip)
       have H' := Aside0.mk H
       clear H
       go_wp2
       go_meet
       case rel => exact ⟨_, ((a0_0 == 4)), (by first | rfl | (simp; done) | (simp [*]; done)), H', ⟨by have := HJ5.out; first | omega | exact Nat.le_refl _⟩, ⟨bK⟩, ⟨bB⟩⟩
      ·rw [if_neg c11] at H
       have c11b0 : (a0_0 == 4) = false := beq_eq_false_iff_ne.mpr c11
       have c11b1 : (a0_0 != 4) = true := bne_iff_ne.mpr c11
       (first | rw [c11b0] | (simp only [i64_w, i32_w]; rw [c11b0]) | skip)
       by_cases c12 : a0_0 = 5
       ·rw [if_pos c12] at H
        have c12b0 : (a0_0 == 5) = true := beq_iff_eq.mpr c12
        have c12b1 : (a0_0 != 5) = false := bne_eq_false_iff_eq.mpr c12
        clear c12
        have H' := Aside0.mk H
        clear H
        go_wp2
        go_meet
        case rel => exact ⟨_, ((a0_0 == 5)), (by first | rfl | (simp; done) | (simp [*]; done)), H', ⟨by have := HJ5.out; first | omega | exact Nat.le_refl _⟩, ⟨bK⟩, ⟨bB⟩⟩
       ·rw [if_neg c12] at H
        have c12b0 : (a0_0 == 5) = false := beq_eq_false_iff_ne.mpr c12
        have c12b1 : (a0_0 != 5) = true := bne_iff_ne.mpr c12
        have H' := Aside0.mk H
        clear H
        go_wp2
        go_meet
        case rel => exact ⟨_, ((a0_0 == 6)), (by first | rfl | (simp; done) | (simp [*]; done)), H', ⟨by have := HJ5.out; first | omega | exact Nat.le_refl _⟩, ⟨bK⟩, ⟨bB⟩⟩
     case rest =>
      clear HC10
      try clear c9
      try clear hcz5_0
      try clear hcz5_1
      try clear hcz5_2
      try clear hfz5_0
      try clear hfz5_1
      try clear hfz5_2
      obtain ⟨kq, x15_9, rfl, HA, HJ9, BK101, HB⟩ := hcut
      cases kq with
      | zero => exact absurd HA.out (by simp [expr_shaped.j1])
      | succ kj9 =>
       have H := HA.out
       clear HA
       simp only [expr_shaped.j1] at H
       by_cases c13 : x15_9 = true
       ·subst c13
        have H1 : (expr_shaped.j2 kj9 a1 2 400 a0_0 a0_1 l0_2) = some r := by rw [if_pos rfl] at H; exact H
        clear H
        have H := H1
        clear H1
        have H' := Aside0.mk H
        clear H
        go_wp2
        go_meet
        case rel => exact ⟨_, (2), (400), (by first | rfl | (simp; done) | (simp [*]; done)), (by first | rfl | (simp; done) | (simp [*]; done)), H', ⟨by have := HJ5.out; have := HJ9.out; first | omega | exact Nat.le_refl _⟩, ⟨bK⟩, ⟨bB⟩⟩
       ·replace c13 := Bool.eq_false_iff.mpr c13
        subst c13
        have H1 : (if a0_0 = 7 then (expr_shaped.j2 kj9 a1 1 1 a0_0 a0_1 l0_2) else (if a0_0 = 8 then (expr_shaped.j2 kj9 a1 1 1 a0_0 a0_1 l0_2) else (some false))) = some r := by rw [if_neg (show ¬ (false = true) by decide)] at H; exact H
        clear H
        have H := H1
        clear H1
        by_cases c14 : a0_0 = 7
        ·rw [if_pos c14] at H
         have c14b0 : (a0_0 == 7) = true := beq_iff_eq.mpr c14
         have c14b1 : (a0_0 != 7) = false := bne_eq_false_iff_eq.mpr c14
         clear c14
         have H' := Aside0.mk H
         clear H
         go_wp2
         go_meet
         case rel => exact ⟨_, (1), (1), (by first | rfl | (simp; done) | (simp [*]; done)), (by first | rfl | (simp; done) | (simp [*]; done)), H', ⟨by have := HJ5.out; have := HJ9.out; first | omega | exact Nat.le_refl _⟩, ⟨bK⟩, ⟨bB⟩⟩
        ·rw [if_neg c14] at H
         have c14b0 : (a0_0 == 7) = false := beq_eq_false_iff_ne.mpr c14
         have c14b1 : (a0_0 != 7) = true := bne_iff_ne.mpr c14
         by_cases c15 : a0_0 = 8
         ·rw [if_pos c15] at H
          have c15b0 : (a0_0 == 8) = true := beq_iff_eq.mpr c15
          have c15b1 : (a0_0 != 8) = false := bne_eq_false_iff_eq.mpr c15
          clear c15
          have H' := Aside0.mk H
          clear H
          go_wp2
          go_meet
          case rel => exact ⟨_, (1), (1), (by first | rfl | (simp; done) | (simp [*]; done)), (by first | rfl | (simp; done) | (simp [*]; done)), H', ⟨by have := HJ5.out; have := HJ9.out; first | omega | exact Nat.le_refl _⟩, ⟨bK⟩, ⟨bB⟩⟩
         ·rw [if_neg c15] at H
          have c15b0 : (a0_0 == 8) = false := beq_eq_false_iff_ne.mpr c15
          have c15b1 : (a0_0 != 8) = true := bne_iff_ne.mpr c15
          obtain rfl := Option.some.inj H
          go_wp2
          go_ret
          exact ⟨by first | rfl | (simp [errW_none, errW_some] <;> rfl) | (simp [*, errW_none, errW_some] <;> rfl), bB⟩
 case rest =>
  clear HC3
  try clear hcz5_0
  try clear hcz5_1
  try clear hcz5_2
  try clear hfz5_0
  try clear hfz5_1
  try clear hfz5_2
  obtain ⟨kq, x5_2, x6_2, rfl, rfl, HA, HJ2, BK101, HB⟩ := hcut
  cases kq with
  | zero => exact absurd HA.out (by simp [expr_shaped.j2])
  | succ kj2 =>
   have H := HA.out
   clear HA
   simp only [expr_shaped.j2] at H
   have HC16 := Aside0.mk H
   clear H
   go_upto_region 14 with (fail)
   go_cut [33] (fun v33 wc => ∃ (kq : Nat) (x33_15 : Bool), v33 = .bool x33_15 ∧ Aside0 (expr_shaped.j3 kq a1 x33_15 a0_0 a0_1 l0_2 = some r) ∧ Aside0 (kq ≤ kj2) ∧ Aside0 (wc.heap[gb101]? = some (.cells #[.int .i64 a0_0, .int .i64 a0_1, (.slice A0_2 l0_2.length c0_2)] 24 (0, 0))) ∧ Aside0 (Below w.heap.size w wc))
   case first =>
    have H := HC16.out
    clear HC16
    by_cases c17 : (l0_2.length : Int) < x5_2
    ·rw [if_pos c17] at H
     have c17b0 : decide ((l0_2.length : Int) < x5_2) = true := decide_eq_true c17
     clear c17
     (first | rw [c17b0] | (simp only [i64_w, i32_w]; rw [c17b0]) | skip)
     have H' := Aside0.mk H
     clear H
     have hcz18_0 : wc.cell? ⟨gb101, 0, none⟩ = some (.int .i64 a0_0) := (blk_cell BK101.out 0).trans rfl
     have hcz18_1 : wc.cell? ⟨gb101, 1, none⟩ = some (.int .i64 a0_1) := (blk_cell BK101.out 1).trans rfl
     have hcz18_2 : wc.cell? ⟨gb101, 2, none⟩ = some (.slice A0_2 l0_2.length c0_2) := (blk_cell BK101.out 2).trans rfl
     have hfz18_0 := blk_frozen BK101.out 0
     have hfz18_1 := blk_frozen BK101.out 1
     have hfz18_2 := blk_frozen BK101.out 2
     go_wp2
     go_meet
     case rel => exact ⟨_, (true), (by first | rfl | (simp; done) | (simp [*]; done)), H', ⟨by have := HJ2.out; first | omega | exact Nat.le_refl _⟩, ⟨bK⟩, ⟨bB⟩⟩
    ·rw [if_neg c17] at H
     have c17b0 : decide ((l0_2.length : Int) < x5_2) = false := decide_eq_false c17
     clear c17
     (first | rw [c17b0] | (simp only [i64_w, i32_w]; rw [c17b0]) | skip)
     have H' := Aside0.mk H
     clear H
     have hcz19_0 : wc.cell? ⟨gb101, 0, none⟩ = some (.int .i64 a0_0) := (blk_cell BK101.out 0).trans rfl
     have hcz19_1 : wc.cell? ⟨gb101, 1, none⟩ = some (.int .i64 a0_1) := (blk_cell BK101.out 1).trans rfl
     have hcz19_2 : wc.cell? ⟨gb101, 2, none⟩ = some (.slice A0_2 l0_2.length c0_2) := (blk_cell BK101.out 2).trans rfl
     have hfz19_0 := blk_frozen BK101.out 0
     have hfz19_1 := blk_frozen BK101.out 1
     have hfz19_2 := blk_frozen BK101.out 2
     go_wp2
     go_meet
     case rel => exact ⟨_, (decide ((l0_2.length : Int) > x6_2)), (by first | rfl | (simp; done) | (simp [*]; done)), H', ⟨by have := HJ2.out; first | omega | exact Nat.le_refl _⟩, ⟨bK⟩, ⟨bB⟩⟩
   case rest =>
    clear HC16
    try clear hcz5_0
    try clear hcz5_1
    try clear hcz5_2
    try clear hfz5_0
    try clear hfz5_1
    try clear hfz5_2
    obtain ⟨kq, x33_15, rfl, HA, HJ15, BK101, HB⟩ := hcut
    cases kq with
    | zero => exact absurd HA.out (by simp [expr_shaped.j3])
    | succ kj15 =>
     have H := HA.out
     clear HA
     simp only [expr_shaped.j3] at H
     by_cases c20 : x33_15 = true
     ·subst c20
      have H1 : (some false) = some r := by rw [if_pos rfl] at H; exact H
      clear H
      have H := H1
      clear H1
      obtain rfl := Option.some.inj H
      go_wp2
      go_ret
      exact ⟨by first | rfl | (simp [errW_none, errW_some] <;> rfl) | (simp [*, errW_none, errW_some] <;> rfl), bB⟩
     ·replace c20 := Bool.eq_false_iff.mpr c20
      subst c20
      have H1 : (if a0_0 = 3 then (if a0_1 < 0 then (expr_shaped.j4 kj15 a1 true a0_0 a0_1 l0_2) else (if a0_1 ≥ a1 then (expr_shaped.j4 kj15 a1 true a0_0 a0_1 l0_2) else (expr_shaped.j4 kj15 a1 false a0_0 a0_1 l0_2))) else (expr_shaped.j4 kj15 a1 (a0_1 != 0) a0_0 a0_1 l0_2)) = some r := by rw [if_neg (show ¬ (false = true) by decide)] at H; exact H
      clear H
      have H := H1
      clear H1
      have HC21 := Aside0.mk H
      clear H
      go_upto_region 16 with (fail)
      go_cut [57] (fun v57 wc => ∃ (kq : Nat) (x57_20 : Bool), v57 = .bool x57_20 ∧ Aside0 (expr_shaped.j4 kq a1 x57_20 a0_0 a0_1 l0_2 = some r) ∧ Aside0 (kq ≤ kj15) ∧ Aside0 (wc.heap[gb101]? = some (.cells #[.int .i64 a0_0, .int .i64 a0_1, (.slice A0_2 l0_2.length c0_2)] 24 (0, 0))) ∧ Aside0 (Below w.heap.size w wc))
      case first =>
       have H := HC21.out
       clear HC21
       by_cases c22 : a0_0 = 3
       ·rw [if_pos c22] at H
        have c22b0 : (a0_0 == 3) = true := beq_iff_eq.mpr c22
        have c22b1 : (a0_0 != 3) = false := bne_eq_false_iff_eq.mpr c22
        clear c22
        (first | rw [c22b0] | (simp only [i64_w, i32_w]; rw [c22b0]) | skip)
        by_cases c23 : a0_1 < 0
        ·rw [if_pos c23] at H
         have c23b0 : decide (a0_1 < 0) = true := decide_eq_true c23
         clear c23
         have H' := Aside0.mk H
         clear H
         have hcz24_0 : wc.cell? ⟨gb101, 0, none⟩ = some (.int .i64 a0_0) := (blk_cell BK101.out 0).trans rfl
         have hcz24_1 : wc.cell? ⟨gb101, 1, none⟩ = some (.int .i64 a0_1) := (blk_cell BK101.out 1).trans rfl
         have hcz24_2 : wc.cell? ⟨gb101, 2, none⟩ = some (.slice A0_2 l0_2.length c0_2) := (blk_cell BK101.out 2).trans rfl
         have hfz24_0 := blk_frozen BK101.out 0
         have hfz24_1 := blk_frozen BK101.out 1
         have hfz24_2 := blk_frozen BK101.out 2
         go_wp2
         go_meet
         case rel => exact ⟨_, (true), (by first | rfl | (simp; done) | (simp [*]; done)), H', ⟨by have := HJ2.out; have := HJ15.out; first | omega | exact Nat.le_refl _⟩, ⟨bK⟩, ⟨bB⟩⟩
        ·rw [if_neg c23] at H
         have c23b0 : decide (a0_1 < 0) = false := decide_eq_false c23
         clear c23
         by_cases c25 : a0_1 ≥ a1
         ·rw [if_pos c25] at H
          have c25b0 : decide (a1 ≤ a0_1) = true := decide_eq_true c25
          clear c25
          have H' := Aside0.mk H
          clear H
          have hcz26_0 : wc.cell? ⟨gb101, 0, none⟩ = some (.int .i64 a0_0) := (blk_cell BK101.out 0).trans rfl
          have hcz26_1 : wc.cell? ⟨gb101, 1, none⟩ = some (.int .i64 a0_1) := (blk_cell BK101.out 1).trans rfl
          have hcz26_2 : wc.cell? ⟨gb101, 2, none⟩ = some (.slice A0_2 l0_2.length c0_2) := (blk_cell BK101.out 2).trans rfl
          have hfz26_0 := blk_frozen BK101.out 0
          have hfz26_1 := blk_frozen BK101.out 1
          have hfz26_2 := blk_frozen BK101.out 2
          go_wp2
          go_meet
          case rel => exact ⟨_, (true), (by first | rfl | (simp; done) | (simp [*]; done)), H', ⟨by have := HJ2.out; have := HJ15.out; first | omega | exact Nat.le_refl _⟩, ⟨bK⟩, ⟨bB⟩⟩
         ·rw [if_neg c25] at H
          have c25b0 : decide (a1 ≤ a0_1) = false := decide_eq_false c25
          clear c25
          have H' := Aside0.mk H
          clear H
          have hcz27_0 : wc.cell? ⟨gb101, 0, none⟩ = some (.int .i64 a0_0) := (blk_cell BK101.out 0).trans rfl
          have hcz27_1 : wc.cell? ⟨gb101, 1, none⟩ = some (.int .i64 a0_1) := (blk_cell BK101.out 1).trans rfl
          have hcz27_2 : wc.cell? ⟨gb101, 2, none⟩ = some (.slice A0_2 l0_2.length c0_2) := (blk_cell BK101.out 2).trans rfl
          have hfz27_0 := blk_frozen BK101.out 0
          have hfz27_1 := blk_frozen BK101.out 1
          have hfz27_2 := blk_frozen BK101.out 2
          go_wp2
          go_meet
          case rel => exact ⟨_, (false), (by first | rfl | (simp; done) | (simp [*]; done)), H', ⟨by have := HJ2.out; have := HJ15.out; first | omega | exact Nat.le_refl _⟩, ⟨bK⟩, ⟨bB⟩⟩
       ·rw [if_neg c22] at H
        have c22b0 : (a0_0 == 3) = false := beq_eq_false_iff_ne.mpr c22
        have c22b1 : (a0_0 != 3) = true := bne_iff_ne.mpr c22
        (first | rw [c22b0] | (simp only [i64_w, i32_w]; rw [c22b0]) | skip)
        have H' := Aside0.mk H
        clear H
        have hcz28_0 : wc.cell? ⟨gb101, 0, none⟩ = some (.int .i64 a0_0) := (blk_cell BK101.out 0).trans rfl
        have hcz28_1 : wc.cell? ⟨gb101, 1, none⟩ = some (.int .i64 a0_1) := (blk_cell BK101.out 1).trans rfl
        have hcz28_2 : wc.cell? ⟨gb101, 2, none⟩ = some (.slice A0_2 l0_2.length c0_2) := (blk_cell BK101.out 2).trans rfl
        have hfz28_0 := blk_frozen BK101.out 0
        have hfz28_1 := blk_frozen BK101.out 1
        have hfz28_2 := blk_frozen BK101.out 2
        go_wp2
        go_meet
        case rel => exact ⟨_, ((a0_1 != 0)), (by first | rfl | (simp; done) | (simp [*]; done)), H', ⟨by have := HJ2.out; have := HJ15.out; first | omega | exact Nat.le_refl _⟩, ⟨bK⟩, ⟨bB⟩⟩
      case rest =>
       clear HC21
       try clear c20
       try clear hcz5_0
       try clear hcz5_1
       try clear hcz5_2
       try clear hfz5_0
       try clear hfz5_1
       try clear hfz5_2
       obtain ⟨kq, x57_20, rfl, HA, HJ20, BK101, HB⟩ := hcut
       cases kq with
       | zero => exact absurd HA.out (by simp [expr_shaped.j4])
       | succ kj20 =>
        have H := HA.out
        clear HA
        simp only [expr_shaped.j4] at H
        by_cases c29 : x57_20 = true
        ·subst c29
         have H1 : (some false) = some r := by rw [if_pos rfl] at H; exact H
         clear H
         have H := H1
         clear H1
         obtain rfl := Option.some.inj H
         go_wp2
         go_ret
         exact ⟨by first | rfl | (simp [errW_none, errW_some] <;> rfl) | (simp [*, errW_none, errW_some] <;> rfl), bB⟩
        ·replace c29 := Bool.eq_false_iff.mpr c29
         subst c29
         have H1 : (expr_shaped.l0 kj20 a1 l0_2 (l0_2.length : Int) 0) = some r := by rw [if_neg (show ¬ (false = true) by decide)] at H; exact H
         clear H
         have H := H1
         clear H1
         have H' := Aside0.mk H
         clear H
         have hcz30_0 : wc.cell? ⟨gb101, 0, none⟩ = some (.int .i64 a0_0) := (blk_cell BK101.out 0).trans rfl
         have hcz30_1 : wc.cell? ⟨gb101, 1, none⟩ = some (.int .i64 a0_1) := (blk_cell BK101.out 1).trans rfl
         have hcz30_2 : wc.cell? ⟨gb101, 2, none⟩ = some (.slice A0_2 l0_2.length c0_2) := (blk_cell BK101.out 2).trans rfl
         have hfz30_0 := blk_frozen BK101.out 0
         have hfz30_1 := blk_frozen BK101.out 1
         have hfz30_2 := blk_frozen BK101.out 2
         go_wp2
         go_loopg [61] kj20 (fun kq v61 w' => ∃ (x61_4 : Int), v61 = .int .i64 x61_4 ∧ Aside0 (expr_shaped.l0 kq a1 l0_2 (l0_2.length : Int) x61_4 = some r) ∧ Aside0 (kq ≤ kj20) ∧ Aside0 (w'.heap[gb101]? = some (.cells #[.int .i64 a0_0, .int .i64 a0_1, (.slice A0_2 l0_2.length c0_2)] 24 (0, 0))) ∧ Aside0 (Below w.heap.size w w'))
         case atStart => exact ⟨(0), (by first | rfl | (simp; done) | (simp [*]; done)), H', ⟨Nat.le_refl _⟩, ⟨bK⟩, ⟨bB⟩⟩
         case round =>
          clear H'
          try clear c20
          try clear c29
          try clear hcz30_0
          try clear hcz30_1
          try clear hcz30_2
          try clear hcz5_0
          try clear hcz5_1
          try clear hcz5_2
          try clear hfz30_0
          try clear hfz30_1
          try clear hfz30_2
          try clear hfz5_0
          try clear hfz5_1
          try clear hfz5_2
          obtain ⟨x61_4, rfl, HA, HK4, BK101, HB⟩ := hrel
          cases gk with
          | zero => exact absurd HA.out (by simp [expr_shaped.l0])
          | succ k4 =>
           have H := HA.out
           clear HA
           simp only [expr_shaped.l0] at H
           by_cases c31 : x61_4 < (l0_2.length : Int)
           ·rw [if_pos c31] at H
            have c31b0 : decide (x61_4 < (l0_2.length : Int)) = true := decide_eq_true c31
            clear c31
            by_cases c32 : 0 ≤ x61_4
            ·rw [if_pos c32] at H
             have c32b0 : decide (0 ≤ x61_4) = true := decide_eq_true c32
             clear c32
             by_cases c33 : x61_4 < (l0_2.length : Int)
             ·rw [if_pos c33] at H
              have c33b0 : decide (x61_4 < (l0_2.length : Int)) = true := decide_eq_true c33
              clear c33
              replace H := Option.bind_eq_some_iff.mp H
              obtain ⟨t104, A340, H⟩ := H
              replace H : (if t104 = true then (expr_shaped.l0 k4 a1 l0_2 (l0_2.length : Int) (wrap64 (x61_4 + 1))) else (some false)) = some r := H
              have A34 := Aside0.mk A340
              clear A340
              by_cases c35 : t104 = true
              ·subst c35
               have H1 : (expr_shaped.l0 k4 a1 l0_2 (l0_2.length : Int) (wrap64 (x61_4 + 1))) = some r := by rw [if_pos rfl] at H; exact H
               clear H
               have H := H1
               clear H1
               have H' := Aside0.mk H
               clear H
               have p102 : 0 ≤ (x61_4 : Int) := of_decide_eq_true (by first | (with_reducible assumption) | assumption)
               have q102 : x61_4 < (l0_2.length : Int) := of_decide_eq_true (by first | (with_reducible assumption) | assumption)
               obtain ⟨ad102, A102_2, c102_2, e102, hx102_0, hx102_1, hx102_2, hl102_2, hi102_2⟩ := at_T24 HR0_2.out x61_4 p102 q102
               cases e102
               replace hx102_0 := (HB.out.cell (World.block_lt_of_cell? w _ hx102_0)).trans hx102_0
               replace hx102_1 := (HB.out.cell (World.block_lt_of_cell? w _ hx102_1)).trans hx102_1
               replace hx102_2 := (HB.out.cell (World.block_lt_of_cell? w _ hx102_2)).trans hx102_2
               have HR102_2 := Aside0.mk hi102_2
               have HC102_2 := Aside0.mk hl102_2
               clear hi102_2 hl102_2
               replace p102 := eq_true p102
               replace q102 := eq_true q102
               go_wp2_with (first | ((with_reducible refine gate_dst (N := 8) rfl ?_); (try (refine gate_guard (by rfl) ?_; dsimp only)); refine box_event ?hg (N := 8) ?hd (cs := #[.int .i64 0, .int .i64 0, .slice none 0 0]) (t := 24) ?hr ?_; (case hd => rfl); (case hg => rfl); (case hr => first | (go_simp; done) | (go_simp; rfl)); intro gb103 hg w36 hbox hb; have n0_ := Aside0.mk (blk_below (g := gb101) (o := .cells #[.int .i64 a0_0, .int .i64 a0_1, .slice (some ad102) l0_2.length c0_2] 24 (0, 0)) (bK) hb); have n1_ := Aside0.mk (below_step (bB) hb); have n2_ := Aside0.mk (hbox); have n3_ := Aside0.mk ((by rw [hg]; exact (below_size (bB)) : w.heap.size ≤ gb103)); have n4_ := Aside0.mk ((by rw [hg]; exact (below_size (bB)) : w.heap.size ≤ gb103)); have n5_ := Aside0.mk ((by rw [hg]; exact Nat.ne_of_lt (blk_lt (g := gb101) (o := .cells #[.int .i64 a0_0, .int .i64 a0_1, .slice (some ad102) l0_2.length c0_2] 24 (0, 0)) (bK)) : gb101 ≠ gb103)); have n6_ := Aside0.mk ((by rw [hg]; exact Nat.ne_of_gt (blk_lt (g := gb101) (o := .cells #[.int .i64 a0_0, .int .i64 a0_1, .slice (some ad102) l0_2.length c0_2] 24 (0, 0)) (bK)) : gb103 ≠ gb101)); clear BK101; clear HB; have BK101 := n0_; have HB := n1_; have BK103 := n2_; have GW103 := n3_; have GE103 := n4_; have NB101_103 := n5_; have NB103_101 := n6_; clear n0_ n1_ n2_ n3_ n4_ n5_ n6_; clear hb hbox hg; have hnb37 := NB103_101.out; have hnc37 := NB101_103.out; have hcz38_0 : w36.cell? ⟨gb103, 0, none⟩ = some (.int .i64 0) := (blk_cell BK103.out 0).trans rfl; have hcz38_1 : w36.cell? ⟨gb103, 1, none⟩ = some (.int .i64 0) := (blk_cell BK103.out 1).trans rfl; have hcz38_2 : w36.cell? ⟨gb103, 2, none⟩ = some (.slice none 0 0) := (blk_cell BK103.out 2).trans rfl; have hfz38_0 := blk_frozen BK103.out 0; have hfz38_1 := blk_frozen BK103.out 1; have hfz38_2 := blk_frozen BK103.out 2) | ((with_reducible refine gate_callee (f := 42) rfl ?_); refine goesL_ (some 67) rfl rfl Try.func42 (by kernel_rfl) rfl #[.agg #[.int .i64 ((rd_T24 l0_2 x61_4).f0), .int .i64 ((rd_T24 l0_2 x61_4).f1), .slice A102_2 ((rd_T24 l0_2 x61_4).f2).length c102_2], .int .i64 a1] rfl (by (try simp only [List.map_toArray, List.map_cons, List.map_nil]); first | done | rfl | (simp only [List.length_drop, List.length_take]; rfl) | (simp only [Int.ofNat_lt, Int.ofNat_le]; rfl)) ?_; (with_reducible refine (ih k4 (by have := HJ2.out; have := HJ15.out; have := HJ20.out; have := HK4.out; omega) ((rd_T24 l0_2 x61_4).f0) ((rd_T24 l0_2 x61_4).f1) _ _ ((rd_T24 l0_2 x61_4).f2) a1 true _ ?side1 ?side2 A34.out).mono ?_); (case side1 => exact Kd.C_below HR102_2.out (bB)); (case side2 => exact HC102_2.out); rintro e w39 ⟨rfl, hb⟩; refine ⟨_, rfl, ?_⟩; have n0_ := Aside0.mk (blk_below (g := gb101) (o := .cells #[.int .i64 a0_0, .int .i64 a0_1, .slice (some ad102) l0_2.length c0_2] 24 (0, 0)) (by (with_reducible repeat (first | refine blk_drewN ?_ _ | refine blk_drew ?_ | refine blk_alloc ?_ _)); refine blk_far ?_ NB101_103.out _; (with_reducible repeat (first | refine blk_drewN ?_ _ | refine blk_drew ?_ | refine blk_alloc ?_ _)); refine blk_far ?_ NB101_103.out _; (with_reducible repeat (first | refine blk_drewN ?_ _ | refine blk_drew ?_ | refine blk_alloc ?_ _)); refine blk_far ?_ NB101_103.out _; (with_reducible repeat (first | refine blk_drewN ?_ _ | refine blk_drew ?_ | refine blk_alloc ?_ _)); exact BK101.out) hb); have n1_ := Aside0.mk (blk_below (g := gb103) (o := .cells #[.int .i64 ((rd_T24 l0_2 x61_4).f0), .int .i64 ((rd_T24 l0_2 x61_4).f1), .slice A102_2 ((rd_T24 l0_2 x61_4).f2).length c102_2] 24 (0, 0)) (by (with_reducible repeat (first | refine blk_drewN ?_ _ | refine blk_drew ?_ | refine blk_alloc ?_ _)); refine blk_put (cs := #[.int .i64 ((rd_T24 l0_2 x61_4).f0), .int .i64 ((rd_T24 l0_2 x61_4).f1), .slice none 0 0]) ?_ 2 _ rfl; (with_reducible repeat (first | refine blk_drewN ?_ _ | refine blk_drew ?_ | refine blk_alloc ?_ _)); refine blk_put (cs := #[.int .i64 ((rd_T24 l0_2 x61_4).f0), .int .i64 0, .slice none 0 0]) ?_ 1 _ rfl; (with_reducible repeat (first | refine blk_drewN ?_ _ | refine blk_drew ?_ | refine blk_alloc ?_ _)); refine blk_put (cs := #[.int .i64 0, .int .i64 0, .slice none 0 0]) ?_ 0 _ rfl; (with_reducible repeat (first | refine blk_drewN ?_ _ | refine blk_drew ?_ | refine blk_alloc ?_ _)); exact BK103.out) hb); have n2_ := Aside0.mk (below_step (bB) hb); clear BK101; clear BK103; clear HB; have BK101 := n0_; have BK103 := n1_; have HB := n2_; clear n0_ n1_ n2_; (try clear hb); (try clear hb2); (try clear hk); (try clear hi)))
               (first | go_roundg k4 | ((simp only [add_plain] at *); go_roundg k4))
               case measure => have := HJ2.out; have := HJ15.out; have := HJ20.out; have := HK4.out; omega
               case rel => exact ⟨(wrap64 (x61_4 + 1)), (by first | rfl | (simp; done) | (simp [*]; done)), H', ⟨by have := HJ2.out; have := HJ15.out; have := HJ20.out; have := HK4.out; omega⟩, ⟨bK⟩, ⟨bB⟩⟩
              ·replace c35 := Bool.eq_false_iff.mpr c35
               subst c35
               have H1 : (some false) = some r := by rw [if_neg (show ¬ (false = true) by decide)] at H; exact H
               clear H
               have H := H1
               clear H1
               obtain rfl := Option.some.inj H
               have p102 : 0 ≤ (x61_4 : Int) := of_decide_eq_true (by first | (with_reducible assumption) | assumption)
               have q102 : x61_4 < (l0_2.length : Int) := of_decide_eq_true (by first | (with_reducible assumption) | assumption)
               obtain ⟨ad102, A102_2, c102_2, e102, hx102_0, hx102_1, hx102_2, hl102_2, hi102_2⟩ := at_T24 HR0_2.out x61_4 p102 q102
               cases e102
               replace hx102_0 := (HB.out.cell (World.block_lt_of_cell? w _ hx102_0)).trans hx102_0
               replace hx102_1 := (HB.out.cell (World.block_lt_of_cell? w _ hx102_1)).trans hx102_1
               replace hx102_2 := (HB.out.cell (World.block_lt_of_cell? w _ hx102_2)).trans hx102_2
               have HR102_2 := Aside0.mk hi102_2
               have HC102_2 := Aside0.mk hl102_2
               clear hi102_2 hl102_2
               replace p102 := eq_true p102
               replace q102 := eq_true q102
               go_wp2_with (first | ((with_reducible refine gate_dst (N := 8) rfl ?_); (try (refine gate_guard (by rfl) ?_; dsimp only)); refine box_event ?hg (N := 8) ?hd (cs := #[.int .i64 0, .int .i64 0, .slice none 0 0]) (t := 24) ?hr ?_; (case hd => rfl); (case hg => rfl); (case hr => first | (go_simp; done) | (go_simp; rfl)); intro gb103 hg w40 hbox hb; have n0_ := Aside0.mk (blk_below (g := gb101) (o := .cells #[.int .i64 a0_0, .int .i64 a0_1, .slice (some ad102) l0_2.length c0_2] 24 (0, 0)) (bK) hb); have n1_ := Aside0.mk (below_step (bB) hb); have n2_ := Aside0.mk (hbox); have n3_ := Aside0.mk ((by rw [hg]; exact (below_size (bB)) : w.heap.size ≤ gb103)); have n4_ := Aside0.mk ((by rw [hg]; exact (below_size (bB)) : w.heap.size ≤ gb103)); have n5_ := Aside0.mk ((by rw [hg]; exact Nat.ne_of_lt (blk_lt (g := gb101) (o := .cells #[.int .i64 a0_0, .int .i64 a0_1, .slice (some ad102) l0_2.length c0_2] 24 (0, 0)) (bK)) : gb101 ≠ gb103)); have n6_ := Aside0.mk ((by rw [hg]; exact Nat.ne_of_gt (blk_lt (g := gb101) (o := .cells #[.int .i64 a0_0, .int .i64 a0_1, .slice (some ad102) l0_2.length c0_2] 24 (0, 0)) (bK)) : gb103 ≠ gb101)); clear BK101; clear HB; have BK101 := n0_; have HB := n1_; have BK103 := n2_; have GW103 := n3_; have GE103 := n4_; have NB101_103 := n5_; have NB103_101 := n6_; clear n0_ n1_ n2_ n3_ n4_ n5_ n6_; clear hb hbox hg; have hnb41 := NB103_101.out; have hnc41 := NB101_103.out; have hcz42_0 : w40.cell? ⟨gb103, 0, none⟩ = some (.int .i64 0) := (blk_cell BK103.out 0).trans rfl; have hcz42_1 : w40.cell? ⟨gb103, 1, none⟩ = some (.int .i64 0) := (blk_cell BK103.out 1).trans rfl; have hcz42_2 : w40.cell? ⟨gb103, 2, none⟩ = some (.slice none 0 0) := (blk_cell BK103.out 2).trans rfl; have hfz42_0 := blk_frozen BK103.out 0; have hfz42_1 := blk_frozen BK103.out 1; have hfz42_2 := blk_frozen BK103.out 2) | ((with_reducible refine gate_callee (f := 42) rfl ?_); refine goesL_ (some 67) rfl rfl Try.func42 (by kernel_rfl) rfl #[.agg #[.int .i64 ((rd_T24 l0_2 x61_4).f0), .int .i64 ((rd_T24 l0_2 x61_4).f1), .slice A102_2 ((rd_T24 l0_2 x61_4).f2).length c102_2], .int .i64 a1] rfl (by (try simp only [List.map_toArray, List.map_cons, List.map_nil]); first | done | rfl | (simp only [List.length_drop, List.length_take]; rfl) | (simp only [Int.ofNat_lt, Int.ofNat_le]; rfl)) ?_; (with_reducible refine (ih k4 (by have := HJ2.out; have := HJ15.out; have := HJ20.out; have := HK4.out; omega) ((rd_T24 l0_2 x61_4).f0) ((rd_T24 l0_2 x61_4).f1) _ _ ((rd_T24 l0_2 x61_4).f2) a1 false _ ?side1 ?side2 A34.out).mono ?_); (case side1 => exact Kd.C_below HR102_2.out (bB)); (case side2 => exact HC102_2.out); rintro e w43 ⟨rfl, hb⟩; refine ⟨_, rfl, ?_⟩; have n0_ := Aside0.mk (blk_below (g := gb101) (o := .cells #[.int .i64 a0_0, .int .i64 a0_1, .slice (some ad102) l0_2.length c0_2] 24 (0, 0)) (by (with_reducible repeat (first | refine blk_drewN ?_ _ | refine blk_drew ?_ | refine blk_alloc ?_ _)); refine blk_far ?_ NB101_103.out _; (with_reducible repeat (first | refine blk_drewN ?_ _ | refine blk_drew ?_ | refine blk_alloc ?_ _)); refine blk_far ?_ NB101_103.out _; (with_reducible repeat (first | refine blk_drewN ?_ _ | refine blk_drew ?_ | refine blk_alloc ?_ _)); refine blk_far ?_ NB101_103.out _; (with_reducible repeat (first | refine blk_drewN ?_ _ | refine blk_drew ?_ | refine blk_alloc ?_ _)); exact BK101.out) hb); have n1_ := Aside0.mk (blk_below (g := gb103) (o := .cells #[.int .i64 ((rd_T24 l0_2 x61_4).f0), .int .i64 ((rd_T24 l0_2 x61_4).f1), .slice A102_2 ((rd_T24 l0_2 x61_4).f2).length c102_2] 24 (0, 0)) (by (with_reducible repeat (first | refine blk_drewN ?_ _ | refine blk_drew ?_ | refine blk_alloc ?_ _)); refine blk_put (cs := #[.int .i64 ((rd_T24 l0_2 x61_4).f0), .int .i64 ((rd_T24 l0_2 x61_4).f1), .slice none 0 0]) ?_ 2 _ rfl; (with_reducible repeat (first | refine blk_drewN ?_ _ | refine blk_drew ?_ | refine blk_alloc ?_ _)); refine blk_put (cs := #[.int .i64 ((rd_T24 l0_2 x61_4).f0), .int .i64 0, .slice none 0 0]) ?_ 1 _ rfl; (with_reducible repeat (first | refine blk_drewN ?_ _ | refine blk_drew ?_ | refine blk_alloc ?_ _)); refine blk_put (cs := #[.int .i64 0, .int .i64 0, .slice none 0 0]) ?_ 0 _ rfl; (with_reducible repeat (first | refine blk_drewN ?_ _ | refine blk_drew ?_ | refine blk_alloc ?_ _)); exact BK103.out) hb); have n2_ := Aside0.mk (below_step (bB) hb); clear BK101; clear BK103; clear HB; have BK101 := n0_; have BK103 := n1_; have HB := n2_; clear n0_ n1_ n2_; (try clear hb); (try clear hb2); (try clear hk); (try clear hi)))
               go_ret
               exact ⟨by first | rfl | (simp [errW_none, errW_some] <;> rfl) | (simp [*, errW_none, errW_some] <;> rfl), bB⟩
             ·rw [if_neg c33] at H
              exact absurd H (by simp)
            ·rw [if_neg c32] at H
             exact absurd H (by simp)
           ·rw [if_neg c31] at H
            have c31b0 : decide (x61_4 < (l0_2.length : Int)) = false := decide_eq_false c31
            clear c31
            obtain rfl := Option.some.inj H
            go_wp2
            go_ret
            exact ⟨by first | rfl | (simp [errW_none, errW_some] <;> rfl) | (simp [*, errW_none, errW_some] <;> rfl), bB⟩
end Go.Proofs.Ytjofkebiacaciaa.PAll
end
section
namespace Go.Proofs.Ytjofkebiacaciaa.PAll
open Go.RowKit Go.Proofs.YtjofkebiacaciaaW.PrintWords Go.Proofs.YtjofkebiacaciaaW.PrintLast Go.Proofs.YtjofkebiacaciaaW.PrintMore
set_option linter.all false
mutual
def within_walk.f : Nat → List S24 → Int → Int → Option (Bool × Int)
 | 0, _, _, _ => none
 | k + 1, l, d, n => if wrap64 (n + 1) > 400 then some (false, wrap64 (n + 1)) else (if d > 40 then some (false, wrap64 (n + 1)) else within_walk.l0 k l d (wrap64 (n + 1)) 0)
def within_walk.l0 : Nat → List S24 → Int → Int → Int → Option (Bool × Int)
 | 0, _, _, _, _ => none
 | k + 1, l, d, n, i => if i < (l.length : Int) then (if 0 ≤ i then ((within_walk.f k (rd_T24 l i).f2 (wrap64 (d + 1)) n).bind fun t => (if t.1 = true then (within_walk.l0 k l d t.2 (wrap64 (i + 1))) else some (false, t.2))) else none) else some (true, n)
end
def simplify_Within.f (k : Nat) (a0_0 : Int) (a0_1 : Int) (l0_2 : List S24) : Option Bool := (within_walk.f k l0_2 1 0).bind fun t => some t.1
theorem within_walk.mono_l : ∀ k, (∀ y0 y1 y2, LeO (within_walk.f k y0 y1 y2) (within_walk.f (k + 1) y0 y1 y2)) ∧ (∀ y0 y1 y2 y3, LeO (within_walk.l0 k y0 y1 y2 y3) (within_walk.l0 (k + 1) y0 y1 y2 y3))
 | 0 => ⟨fun _ _ _ r h => by simp [within_walk.f] at h, fun _ _ _ _ r h => by simp [within_walk.l0] at h⟩
 | k + 1 => by
  obtain ⟨ih0, ih1⟩ := within_walk.mono_l k
  constructor
  ·intro y0 y1 y2
   unfold within_walk.f
   repeat' first
   | (with_reducible exact ih0 _ _ _)
   | (with_reducible exact ih1 _ _ _ _)
   | (with_reducible exact LeO.refl _)
   | (with_reducible exact LeO.none _)
   | (with_reducible refine LeO.ite ?_ ?_)
   | (with_reducible refine LeO.bind ?_ (fun _ => ?_))
  ·intro y0 y1 y2 y3
   unfold within_walk.l0
   repeat' first
   | (with_reducible exact ih0 _ _ _)
   | (with_reducible exact ih1 _ _ _ _)
   | (with_reducible exact LeO.refl _)
   | (with_reducible exact LeO.none _)
   | (with_reducible refine LeO.ite ?_ ?_)
   | (with_reducible refine LeO.bind ?_ (fun _ => ?_))
theorem simplify_Within.mono : ∀ a0 a1 a2 k, LeO (simplify_Within.f k a0 a1 a2) (simplify_Within.f (k + 1) a0 a1 a2) := by
 intro a0 a1 a2 k
 unfold simplify_Within.f
 exact LeO.bind ((within_walk.mono_l k).1 _ _ _) (fun _ => LeO.refl _)
structure St (w0 W : World) (g h : Nat) (n : Int) : Prop where
 below : Below w0.heap.size w0 W
 gb : w0.heap.size ≤ g
 hb : w0.heap.size ≤ h
 ne : g ≠ h
 cg : W.heap[g]? = some (.cells #[.int .i64 n] 3 (0, 0))
 ch : W.heap[h]? = some (.cells #[.func (.func 68) #[] #[.pointer (some ⟨g, 0, none⟩), .pointer (some ⟨h, 0, none⟩)]] 28 (0, 0))
theorem St.alloc {w0 W : World} {g h : Nat} {n : Int} (s : St w0 W g h n) (o : Obj) : St w0 (W.alloc o) g h n := by
 have hg : g < W.heap.size := (Array.getElem?_eq_some_iff.mp s.cg).1
 have hh : h < W.heap.size := (Array.getElem?_eq_some_iff.mp s.ch).1
 refine ⟨below_alloc s.below o, s.gb, s.hb, s.ne, ?_, ?_⟩
 ·show (W.heap.push o)[g]? = _
  rw [Array.getElem?_push, if_neg (by omega)]; exact s.cg
 ·show (W.heap.push o)[h]? = _
  rw [Array.getElem?_push, if_neg (by omega)]; exact s.ch
theorem St.set {w0 W : World} {g h : Nat} {n : Int} (s : St w0 W g h n) (m : Int) : St w0 (W.setCell ⟨g, 0, none⟩ (.int .i64 m)) g h m := by
 refine ⟨below_set s.below s.gb, s.gb, s.hb, s.ne, ?_, ?_⟩
 ·simp [World.setCell, Array.getElem?_modify, s.cg]
 ·rw [Below.heap_setCell W ⟨g, 0, none⟩ _ h (fun e => s.ne e.symm)]; exact s.ch
theorem St.drewN {w0 W : World} {g h : Nat} {n : Int} (s : St w0 W g h n) (m : Nat) : St w0 (W.drewN m) g h n :=
 ⟨pw_below_drewN s.below m, s.gb, s.hb, s.ne, by simpa using s.cg, by simpa using s.ch⟩
set_option maxHeartbeats 4000000 in
set_option maxRecDepth 100000 in
theorem within_walk.calls (k : Nat) : ∀ (a0 a1 : Int) (A : Option Addr) (c : Nat) (l : List S24) (d n : Int) (r : Bool) (n' : Int) (g h : Nat) (w0 w : World) (hr : Kd.C k24 w0 A l.length l) (hc : l.length ≤ c) (hs : St w0 w g h n) (hf : within_walk.f k l d n = some (r, n')),
  Calls Try.prog 68 #[.agg #[.int .i64 a0, .int .i64 a1, .slice A l.length c], .int .i64 d, .pointer (some ⟨g, 0, none⟩), .pointer (some ⟨h, 0, none⟩)] w fun e w' => e = .returned (.bool r) ∧ St w0 w' g h n' := by
 induction k using Nat.strongRecOn with
 | _ k ih =>
 intro a0 a1 A c l d n r n' g h w0 w hr hc hs hf
 cases k with
 | zero => exact absurd hf (by simp [within_walk.f])
 | succ k =>
 simp only [within_walk.f] at hf
 have HS := Aside0.mk hs
 have hg0 : w.cell? ⟨g, 0, none⟩ = some (.int .i64 n) := by simp [World.cell?, hs.cg]
 have hg1 : w.frozen? ⟨g, 0, none⟩ = false := by simp [World.frozen?, hs.cg]
 have hh0 : w.cell? ⟨h, 0, none⟩ = some (.func (.func 68) #[] #[.pointer (some ⟨g, 0, none⟩), .pointer (some ⟨h, 0, none⟩)]) := by simp [World.cell?, hs.ch]
 have hgl : g < w.heap.size := by have := hs.cg; exact (Array.getElem?_eq_some_iff.mp this).1
 have hhl : h < w.heap.size := by have := hs.ch; exact (Array.getElem?_eq_some_iff.mp this).1
 have hu24 := Try.underlying24
 by_cases c1 : wrap64 (n + 1) > 400
 ·rw [if_pos c1] at hf
  obtain ⟨rfl, rfl⟩ : false = r ∧ wrap64 (n + 1) = n' := by simpa using hf
  have c1b : decide (400 < wrap64 (n + 1)) = true := decide_eq_true c1
  clear hf c1
  go_enter Try.func68, Try.ntmps68
  go_wp2
  go_ret
  exact ⟨rfl, (HS.out.set _).alloc _⟩
 ·rw [if_neg c1] at hf
  have c1b : decide (400 < wrap64 (n + 1)) = false := decide_eq_false c1
  by_cases c2 : d > 40
  ·rw [if_pos c2] at hf
   obtain ⟨rfl, rfl⟩ : false = r ∧ wrap64 (n + 1) = n' := by simpa using hf
   have c2b : decide (40 < d) = true := decide_eq_true c2
   clear hf c1 c2
   go_enter Try.func68, Try.ntmps68
   go_wp2
   go_ret
   exact ⟨rfl, (HS.out.set _).alloc _⟩
  ·rw [if_neg c2] at hf
   have c2b : decide (40 < d) = false := decide_eq_false c2
   have H' := Aside0.mk hf
   have HR := Aside0.mk hr
   clear hf c1 c2 hr hs
   go_enter Try.func68, Try.ntmps68
   go_wp2
   go_loopg [20] k (fun kq v20 w' => ∃ (i : Int) (m : Int), v20 = .int .i64 i ∧ Aside0 (within_walk.l0 kq l d m i = some (r, n')) ∧ Aside0 (kq ≤ k) ∧ Aside0 (St w0 w' g h m))
   case atStart => exact ⟨0, wrap64 (n + 1), rfl, H', ⟨Nat.le_refl _⟩, ⟨(HS.out.set _).alloc _⟩⟩
   case round =>
    clear H' HS hg0 hg1 hh0 c1b c2b
    obtain ⟨i, m, rfl, HA, HK, HS⟩ := hrel
    cases gk with
    | zero => exact absurd HA.out (by simp [within_walk.l0])
    | succ k1 =>
     have H := HA.out
     clear HA
     simp only [within_walk.l0] at H
     by_cases c3 : i < (l.length : Int)
     ·rw [if_pos c3] at H
      by_cases c4 : 0 ≤ i
      ·rw [if_pos c4] at H
       replace H := Option.bind_eq_some_iff.mp H
       obtain ⟨⟨b, m2⟩, H1, H2⟩ := H
       obtain ⟨ad, A2, cc2, e, hx0, hx1, hx2, hl2, hi2⟩ := at_T24 HR.out i c4 c3
       cases e
       replace hx0 := (HS.out.below.cell (World.block_lt_of_cell? w0 _ hx0)).trans hx0
       replace hx1 := (HS.out.below.cell (World.block_lt_of_cell? w0 _ hx1)).trans hx1
       replace hx2 := (HS.out.below.cell (World.block_lt_of_cell? w0 _ hx2)).trans hx2
       have c3b : decide (i < (l.length : Int)) = true := decide_eq_true c3
       have c4b : decide (0 ≤ i) = true := decide_eq_true c4
       have c3c := eq_true c3
       have c4c := eq_true c4
       have hs := HS.out
       have hh0 : wr.cell? ⟨h, 0, none⟩ = some (.func (.func 68) #[] #[.pointer (some ⟨g, 0, none⟩), .pointer (some ⟨h, 0, none⟩)]) := by simp [World.cell?, hs.ch]
       have hhl : h < wr.heap.size := (Array.getElem?_eq_some_iff.mp hs.ch).1
       clear hs
       have HH1 := Aside0.mk H1
       have HH2 := Aside0.mk H2
       have HI2 := Aside0.mk hi2
       have HL2 := Aside0.mk hl2
       clear H1 H2 hi2 hl2 c3 c4
       cases b with
       | true =>
        have HH2' : Aside0 (within_walk.l0 k1 l d m2 (wrap64 (i + 1)) = some (r, n')) := ⟨by have := HH2.out; rw [if_pos rfl] at this; exact this⟩
        clear HH2
        go_wp2_with (go_at_call 68; (refine (ih k1 (by have := HK.out; omega) _ _ _ _ _ _ _ true m2 g h w0 _ HI2.out HL2.out ?st HH1.out).mono ?_); (case st => exact HS.out.alloc _); rintro e w' ⟨rfl, hs'⟩; have HS2 := Aside0.mk hs'; clear hs')
        go_roundg k1
        case measure => have := HK.out; omega
        case rel => exact ⟨wrap64 (i + 1), m2, rfl, HH2', ⟨by have := HK.out; omega⟩, HS2⟩
       | false =>
        have HH2' : Aside0 (false = r ∧ m2 = n') := ⟨by have := HH2.out; rw [if_neg (show ¬ (false = true) by decide)] at this; simpa using this⟩
        clear HH2
        go_wp2_with (go_at_call 68; (refine (ih k1 (by have := HK.out; omega) _ _ _ _ _ _ _ false m2 g h w0 _ HI2.out HL2.out ?st HH1.out).mono ?_); (case st => exact HS.out.alloc _); rintro e w' ⟨rfl, hs'⟩; have HS2 := Aside0.mk hs'; clear hs')
        go_ret
        obtain ⟨rfl, rfl⟩ := HH2'.out
        exact ⟨rfl, HS2.out⟩
      ·rw [if_neg c4] at H; cases H
     ·rw [if_neg c3] at H
      obtain ⟨rfl, rfl⟩ : true = r ∧ m = n' := by simpa using H
      have c3b : decide (i < (l.length : Int)) = false := decide_eq_false c3
      clear H c3
      go_wp2
      go_ret
      exact ⟨rfl, HS.out⟩
set_option maxHeartbeats 4000000 in
set_option maxRecDepth 100000 in
theorem simplify_Within.calls (k : Nat) (a0_0 : Int) (a0_1 : Int) (A0_2 : Option Addr) (c0_2 : Nat) (l0_2 : List (S24)) (r : Bool) (w : World) (hr0_2 : Kd.C k24 w A0_2 l0_2.length l0_2) (hc0_2 : l0_2.length ≤ c0_2) (h : simplify_Within.f k a0_0 a0_1 l0_2 = some r) :
  Calls Try.prog 41 #[.agg #[.int .i64 a0_0, .int .i64 a0_1, .slice A0_2 l0_2.length c0_2]] w fun e w' => e = .returned (.bool r) ∧ Below w.heap.size w w' := by
 unfold simplify_Within.f at h
 obtain ⟨⟨b, m⟩, h1, h2⟩ := Option.bind_eq_some_iff.mp h
 obtain rfl : b = r := by simpa using h2
 have HR := Aside0.mk hr0_2
 have HC := Aside0.mk hc0_2
 have HF := Aside0.mk h1
 clear h h1 h2 hr0_2 hc0_2
 have hu24 := Try.underlying24
 have HST : Aside0 (St w (((w.alloc (.cells #[.int .i64 a0_0, .int .i64 a0_1, .slice A0_2 l0_2.length c0_2] 24)).alloc (.cells #[.int .i64 0] 3)).alloc (.cells #[.func (.func 68) #[] #[.pointer (some ⟨w.heap.size + 1, 0, none⟩), .pointer (some ⟨w.heap.size + 1 + 1, 0, none⟩)]] 28)) (w.heap.size + 1) (w.heap.size + 1 + 1) 0) := by
  refine ⟨⟨below_alloc (below_alloc (below_alloc (Below.refl _ _) _) _) _, by omega, by omega, by omega, ?_, ?_⟩⟩
  ·show (((w.heap.push _).push _).push _)[w.heap.size + 1]? = _
   rw [Array.getElem?_push, if_neg (by rw [Array.size_push, Array.size_push]; omega), Array.getElem?_push, if_pos (by rw [Array.size_push])]
  ·show (((w.heap.push _).push _).push _)[w.heap.size + 1 + 1]? = _
   rw [Array.getElem?_push, if_pos (by rw [Array.size_push, Array.size_push])]
 go_enter Try.func41, Try.ntmps41
 go_wp2_with (go_at_call 68; (refine (within_walk.calls k _ _ _ _ _ 1 0 b m (w.heap.size + 1) (w.heap.size + 1 + 1) w _ HR.out HC.out HST.out HF.out).mono ?_); rintro e w' ⟨rfl, hs'⟩)
 go_ret
 exact ⟨rfl, hs'.below⟩
end Go.Proofs.Ytjofkebiacaciaa.PAll
end
section
namespace Go.Proofs.Ytjofkebiacaciaa.PAll
open Go.RowKit Go.Proofs.YtjofkebiacaciaaW.PrintWords Go.Proofs.YtjofkebiacaciaaW.PrintLast Go.Proofs.YtjofkebiacaciaaW.PrintMore
attribute [local go_sem] max2_int min2_int max_two min_two max_three min_three max_four min_four
set_option linter.unusedVariables false
set_option linter.unusedSimpArgs false
def expr_Validate.j0 : Nat → Int → Bool → Int → Int → List (S24) → Option (Int)
 | 0, _, _, _, _, _ => none
 | k + 1, x1, x5, x106000, x106001, x106002 => if x5 = true then (some 1) else ((simplify_Within.f k x106000 x106001 x106002).bind fun t106 => (if t106 = true then ((expr_shaped.f k x106000 x106001 x106002 x1).bind fun t107 => (if t107 = true then (some 0) else (some 4))) else (some 3)))
def expr_Validate.f (k : Nat) (a0_0 : Int) (a0_1 : Int) (l0_2 : List (S24)) (a1 : Int) : Option (Int) := if a1 < 1 then (expr_Validate.j0 k a1 true a0_0 a0_1 l0_2) else (expr_Validate.j0 k a1 (decide (a1 > 6)) a0_0 a0_1 l0_2)
theorem expr_Validate.mono_l : ∀ k, (∀ y0 y1 y2 y3 y4, LeO (expr_Validate.j0 k y0 y1 y2 y3 y4) (expr_Validate.j0 (k + 1) y0 y1 y2 y3 y4))
 | 0 => fun _ _ _ _ _ r h => by simp [expr_Validate.j0] at h
 | k + 1 => by
  have ih0 := expr_Validate.mono_l k
  ·intro y0 y1 y2 y3 y4
   unfold expr_Validate.j0
   repeat' first
   | (with_reducible exact ih0 _ _ _ _ _)
   | (with_reducible exact expr_shaped.mono _ _ _ _ _)
   | (with_reducible exact simplify_Within.mono _ _ _ _)
   | (with_reducible exact LeO.refl _)
   | (with_reducible exact LeO.none _)
   | (with_reducible refine LeO.ite ?_ ?_)
   | (with_reducible refine LeO.bind ?_ (fun _ => ?_))
   | exact ih0 _ _ _ _ _
   | exact expr_shaped.mono _ _ _ _ _
   | exact simplify_Within.mono _ _ _ _
   | exact LeO.none _
   | refine LeO.ite ?_ ?_
   | refine LeO.bind ?_ (fun _ => ?_)
theorem expr_Validate.mono : ∀ a0 a1 a2 a3 k, LeO (expr_Validate.f k a0 a1 a2 a3) (expr_Validate.f (k + 1) a0 a1 a2 a3) := by
 intro a0 a1 a2 a3 k
 have ih0 := expr_Validate.mono_l k
 unfold expr_Validate.f
 repeat' first
   | (with_reducible exact ih0 _ _ _ _ _)
   | (with_reducible exact expr_shaped.mono _ _ _ _ _)
   | (with_reducible exact simplify_Within.mono _ _ _ _)
   | (with_reducible exact LeO.refl _)
   | (with_reducible exact LeO.none _)
   | (with_reducible refine LeO.ite ?_ ?_)
   | (with_reducible refine LeO.bind ?_ (fun _ => ?_))
   | exact ih0 _ _ _ _ _
   | exact expr_shaped.mono _ _ _ _ _
   | exact simplify_Within.mono _ _ _ _
   | exact LeO.none _
   | refine LeO.ite ?_ ?_
   | refine LeO.bind ?_ (fun _ => ?_)
set_option maxHeartbeats 8000000 in
set_option maxRecDepth 100000 in
theorem expr_Validate.calls (k : Nat) (a0_0 : Int) (a0_1 : Int) (A0_2 : Option Addr) (c0_2 : Nat) (l0_2 : List (S24)) (a1 : Int) (r : Int) (w : World) (hr0_2 : Kd.C k24 w A0_2 l0_2.length l0_2) (hc0_2 : l0_2.length ≤ c0_2) (h : expr_Validate.f k a0_0 a0_1 l0_2 a1 = some r) :
  Calls Try.prog 15 #[.agg #[.int .i64 a0_0, .int .i64 a0_1, .slice A0_2 l0_2.length c0_2], .int .i64 a1] w fun e w' => e = .returned (.int .i64 r) ∧ Below w.heap.size w w' := by
 have hu24 := Try.underlying24
 have HR0_2 := Aside0.mk hr0_2
 have HC0_2 := Aside0.mk hc0_2
 clear hr0_2 hc0_2
 have HB := Aside0.mk (Below.refl w.heap.size w)
 have H : (if a1 < 1 then (expr_Validate.j0 k a1 true a0_0 a0_1 l0_2) else (expr_Validate.j0 k a1 (decide (a1 > 6)) a0_0 a0_1 l0_2)) = some r := h
 clear h
 have HC3 := Aside0.mk H
 clear H
 go_enter Try.func15, Try.ntmps15
 go_upto_region 1 with (first | ((with_reducible refine gate_dst (N := 2) rfl ?_); refine box_event ?hg (N := 2) ?hd (cs := #[.int .i64 a0_0, .int .i64 a0_1, .slice A0_2 l0_2.length c0_2]) (t := 24) ?hr ?_; (case hd => rfl); (case hg => rfl); (case hr => first | (go_simp; done) | (go_simp; rfl)); intro gb105 hg w4 hbox hb; have n0_ := Aside0.mk (below_step (bB) hb); have n1_ := Aside0.mk (hbox); have n2_ := Aside0.mk ((by rw [hg]; exact (below_size (bB)) : w.heap.size ≤ gb105)); have n3_ := Aside0.mk ((by rw [hg]; exact (below_size (bB)) : w.heap.size ≤ gb105)); clear HB; have HB := n0_; have BK105 := n1_; have GW105 := n2_; have GE105 := n3_; clear n0_ n1_ n2_ n3_; clear hb hbox hg))
 (try simp only [Act.put, List.setIfInBounds_toArray, List.set_cons_zero, List.set_cons_succ])
 go_cut [5] (fun v5 wc => ∃ (kq : Nat) (x5_2 : Bool), v5 = .bool x5_2 ∧ Aside0 (expr_Validate.j0 kq a1 x5_2 a0_0 a0_1 l0_2 = some r) ∧ Aside0 (kq ≤ k) ∧ Aside0 (wc.heap[gb105]? = some (.cells #[.int .i64 a0_0, .int .i64 a0_1, (.slice A0_2 l0_2.length c0_2)] 24 (0, 0))) ∧ Aside0 (Below w.heap.size w wc))
 case first =>
  have H := HC3.out
  clear HC3
  by_cases c5 : a1 < 1
  ·rw [if_pos c5] at H
   have c5b0 : decide (a1 < 1) = true := decide_eq_true c5
   clear c5
   (first | rw [c5b0] | (simp only [i64_w, i32_w]; rw [c5b0]) | skip)
   have H' := Aside0.mk H
   clear H
   go_wp2
   go_meet
   case rel => exact ⟨_, (true), (by first | rfl | (simp; done) | (simp [*]; done)), H', ⟨by first | omega | exact Nat.le_refl _⟩, ⟨bK⟩, ⟨bB⟩⟩
  ·rw [if_neg c5] at H
   have c5b0 : decide (a1 < 1) = false := decide_eq_false c5
   clear c5
   (first | rw [c5b0] | (simp only [i64_w, i32_w]; rw [c5b0]) | skip)
   have H' := Aside0.mk H
   clear H
   go_wp2
   go_meet
   case rel => exact ⟨_, (decide (a1 > 6)), (by first | rfl | (simp; done) | (simp [*]; done)), H', ⟨by first | omega | exact Nat.le_refl _⟩, ⟨bK⟩, ⟨bB⟩⟩
 case rest =>
  clear HC3
  obtain ⟨kq, x5_2, rfl, HA, HJ2, BK105, HB⟩ := hcut
  cases kq with
  | zero => exact absurd HA.out (by simp [expr_Validate.j0])
  | succ kj2 =>
   have H := HA.out
   clear HA
   simp only [expr_Validate.j0] at H
   by_cases c6 : x5_2 = true
   ·subst c6
    have H1 : (some 1) = some r := by rw [if_pos rfl] at H; exact H
    clear H
    have H := H1
    clear H1
    obtain rfl := Option.some.inj H
    go_wp2
    go_ret
    exact ⟨by first | rfl | (simp [errW_none, errW_some] <;> rfl) | (simp [*, errW_none, errW_some] <;> rfl), bB⟩
   ·replace c6 := Bool.eq_false_iff.mpr c6
    subst c6
    have H1 : ((simplify_Within.f kj2 a0_0 a0_1 l0_2).bind fun t106 => (if t106 = true then ((expr_shaped.f kj2 a0_0 a0_1 l0_2 a1).bind fun t107 => (if t107 = true then (some 0) else (some 4))) else (some 3))) = some r := by rw [if_neg (show ¬ (false = true) by decide)] at H; exact H
    clear H
    have H := H1
    clear H1
    replace H := Option.bind_eq_some_iff.mp H
    obtain ⟨t106, A70, H⟩ := H
    replace H : (if t106 = true then ((expr_shaped.f kj2 a0_0 a0_1 l0_2 a1).bind fun t107 => (if t107 = true then (some 0) else (some 4))) else (some 3)) = some r := H
    have A7 := Aside0.mk A70
    clear A70
    by_cases c8 : t106 = true
    ·subst c8
     have H1 : ((expr_shaped.f kj2 a0_0 a0_1 l0_2 a1).bind fun t107 => (if t107 = true then (some 0) else (some 4))) = some r := by rw [if_pos rfl] at H; exact H
     clear H
     have H := H1
     clear H1
     replace H := Option.bind_eq_some_iff.mp H
     obtain ⟨t107, A90, H⟩ := H
     replace H : (if t107 = true then (some 0) else (some 4)) = some r := H
     have A9 := Aside0.mk A90
     clear A90
     by_cases c10 : t107 = true
     ·subst c10
      have H1 : (some 0) = some r := by rw [if_pos rfl] at H; exact H
      clear H
      have H := H1
      clear H1
      obtain rfl := Option.some.inj H
      have hcz11_0 : wc.cell? ⟨gb105, 0, none⟩ = some (.int .i64 a0_0) := (blk_cell BK105.out 0).trans rfl
      have hcz11_1 : wc.cell? ⟨gb105, 1, none⟩ = some (.int .i64 a0_1) := (blk_cell BK105.out 1).trans rfl
      have hcz11_2 : wc.cell? ⟨gb105, 2, none⟩ = some (.slice A0_2 l0_2.length c0_2) := (blk_cell BK105.out 2).trans rfl
      have hfz11_0 := blk_frozen BK105.out 0
      have hfz11_1 := blk_frozen BK105.out 1
      have hfz11_2 := blk_frozen BK105.out 2
      go_wp2_with (first | ((with_reducible refine gate_callee (f := 41) rfl ?_); refine goesL_ (some 14) rfl rfl Try.func41 (by kernel_rfl) rfl #[.agg #[.int .i64 a0_0, .int .i64 a0_1, .slice A0_2 l0_2.length c0_2]] rfl (by (try simp only [List.map_toArray, List.map_cons, List.map_nil]); first | done | rfl | (simp only [List.length_drop, List.length_take]; rfl) | (simp only [Int.ofNat_lt, Int.ofNat_le]; rfl)) ?_; (with_reducible refine (simplify_Within.calls kj2 a0_0 a0_1 _ _ l0_2 true _ ?side1 ?side2 A7.out).mono ?_); (case side1 => repeat (first | exact (Kd.C_below HR0_2.out HB.out) | (with_reducible refine Kd.C_alloc ?_ _) | (with_reducible refine Kd.C_drewN ?_ _) | (with_reducible refine Kd.C_drew ?_))); (case side2 => exact HC0_2.out); rintro e w12 ⟨rfl, hb⟩; refine ⟨_, rfl, ?_⟩; have n0_ := Aside0.mk (blk_below (g := gb105) (o := .cells #[.int .i64 a0_0, .int .i64 a0_1, .slice A0_2 l0_2.length c0_2] 24 (0, 0)) (bK) hb); have n1_ := Aside0.mk (below_step (bB) hb); clear BK105; clear HB; have BK105 := n0_; have HB := n1_; clear n0_ n1_; (try clear hb); (try clear hb2); (try clear hk); (try clear hi); have hcz13_0 : w12.cell? ⟨gb105, 0, none⟩ = some (.int .i64 a0_0) := (blk_cell BK105.out 0).trans rfl; have hcz13_1 : w12.cell? ⟨gb105, 1, none⟩ = some (.int .i64 a0_1) := (blk_cell BK105.out 1).trans rfl; have hcz13_2 : w12.cell? ⟨gb105, 2, none⟩ = some (.slice A0_2 l0_2.length c0_2) := (blk_cell BK105.out 2).trans rfl; have hfz13_0 := blk_frozen BK105.out 0; have hfz13_1 := blk_frozen BK105.out 1; have hfz13_2 := blk_frozen BK105.out 2) | ((with_reducible refine gate_callee (f := 42) rfl ?_); refine goesL_ (some 19) rfl rfl Try.func42 (by kernel_rfl) rfl #[.agg #[.int .i64 a0_0, .int .i64 a0_1, .slice A0_2 l0_2.length c0_2], .int .i64 a1] rfl (by (try simp only [List.map_toArray, List.map_cons, List.map_nil]); first | done | rfl | (simp only [List.length_drop, List.length_take]; rfl) | (simp only [Int.ofNat_lt, Int.ofNat_le]; rfl)) ?_; (with_reducible refine (expr_shaped.calls kj2 a0_0 a0_1 _ _ l0_2 a1 true _ ?side1 ?side2 A9.out).mono ?_); (case side1 => repeat (first | exact (Kd.C_below HR0_2.out HB.out) | (with_reducible refine Kd.C_alloc ?_ _) | (with_reducible refine Kd.C_drewN ?_ _) | (with_reducible refine Kd.C_drew ?_))); (case side2 => exact HC0_2.out); rintro e w14 ⟨rfl, hb⟩; refine ⟨_, rfl, ?_⟩; have n0_ := Aside0.mk (blk_below (g := gb105) (o := .cells #[.int .i64 a0_0, .int .i64 a0_1, .slice A0_2 l0_2.length c0_2] 24 (0, 0)) (bK) hb); have n1_ := Aside0.mk (below_step (bB) hb); clear BK105; clear HB; have BK105 := n0_; have HB := n1_; clear n0_ n1_; (try clear hb); (try clear hb2); (try clear hk); (try clear hi)))
      go_ret
      exact ⟨by first | rfl | (simp [errW_none, errW_some] <;> rfl) | (simp [*, errW_none, errW_some] <;> rfl), bB⟩
     ·replace c10 := Bool.eq_false_iff.mpr c10
      subst c10
      have H1 : (some 4) = some r := by rw [if_neg (show ¬ (false = true) by decide)] at H; exact H
      clear H
      have H := H1
      clear H1
      obtain rfl := Option.some.inj H
      have hcz15_0 : wc.cell? ⟨gb105, 0, none⟩ = some (.int .i64 a0_0) := (blk_cell BK105.out 0).trans rfl
      have hcz15_1 : wc.cell? ⟨gb105, 1, none⟩ = some (.int .i64 a0_1) := (blk_cell BK105.out 1).trans rfl
      have hcz15_2 : wc.cell? ⟨gb105, 2, none⟩ = some (.slice A0_2 l0_2.length c0_2) := (blk_cell BK105.out 2).trans rfl
      have hfz15_0 := blk_frozen BK105.out 0
      have hfz15_1 := blk_frozen BK105.out 1
      have hfz15_2 := blk_frozen BK105.out 2
      go_wp2_with (first | ((with_reducible refine gate_callee (f := 41) rfl ?_); refine goesL_ (some 14) rfl rfl Try.func41 (by kernel_rfl) rfl #[.agg #[.int .i64 a0_0, .int .i64 a0_1, .slice A0_2 l0_2.length c0_2]] rfl (by (try simp only [List.map_toArray, List.map_cons, List.map_nil]); first | done | rfl | (simp only [List.length_drop, List.length_take]; rfl) | (simp only [Int.ofNat_lt, Int.ofNat_le]; rfl)) ?_; (with_reducible refine (simplify_Within.calls kj2 a0_0 a0_1 _ _ l0_2 true _ ?side1 ?side2 A7.out).mono ?_); (case side1 => repeat (first | exact (Kd.C_below HR0_2.out HB.out) | (with_reducible refine Kd.C_alloc ?_ _) | (with_reducible refine Kd.C_drewN ?_ _) | (with_reducible refine Kd.C_drew ?_))); (case side2 => exact HC0_2.out); rintro e w16 ⟨rfl, hb⟩; refine ⟨_, rfl, ?_⟩; have n0_ := Aside0.mk (blk_below (g := gb105) (o := .cells #[.int .i64 a0_0, .int .i64 a0_1, .slice A0_2 l0_2.length c0_2] 24 (0, 0)) (bK) hb); have n1_ := Aside0.mk (below_step (bB) hb); clear BK105; clear HB; have BK105 := n0_; have HB := n1_; clear n0_ n1_; (try clear hb); (try clear hb2); (try clear hk); (try clear hi); have hcz17_0 : w16.cell? ⟨gb105, 0, none⟩ = some (.int .i64 a0_0) := (blk_cell BK105.out 0).trans rfl; have hcz17_1 : w16.cell? ⟨gb105, 1, none⟩ = some (.int .i64 a0_1) := (blk_cell BK105.out 1).trans rfl; have hcz17_2 : w16.cell? ⟨gb105, 2, none⟩ = some (.slice A0_2 l0_2.length c0_2) := (blk_cell BK105.out 2).trans rfl; have hfz17_0 := blk_frozen BK105.out 0; have hfz17_1 := blk_frozen BK105.out 1; have hfz17_2 := blk_frozen BK105.out 2) | ((with_reducible refine gate_callee (f := 42) rfl ?_); refine goesL_ (some 19) rfl rfl Try.func42 (by kernel_rfl) rfl #[.agg #[.int .i64 a0_0, .int .i64 a0_1, .slice A0_2 l0_2.length c0_2], .int .i64 a1] rfl (by (try simp only [List.map_toArray, List.map_cons, List.map_nil]); first | done | rfl | (simp only [List.length_drop, List.length_take]; rfl) | (simp only [Int.ofNat_lt, Int.ofNat_le]; rfl)) ?_; (with_reducible refine (expr_shaped.calls kj2 a0_0 a0_1 _ _ l0_2 a1 false _ ?side1 ?side2 A9.out).mono ?_); (case side1 => repeat (first | exact (Kd.C_below HR0_2.out HB.out) | (with_reducible refine Kd.C_alloc ?_ _) | (with_reducible refine Kd.C_drewN ?_ _) | (with_reducible refine Kd.C_drew ?_))); (case side2 => exact HC0_2.out); rintro e w18 ⟨rfl, hb⟩; refine ⟨_, rfl, ?_⟩; have n0_ := Aside0.mk (blk_below (g := gb105) (o := .cells #[.int .i64 a0_0, .int .i64 a0_1, .slice A0_2 l0_2.length c0_2] 24 (0, 0)) (bK) hb); have n1_ := Aside0.mk (below_step (bB) hb); clear BK105; clear HB; have BK105 := n0_; have HB := n1_; clear n0_ n1_; (try clear hb); (try clear hb2); (try clear hk); (try clear hi)))
      go_ret
      exact ⟨by first | rfl | (simp [errW_none, errW_some] <;> rfl) | (simp [*, errW_none, errW_some] <;> rfl), bB⟩
    ·replace c8 := Bool.eq_false_iff.mpr c8
     subst c8
     have H1 : (some 3) = some r := by rw [if_neg (show ¬ (false = true) by decide)] at H; exact H
     clear H
     have H := H1
     clear H1
     obtain rfl := Option.some.inj H
     have hcz19_0 : wc.cell? ⟨gb105, 0, none⟩ = some (.int .i64 a0_0) := (blk_cell BK105.out 0).trans rfl
     have hcz19_1 : wc.cell? ⟨gb105, 1, none⟩ = some (.int .i64 a0_1) := (blk_cell BK105.out 1).trans rfl
     have hcz19_2 : wc.cell? ⟨gb105, 2, none⟩ = some (.slice A0_2 l0_2.length c0_2) := (blk_cell BK105.out 2).trans rfl
     have hfz19_0 := blk_frozen BK105.out 0
     have hfz19_1 := blk_frozen BK105.out 1
     have hfz19_2 := blk_frozen BK105.out 2
     go_wp2_with (first | ((with_reducible refine gate_callee (f := 41) rfl ?_); refine goesL_ (some 14) rfl rfl Try.func41 (by kernel_rfl) rfl #[.agg #[.int .i64 a0_0, .int .i64 a0_1, .slice A0_2 l0_2.length c0_2]] rfl (by (try simp only [List.map_toArray, List.map_cons, List.map_nil]); first | done | rfl | (simp only [List.length_drop, List.length_take]; rfl) | (simp only [Int.ofNat_lt, Int.ofNat_le]; rfl)) ?_; (with_reducible refine (simplify_Within.calls kj2 a0_0 a0_1 _ _ l0_2 false _ ?side1 ?side2 A7.out).mono ?_); (case side1 => repeat (first | exact (Kd.C_below HR0_2.out HB.out) | (with_reducible refine Kd.C_alloc ?_ _) | (with_reducible refine Kd.C_drewN ?_ _) | (with_reducible refine Kd.C_drew ?_))); (case side2 => exact HC0_2.out); rintro e w20 ⟨rfl, hb⟩; refine ⟨_, rfl, ?_⟩; have n0_ := Aside0.mk (blk_below (g := gb105) (o := .cells #[.int .i64 a0_0, .int .i64 a0_1, .slice A0_2 l0_2.length c0_2] 24 (0, 0)) (bK) hb); have n1_ := Aside0.mk (below_step (bB) hb); clear BK105; clear HB; have BK105 := n0_; have HB := n1_; clear n0_ n1_; (try clear hb); (try clear hb2); (try clear hk); (try clear hi)))
     go_ret
     exact ⟨by first | rfl | (simp [errW_none, errW_some] <;> rfl) | (simp [*, errW_none, errW_some] <;> rfl), bB⟩
end Go.Proofs.Ytjofkebiacaciaa.PAll
end
section
namespace Go.Proofs.Ytjofkebiacaciaa.PAll
open Go.RowKit Go.Proofs.YtjofkebiacaciaaW.PrintWords Go.Proofs.YtjofkebiacaciaaW.PrintLast Go.Proofs.YtjofkebiacaciaaW.PrintMore
attribute [local go_sem] max2_int min2_int max_two min_two max_three min_three max_four min_four
set_option linter.unusedVariables false
set_option linter.unusedSimpArgs false
def expr_valid.f (k : Nat) (a0_0 : Int) (a0_1 : Int) (l0_2 : List (S24)) : Option (Bool) := (expr_Validate.f k a0_0 a0_1 l0_2 6).bind fun t109 => (some (t109 == 0))
theorem expr_valid.mono : ∀ a0 a1 a2 k, LeO (expr_valid.f k a0 a1 a2) (expr_valid.f (k + 1) a0 a1 a2) := by
 intro a0 a1 a2 k
 unfold expr_valid.f
 repeat' first
   | (with_reducible exact expr_Validate.mono _ _ _ _ _)
   | (with_reducible exact LeO.refl _)
   | (with_reducible exact LeO.none _)
   | (with_reducible refine LeO.ite ?_ ?_)
   | (with_reducible refine LeO.bind ?_ (fun _ => ?_))
   | exact expr_Validate.mono _ _ _ _ _
   | exact LeO.none _
   | refine LeO.ite ?_ ?_
   | refine LeO.bind ?_ (fun _ => ?_)
set_option maxHeartbeats 8000000 in
set_option maxRecDepth 100000 in
theorem expr_valid.calls (k : Nat) (a0_0 : Int) (a0_1 : Int) (A0_2 : Option Addr) (c0_2 : Nat) (l0_2 : List (S24)) (r : Bool) (w : World) (hr0_2 : Kd.C k24 w A0_2 l0_2.length l0_2) (hc0_2 : l0_2.length ≤ c0_2) (h : expr_valid.f k a0_0 a0_1 l0_2 = some r) :
  Calls Try.prog 46 #[.agg #[.int .i64 a0_0, .int .i64 a0_1, .slice A0_2 l0_2.length c0_2]] w fun e w' => e = .returned (.bool r) ∧ Below w.heap.size w w' := by
 have hu24 := Try.underlying24
 have HR0_2 := Aside0.mk hr0_2
 have HC0_2 := Aside0.mk hc0_2
 clear hr0_2 hc0_2
 have HB := Aside0.mk (Below.refl w.heap.size w)
 have H : ((expr_Validate.f k a0_0 a0_1 l0_2 6).bind fun t109 => (some (t109 == 0))) = some r := h
 clear h
 replace H := Option.bind_eq_some_iff.mp H
 obtain ⟨t109, A20, H⟩ := H
 replace H : (some (t109 == 0)) = some r := H
 have A2 := Aside0.mk A20
 clear A20
 obtain rfl := Option.some.inj H
 go_enter Try.func46, Try.ntmps46
 go_wp2_with (first | ((with_reducible refine gate_dst (N := 1) rfl ?_); refine box_event ?hg (N := 1) ?hd (cs := #[.int .i64 a0_0, .int .i64 a0_1, .slice A0_2 l0_2.length c0_2]) (t := 24) ?hr ?_; (case hd => rfl); (case hg => rfl); (case hr => first | (go_simp; done) | (go_simp; rfl)); intro gb108 hg w3 hbox hb; have n0_ := Aside0.mk (below_step (bB) hb); have n1_ := Aside0.mk (hbox); have n2_ := Aside0.mk ((by rw [hg]; exact (below_size (bB)) : w.heap.size ≤ gb108)); have n3_ := Aside0.mk ((by rw [hg]; exact (below_size (bB)) : w.heap.size ≤ gb108)); clear HB; have HB := n0_; have BK108 := n1_; have GW108 := n2_; have GE108 := n3_; clear n0_ n1_ n2_ n3_; clear hb hbox hg; have hcz4_0 : w3.cell? ⟨gb108, 0, none⟩ = some (.int .i64 a0_0) := (blk_cell BK108.out 0).trans rfl; have hcz4_1 : w3.cell? ⟨gb108, 1, none⟩ = some (.int .i64 a0_1) := (blk_cell BK108.out 1).trans rfl; have hcz4_2 : w3.cell? ⟨gb108, 2, none⟩ = some (.slice A0_2 l0_2.length c0_2) := (blk_cell BK108.out 2).trans rfl; have hfz4_0 := blk_frozen BK108.out 0; have hfz4_1 := blk_frozen BK108.out 1; have hfz4_2 := blk_frozen BK108.out 2) | ((with_reducible refine gate_callee (f := 15) rfl ?_); refine goesL_ (some 4) rfl rfl Try.func15 (by kernel_rfl) rfl #[.agg #[.int .i64 a0_0, .int .i64 a0_1, .slice A0_2 l0_2.length c0_2], .int .i64 6] rfl (by (try simp only [List.map_toArray, List.map_cons, List.map_nil]); first | done | rfl | (simp only [List.length_drop, List.length_take]; rfl) | (simp only [Int.ofNat_lt, Int.ofNat_le]; rfl)) ?_; (with_reducible refine (expr_Validate.calls k a0_0 a0_1 _ _ l0_2 6 t109 _ ?side1 ?side2 A2.out).mono ?_); (case side1 => repeat (first | exact (Kd.C_below HR0_2.out HB.out) | (with_reducible refine Kd.C_alloc ?_ _) | (with_reducible refine Kd.C_drewN ?_ _) | (with_reducible refine Kd.C_drew ?_))); (case side2 => exact HC0_2.out); rintro e w5 ⟨rfl, hb⟩; refine ⟨_, rfl, ?_⟩; have n0_ := Aside0.mk (blk_below (g := gb108) (o := .cells #[.int .i64 a0_0, .int .i64 a0_1, .slice A0_2 l0_2.length c0_2] 24 (0, 0)) (bK) hb); have n1_ := Aside0.mk (below_step (bB) hb); clear BK108; clear HB; have BK108 := n0_; have HB := n1_; clear n0_ n1_; (try clear hb); (try clear hb2); (try clear hk); (try clear hi)))
 go_ret
 exact ⟨by first | rfl | (simp [errW_none, errW_some] <;> rfl) | (simp [*, errW_none, errW_some] <;> rfl), bB⟩
end Go.Proofs.Ytjofkebiacaciaa.PAll
end
section
namespace Go.Proofs.Ytjofkebiacaciaa.PAll
open Go.RowKit Go.Proofs.YtjofkebiacaciaaW.PrintWords Go.Proofs.YtjofkebiacaciaaW.PrintLast Go.Proofs.YtjofkebiacaciaaW.PrintMore
attribute [local go_sem] max2_int min2_int max_two min_two max_three min_three max_four min_four
set_option linter.unusedVariables false
set_option linter.unusedSimpArgs false
def expr_level.f (a0 : Int) : Option (Int) := if a0 = 4 then (some 1) else (if a0 = 6 then (some 2) else (if a0 = 5 then (some 3) else (if a0 = 8 then (some 4) else (if a0 = 7 then (some 5) else (some 6)))))
set_option maxHeartbeats 8000000 in
set_option maxRecDepth 100000 in
theorem expr_level.calls (a0 : Int) (r : Int) (w : World) (h : expr_level.f a0 = some r) :
  Calls Try.prog 69 #[.int .i64 a0] w fun e w' => e = .returned (.int .i64 r) ∧ Drawn0 w w' := by
 have H : (if a0 = 4 then (some 1) else (if a0 = 6 then (some 2) else (if a0 = 5 then (some 3) else (if a0 = 8 then (some 4) else (if a0 = 7 then (some 5) else (some 6)))))) = some r := h
 clear h
 by_cases c2 : a0 = 4
 ·rw [if_pos c2] at H
  have c2b0 : (a0 == 4) = true := beq_iff_eq.mpr c2
  have c2b1 : (a0 != 4) = false := bne_eq_false_iff_eq.mpr c2
  clear c2
  obtain rfl := Option.some.inj H
  go_enter Try.func69, Try.ntmps69
  go_wp2
  go_ret
  exact ⟨by first | rfl | (simp; done) | (simp [*]; done), by repeat (first | exact Drawn0.refl _ | apply Drawn0.step)⟩
 ·rw [if_neg c2] at H
  have c2b0 : (a0 == 4) = false := beq_eq_false_iff_ne.mpr c2
  have c2b1 : (a0 != 4) = true := bne_iff_ne.mpr c2
  by_cases c3 : a0 = 6
  ·rw [if_pos c3] at H
   have c3b0 : (a0 == 6) = true := beq_iff_eq.mpr c3
   have c3b1 : (a0 != 6) = false := bne_eq_false_iff_eq.mpr c3
   clear c3
   obtain rfl := Option.some.inj H
   go_enter Try.func69, Try.ntmps69
   go_wp2
   go_ret
   exact ⟨by first | rfl | (simp; done) | (simp [*]; done), by repeat (first | exact Drawn0.refl _ | apply Drawn0.step)⟩
  ·rw [if_neg c3] at H
   have c3b0 : (a0 == 6) = false := beq_eq_false_iff_ne.mpr c3
   have c3b1 : (a0 != 6) = true := bne_iff_ne.mpr c3
   by_cases c4 : a0 = 5
   ·rw [if_pos c4] at H
    have c4b0 : (a0 == 5) = true := beq_iff_eq.mpr c4
    have c4b1 : (a0 != 5) = false := bne_eq_false_iff_eq.mpr c4
    clear c4
    obtain rfl := Option.some.inj H
    go_enter Try.func69, Try.ntmps69
    go_wp2
    go_ret
    exact ⟨by first | rfl | (simp; done) | (simp [*]; done), by repeat (first | exact Drawn0.refl _ | apply Drawn0.step)⟩
   ·rw [if_neg c4] at H
    have c4b0 : (a0 == 5) = false := beq_eq_false_iff_ne.mpr c4
    have c4b1 : (a0 != 5) = true := bne_iff_ne.mpr c4
    by_cases c5 : a0 = 8
    ·rw [if_pos c5] at H
     have c5b0 : (a0 == 8) = true := beq_iff_eq.mpr c5
     have c5b1 : (a0 != 8) = false := bne_eq_false_iff_eq.mpr c5
     clear c5
     obtain rfl := Option.some.inj H
     go_enter Try.func69, Try.ntmps69
     go_wp2
     go_ret
     exact ⟨by first | rfl | (simp; done) | (simp [*]; done), by repeat (first | exact Drawn0.refl _ | apply Drawn0.step)⟩
    ·rw [if_neg c5] at H
     have c5b0 : (a0 == 8) = false := beq_eq_false_iff_ne.mpr c5
     have c5b1 : (a0 != 8) = true := bne_iff_ne.mpr c5
     by_cases c6 : a0 = 7
     ·rw [if_pos c6] at H
      have c6b0 : (a0 == 7) = true := beq_iff_eq.mpr c6
      have c6b1 : (a0 != 7) = false := bne_eq_false_iff_eq.mpr c6
      clear c6
      obtain rfl := Option.some.inj H
      go_enter Try.func69, Try.ntmps69
      go_wp2
      go_ret
      exact ⟨by first | rfl | (simp; done) | (simp [*]; done), by repeat (first | exact Drawn0.refl _ | apply Drawn0.step)⟩
     ·rw [if_neg c6] at H
      have c6b0 : (a0 == 7) = false := beq_eq_false_iff_ne.mpr c6
      have c6b1 : (a0 != 7) = true := bne_iff_ne.mpr c6
      obtain rfl := Option.some.inj H
      go_enter Try.func69, Try.ntmps69
      go_wp2
      go_ret
      exact ⟨by first | rfl | (simp; done) | (simp [*]; done), by repeat (first | exact Drawn0.refl _ | apply Drawn0.step)⟩
end Go.Proofs.Ytjofkebiacaciaa.PAll
end
section
namespace Go.Proofs.YtjofkebiacaciaaW.PrintWords.FootX
open Go.RowKit Go.Proofs.YtjofkebiacaciaaW.PrintWords Go.Proofs.YtjofkebiacaciaaW.PrintWords.Kd
set_option linter.all false
theorem cellS {α : Type} {d : Kd α} {w W W' : World} {S : Nat → Prop} {n : Nat} {ad : Addr} {xs : List α} (F : ∀ W', Kept w W' S → d.C W' (some ad) n xs) (hn : 0 < n) (hs : 0 < d.sz)
  (hk : Kept w W S) {a : Addr} (ha : a.block = ad.block) {v : Value} (hx : W.cell? a = some v) (hk' : Kept w W' S) : W'.cell? a = some v := by
 have hb := foot_neS F hn hs
 have hl := foot_ltS F hn hs
 rw [← ha] at hb hl
 have e1 := hk.2 a.block hl hb
 have e2 := hk'.2 a.block hl hb
 simpa [World.cell?, e1, e2] using hx
theorem cell {α : Type} {d : Kd α} {w W W' : World} {g : Nat} {n : Nat} {ad : Addr} {xs : List α} (F : ∀ W', KeepBut w W' g none → d.C W' (some ad) n xs) (hn : 0 < n) (hs : 0 < d.sz)
  (hk : KeepBut w W g none) {a : Addr} (ha : a.block = ad.block) {v : Value} (hx : W.cell? a = some v) (hk' : KeepBut w W' g none) : W'.cell? a = some v := by
 have hb := foot_ne F hn hs
 have hl := foot_lt F hn hs
 rw [← ha] at hb hl
 have e1 := hk.2 a.block hl hb (by simp)
 have e2 := hk'.2 a.block hl hb (by simp)
 simpa [World.cell?, e1, e2] using hx
end Go.Proofs.YtjofkebiacaciaaW.PrintWords.FootX
end
section
namespace Go.Proofs.YtjofkebiacaciaaW.PrintWords.FootX
open Go.RowKit Go.Proofs.YtjofkebiacaciaaW.PrintWords Go.Proofs.YtjofkebiacaciaaW.PrintWords.Kd
set_option linter.all false
theorem size_of {b : Nat} {w W : World} (_ : Below b w W) : ∃ n, n = b := ⟨_, rfl⟩
theorem S_lt {α : Type} {d : Kd α} {e base H : Nat} {w : World} {ok : Nat → Prop} {v : Value} {xs : List α} (h : Kd.S d e w base ok v xs) (q : H = w.heap.size) : Kd.S d e w base (fun k => ok k ∧ k < H) v xs := Kd.S_mono (Kd.S_bound h) (fun _ hk => ⟨hk.1, by rw [q]; exact hk.2.2.1⟩)
theorem S_ge {α : Type} {d : Kd α} {e base H : Nat} {w : World} {ok : Nat → Prop} {v : Value} {xs : List α} (h : Kd.S d e w base ok v xs) (q : H = base) : Kd.S d e w base (fun k => H ≤ k) v xs := Kd.S_mono (Kd.S_bound h) (fun _ hk => by rw [q]; exact hk.2.1)
structure Wall (p : Prop) : Prop where
 out : p
theorem wall_ {p : Prop} (h : Wall p) : p := h.out
end Go.Proofs.YtjofkebiacaciaaW.PrintWords.FootX
end
section
namespace Go.Proofs.Ytjofkebiacaciaa.PAll
open Go.RowKit Go.Proofs.YtjofkebiacaciaaW.PrintWords Go.Proofs.YtjofkebiacaciaaW.PrintLast Go.Proofs.YtjofkebiacaciaaW.PrintMore
attribute [local go_sem] max2_int min2_int max_two min_two max_three min_three max_four min_four
set_option linter.unusedVariables false
set_option linter.unusedSimpArgs false
mutual
def expr_text.j0 : Nat → List Int → Int → Int → Int → List (S24) → Option (List Int)
 | 0, _, _, _, _, _ => none
 | k + 1, x0, x7, x111000, x111001, x111002 => expr_text.l0 k x0 x7 x111002 (x111002.length : Int) 0 x111000 x111001 x111002
def expr_text.l0 : Nat → List Int → Int → List (S24) → Int → Int → Int → Int → List (S24) → Option (List Int)
 | 0, _, _, _, _, _, _, _, _ => none
 | k + 1, x0, x7, x68, x69, x70, x111000, x111001, x111002 => if x70 < x69 then (if 0 ≤ x70 then (if x70 < (x68.length : Int) then (if x70 > 0 then (expr_text.j2 k x0 x7 x68 x69 x70 (x7 != 0) x111000 x111001 x111002 ((rd_T24 x68 x70).f0) ((rd_T24 x68 x70).f1) ((rd_T24 x68 x70).f2)) else (expr_text.j2 k x0 x7 x68 x69 x70 false x111000 x111001 x111002 ((rd_T24 x68 x70).f0) ((rd_T24 x68 x70).f1) ((rd_T24 x68 x70).f2))) else (none)) else (none)) else (some x0)
def expr_text.j2 : Nat → List Int → Int → List (S24) → Int → Int → Bool → Int → Int → List (S24) → Int → Int → List (S24) → Option (List Int)
 | 0, _, _, _, _, _, _, _, _, _, _, _, _ => none
 | k + 1, x0, x7, x68, x69, x70, x80, x111000, x111001, x111002, x140000, x140001, x140002 => if x80 = true then ((some (([x7] : List Int) : List Int)).bind fun y140 => (if x0.length + y140.length < 140737488355328 then ((expr_level.f x111000).bind fun t146 => ((expr_text.f k (x0 ++ y140) x140000 x140001 x140002 (wrap64 (t146 + 1))).bind fun t147 => (expr_text.l0 k t147 x7 x68 x69 (wrap64 (x70 + 1)) x111000 x111001 x111002))) else (none))) else ((expr_level.f x111000).bind fun t150 => ((expr_text.f k x0 x140000 x140001 x140002 (wrap64 (t150 + 1))).bind fun t151 => (expr_text.l0 k t151 x7 x68 x69 (wrap64 (x70 + 1)) x111000 x111001 x111002)))
def expr_text.f : Nat → List Int → Int → Int → List (S24) → Int → Option (List Int)
 | 0, _, _, _, _, _ => none
 | k + 1, l0, a1_0, a1_1, l1_2, a2 => (expr_level.f a1_0).bind fun t111 => (if t111 < a2 then (none) else (if a1_0 = 1 then (none) else (if a1_0 = 2 then (none) else (if a1_0 = 3 then ((some (([(97 + ((a1_1) % 256)) % 256] : List Int) : List Int)).bind fun y112 => (if l0.length + y112.length < 140737488355328 then (some (l0 ++ y112)) else (none))) else (if a1_0 = 8 then ((some (([33] : List Int) : List Int)).bind fun y118 => (if l0.length + y118.length < 140737488355328 then (if 0 < (l1_2.length : Int) then ((expr_text.f k (l0 ++ y118) ((rd_T24 l1_2 0).f0) ((rd_T24 l1_2 0).f1) ((rd_T24 l1_2 0).f2) 4).bind fun t125 => (some t125)) else (none)) else (none))) else (if a1_0 = 7 then (if 0 < (l1_2.length : Int) then ((expr_text.f k l0 ((rd_T24 l1_2 0).f0) ((rd_T24 l1_2 0).f1) ((rd_T24 l1_2 0).f2) 5).bind fun t129 => ((some (([42] : List Int) : List Int)).bind fun y132 => (if t129.length + y132.length < 140737488355328 then (some (t129 ++ y132)) else (none)))) else (none)) else (if a1_0 = 4 then (expr_text.j0 k l0 124 a1_0 a1_1 l1_2) else (if a1_0 = 6 then (none) else (expr_text.j0 k l0 0 a1_0 a1_1 l1_2)))))))))
end
theorem expr_text.mono_l : ∀ k, (∀ y0 y1 y2 y3 y4, LeO (expr_text.f k y0 y1 y2 y3 y4) (expr_text.f (k + 1) y0 y1 y2 y3 y4)) ∧ (∀ y0 y1 y2 y3 y4, LeO (expr_text.j0 k y0 y1 y2 y3 y4) (expr_text.j0 (k + 1) y0 y1 y2 y3 y4)) ∧ (∀ y0 y1 y2 y3 y4 y5 y6 y7, LeO (expr_text.l0 k y0 y1 y2 y3 y4 y5 y6 y7) (expr_text.l0 (k + 1) y0 y1 y2 y3 y4 y5 y6 y7)) ∧ (∀ y0 y1 y2 y3 y4 y5 y6 y7 y8 y9 y10 y11, LeO (expr_text.j2 k y0 y1 y2 y3 y4 y5 y6 y7 y8 y9 y10 y11) (expr_text.j2 (k + 1) y0 y1 y2 y3 y4 y5 y6 y7 y8 y9 y10 y11))
 | 0 => ⟨fun _ _ _ _ _ r h => by simp [expr_text.f] at h, fun _ _ _ _ _ r h => by simp [expr_text.j0] at h, fun _ _ _ _ _ _ _ _ r h => by simp [expr_text.l0] at h, fun _ _ _ _ _ _ _ _ _ _ _ _ r h => by simp [expr_text.j2] at h⟩
 | k + 1 => by
  obtain ⟨ih0, ih1, ih2, ih3⟩ := expr_text.mono_l k
  refine ⟨?_, ?_, ?_, ?_⟩
  ·intro y0 y1 y2 y3 y4
   unfold expr_text.f
   repeat' first
   | (with_reducible exact ih0 _ _ _ _ _)
   | (with_reducible exact ih1 _ _ _ _ _)
   | (with_reducible exact ih2 _ _ _ _ _ _ _ _)
   | (with_reducible exact ih3 _ _ _ _ _ _ _ _ _ _ _ _)
   | (with_reducible exact LeO.refl _)
   | (with_reducible exact LeO.none _)
   | (with_reducible refine LeO.ite ?_ ?_)
   | (with_reducible refine LeO.bind ?_ (fun _ => ?_))
   | exact ih0 _ _ _ _ _
   | exact ih1 _ _ _ _ _
   | exact ih2 _ _ _ _ _ _ _ _
   | exact ih3 _ _ _ _ _ _ _ _ _ _ _ _
   | exact LeO.none _
   | refine LeO.ite ?_ ?_
   | refine LeO.bind ?_ (fun _ => ?_)
  ·intro y0 y1 y2 y3 y4
   unfold expr_text.j0
   repeat' first
   | (with_reducible exact ih0 _ _ _ _ _)
   | (with_reducible exact ih1 _ _ _ _ _)
   | (with_reducible exact ih2 _ _ _ _ _ _ _ _)
   | (with_reducible exact ih3 _ _ _ _ _ _ _ _ _ _ _ _)
   | (with_reducible exact LeO.refl _)
   | (with_reducible exact LeO.none _)
   | (with_reducible refine LeO.ite ?_ ?_)
   | (with_reducible refine LeO.bind ?_ (fun _ => ?_))
   | exact ih0 _ _ _ _ _
   | exact ih1 _ _ _ _ _
   | exact ih2 _ _ _ _ _ _ _ _
   | exact ih3 _ _ _ _ _ _ _ _ _ _ _ _
   | exact LeO.none _
   | refine LeO.ite ?_ ?_
   | refine LeO.bind ?_ (fun _ => ?_)
  ·intro y0 y1 y2 y3 y4 y5 y6 y7
   unfold expr_text.l0
   repeat' first
   | (with_reducible exact ih0 _ _ _ _ _)
   | (with_reducible exact ih1 _ _ _ _ _)
   | (with_reducible exact ih2 _ _ _ _ _ _ _ _)
   | (with_reducible exact ih3 _ _ _ _ _ _ _ _ _ _ _ _)
   | (with_reducible exact LeO.refl _)
   | (with_reducible exact LeO.none _)
   | (with_reducible refine LeO.ite ?_ ?_)
   | (with_reducible refine LeO.bind ?_ (fun _ => ?_))
   | exact ih0 _ _ _ _ _
   | exact ih1 _ _ _ _ _
   | exact ih2 _ _ _ _ _ _ _ _
   | exact ih3 _ _ _ _ _ _ _ _ _ _ _ _
   | exact LeO.none _
   | refine LeO.ite ?_ ?_
   | refine LeO.bind ?_ (fun _ => ?_)
  ·intro y0 y1 y2 y3 y4 y5 y6 y7 y8 y9 y10 y11
   unfold expr_text.j2
   repeat' first
   | (with_reducible exact ih0 _ _ _ _ _)
   | (with_reducible exact ih1 _ _ _ _ _)
   | (with_reducible exact ih2 _ _ _ _ _ _ _ _)
   | (with_reducible exact ih3 _ _ _ _ _ _ _ _ _ _ _ _)
   | (with_reducible exact LeO.refl _)
   | (with_reducible exact LeO.none _)
   | (with_reducible refine LeO.ite ?_ ?_)
   | (with_reducible refine LeO.bind ?_ (fun _ => ?_))
   | exact ih0 _ _ _ _ _
   | exact ih1 _ _ _ _ _
   | exact ih2 _ _ _ _ _ _ _ _
   | exact ih3 _ _ _ _ _ _ _ _ _ _ _ _
   | exact LeO.none _
   | refine LeO.ite ?_ ?_
   | refine LeO.bind ?_ (fun _ => ?_)
theorem expr_text.mono : ∀ a0 a1 a2 a3 a4 k, LeO (expr_text.f k a0 a1 a2 a3 a4) (expr_text.f (k + 1) a0 a1 a2 a3 a4) := by
 intro a0 a1 a2 a3 a4 k
 obtain ⟨ih0, ih1, ih2, ih3⟩ := expr_text.mono_l k
 exact ih0 a0 a1 a2 a3 a4
def expr_text.T12 : Bool × List (List Nat × List Nat) := (true, [([], []), ([], []), ([0, 1], [0, 1]), ([], []), ([3], [3]), ([4], [4]), ([5], [5]), ([2, 6, 2], [2, 6]), ([7, 7, 0, 1, 2, 3, 4, 5, 6, 7], [7])])
def expr_text.B12 : List Nat := [0, 0, 3, 0, 8, 24, 56, 127, 255]
theorem expr_text.tab12 : rtab .any (opsOf Try.f47 12) = expr_text.T12 := by kernel_rfl
theorem expr_text.bits12 : waitsOk expr_text.T12.2 expr_text.B12 = true := by kernel_rfl
def expr_text.T24 : Bool × List (List Nat × List Nat) := (true, [([], []), ([], []), ([], []), ([2], [2]), ([3], [3]), ([4], [4]), ([0, 1, 5, 4], [0, 1, 5]), ([6, 6, 0, 1, 2, 3, 4, 5, 6], [0, 6])])
def expr_text.B24 : List Nat := [0, 0, 0, 4, 12, 28, 63, 127]
theorem expr_text.tab24 : rtab .any (opsOf Try.f47 24) = expr_text.T24 := by kernel_rfl
theorem expr_text.bits24 : waitsOk expr_text.T24.2 expr_text.B24 = true := by kernel_rfl
set_option maxHeartbeats 8000000 in
set_option maxRecDepth 100000 in
theorem expr_text.calls (k : Nat) : ∀ (P0_ : Nat → Prop) (u9000_ : Value) (l0 : List Int) (a1_0 : Int) (a1_1 : Int) (A1_2 : Option Addr) (c1_2 : Nat) (l1_2 : List (S24)) (a2 : Int) (r : List Int) (w0 w : World) (hB : Below w0.heap.size w0 w) (ho0 : Kd.R (Kd.int .u8) 5 w w0.heap.size P0_ u9000_ l0) (hr1_2 : ∀ W_, Kept w W_ (fun k_ => P0_ k_) → Kd.C k24 W_ A1_2 l1_2.length l1_2) (hc1_2 : l1_2.length ≤ c1_2) (h : expr_text.f k l0 a1_0 a1_1 l1_2 a2 = some r),
  Calls Try.prog 47 #[u9000_, .agg #[.int .i64 a1_0, .int .i64 a1_1, .slice A1_2 l1_2.length c1_2], .int .i64 a2] w fun e w' => ∃ v0_ : Value, e = .returned (v0_) ∧ Kd.R (Kd.int .u8) 5 w' w0.heap.size (fun k_ => (P0_ k_ ∨ w.heap.size ≤ k_)) v0_ r ∧ Below w0.heap.size w0 w' ∧ Kept w w' (fun k_ => P0_ k_) := by
 induction k using Nat.strongRecOn with
 | _ k ih =>
 intro P0_ u9000_ l0 a1_0 a1_1 A1_2 c1_2 l1_2 a2 r w0 w hB ho0 hr1_2 hc1_2 h
 cases k with
 | zero => exact absurd h (by simp [expr_text.f])
 | succ k =>
 simp only [expr_text.f] at h
 have hu24 := Try.underlying24
 have HO0 := Aside0.mk (show Kd.R (Kd.int .u8) 5 w w0.heap.size (fun k_ => (P0_ k_ ∨ w.heap.size ≤ k_)) u9000_ l0 from Kd.R_mono ho0 (fun k_ hk => (.inl hk)))
 have HR1_2 := Aside0.mk hr1_2
 have HC1_2 := Aside0.mk hc1_2
 clear hr1_2 hc1_2
 have HK := Aside0.mk (Kept.refl w (fun k_ => P0_ k_))
 have HW0 := Aside0.mk hB.size
 have HB := Aside0.mk hB
 clear hB
 have H : ((expr_level.f a1_0).bind fun t111 => (if t111 < a2 then (none) else (if a1_0 = 1 then (none) else (if a1_0 = 2 then (none) else (if a1_0 = 3 then ((some (([(97 + ((a1_1) % 256)) % 256] : List Int) : List Int)).bind fun y112 => (if l0.length + y112.length < 140737488355328 then (some (l0 ++ y112)) else (none))) else (if a1_0 = 8 then ((some (([33] : List Int) : List Int)).bind fun y118 => (if l0.length + y118.length < 140737488355328 then (if 0 < (l1_2.length : Int) then ((expr_text.f k (l0 ++ y118) ((rd_T24 l1_2 0).f0) ((rd_T24 l1_2 0).f1) ((rd_T24 l1_2 0).f2) 4).bind fun t125 => (some t125)) else (none)) else (none))) else (if a1_0 = 7 then (if 0 < (l1_2.length : Int) then ((expr_text.f k l0 ((rd_T24 l1_2 0).f0) ((rd_T24 l1_2 0).f1) ((rd_T24 l1_2 0).f2) 5).bind fun t129 => ((some (([42] : List Int) : List Int)).bind fun y132 => (if t129.length + y132.length < 140737488355328 then (some (t129 ++ y132)) else (none)))) else (none)) else (if a1_0 = 4 then (expr_text.j0 k l0 124 a1_0 a1_1 l1_2) else (if a1_0 = 6 then (none) else (expr_text.j0 k l0 0 a1_0 a1_1 l1_2)))))))))) = some r := h
 clear h
 replace H := Option.bind_eq_some_iff.mp H
 obtain ⟨t111, A40, H⟩ := H
 replace H : (if t111 < a2 then (none) else (if a1_0 = 1 then (none) else (if a1_0 = 2 then (none) else (if a1_0 = 3 then ((some (([(97 + ((a1_1) % 256)) % 256] : List Int) : List Int)).bind fun y112 => (if l0.length + y112.length < 140737488355328 then (some (l0 ++ y112)) else (none))) else (if a1_0 = 8 then ((some (([33] : List Int) : List Int)).bind fun y118 => (if l0.length + y118.length < 140737488355328 then (if 0 < (l1_2.length : Int) then ((expr_text.f k (l0 ++ y118) ((rd_T24 l1_2 0).f0) ((rd_T24 l1_2 0).f1) ((rd_T24 l1_2 0).f2) 4).bind fun t125 => (some t125)) else (none)) else (none))) else (if a1_0 = 7 then (if 0 < (l1_2.length : Int) then ((expr_text.f k l0 ((rd_T24 l1_2 0).f0) ((rd_T24 l1_2 0).f1) ((rd_T24 l1_2 0).f2) 5).bind fun t129 => ((some (([42] : List Int) : List Int)).bind fun y132 => (if t129.length + y132.length < 140737488355328 then (some (t129 ++ y132)) else (none)))) else (none)) else (if a1_0 = 4 then (expr_text.j0 k l0 124 a1_0 a1_1 l1_2) else (if a1_0 = 6 then (none) else (expr_text.j0 k l0 0 a1_0 a1_1 l1_2))))))))) = some r := H
 have A4 := Aside0.mk A40
 clear A40
 by_cases c5 : t111 < a2
 ·rw [if_pos c5] at H
  exact absurd H (by simp)
 ·rw [if_neg c5] at H
  have c5b0 : decide (t111 < a2) = false := decide_eq_false c5
  clear c5
  have HC6 := Aside0.mk H
  clear H
  go_enter Try.func47, Try.ntmps47
  go_upto_block 0 with (first | ((with_reducible refine gate_dst (N := 4) rfl ?_); refine box_event ?hg (N := 4) ?hd (cs := #[.int .i64 a1_0, .int .i64 a1_1, .slice A1_2 l1_2.length c1_2]) (t := 24) ?hr ?_; (case hd => rfl); (case hg => rfl); (case hr => first | (go_simp; done) | (go_simp; rfl)); intro gb110 hg w7 hbox hb; have n0_ := Aside0.mk (Kd.R_below (by (with_reducible repeat (first | apply Kd.R_alloc | apply Kd.R_drewN | apply Kd.R_drew)); exact HO0.out) hb); have n1_ := Aside0.mk (Kept.below (S := (fun k_ => P0_ k_)) (kP) hb); have n2_ := Aside0.mk (below_step (bB) hb); have n3_ := Aside0.mk (hbox); have n4_ := Aside0.mk ((by rw [hg]; exact (by first | exact HK.out.1 | exact (show Kept w _ (fun k_ => P0_ k_) from kP).1) : w.heap.size ≤ gb110)); have n5_ := Aside0.mk ((by rw [hg]; exact (below_size (bB)) : w0.heap.size ≤ gb110)); clear HO0; clear HK; clear HB; have HO0 := n0_; have HK := n1_; have HB := n2_; have BK110 := n3_; have GW110 := n4_; have GE110 := n5_; clear n0_ n1_ n2_ n3_ n4_ n5_; clear hb hbox hg; have hcz8_0 : w7.cell? ⟨gb110, 0, none⟩ = some (.int .i64 a1_0) := (blk_cell BK110.out 0).trans rfl; have hcz8_1 : w7.cell? ⟨gb110, 1, none⟩ = some (.int .i64 a1_1) := (blk_cell BK110.out 1).trans rfl; have hcz8_2 : w7.cell? ⟨gb110, 2, none⟩ = some (.slice A1_2 l1_2.length c1_2) := (blk_cell BK110.out 2).trans rfl; have hfz8_0 := blk_frozen BK110.out 0; have hfz8_1 := blk_frozen BK110.out 1; have hfz8_2 := blk_frozen BK110.out 2) | ((with_reducible refine gate_callee (f := 69) rfl ?_); refine goesL_ (some 12) rfl rfl Try.func69 (by kernel_rfl) rfl #[.int .i64 a1_0] rfl (by (try simp only [List.map_toArray, List.map_cons, List.map_nil]); first | done | rfl | (simp only [List.length_drop, List.length_take]; rfl) | (simp only [Int.ofNat_lt, Int.ofNat_le]; rfl)) ?_; (with_reducible refine (expr_level.calls a1_0 t111 _ A4.out).mono ?_); rintro e w' ⟨rfl, ⟨nd, rfl⟩⟩; refine ⟨_, rfl, ?_⟩))
  (try simp only [Act.put, List.setIfInBounds_toArray, List.set_cons_zero, List.set_cons_succ])
  go_cut [7] (fun v7 wc => ∃ (kq : Nat) (x7_5 : Int), v7 = .int .u8 x7_5 ∧ Aside0 (expr_text.j0 kq l0 x7_5 a1_0 a1_1 l1_2 = some r) ∧ Aside0 (kq ≤ k) ∧ Aside0 (Kd.R (Kd.int .u8) 5 wc w0.heap.size (fun k_ => (P0_ k_ ∨ w.heap.size ≤ k_)) u9000_ l0) ∧ Aside0 (wc.heap[gb110]? = some (.cells #[.int .i64 a1_0, .int .i64 a1_1, (.slice A1_2 l1_2.length c1_2)] 24 (0, 0))) ∧ Aside0 (Kept w wc (fun k_ => P0_ k_)) ∧ Aside0 (Below w0.heap.size w0 wc))
  case first =>
   have H := HC6.out
   clear HC6
   by_cases c9 : a1_0 = 1
   ·rw [if_pos c9] at H
    exact absurd H (by simp)
   ·rw [if_neg c9] at H
    have c9b0 : (a1_0 == 1) = false := beq_eq_false_iff_ne.mpr c9
    have c9b1 : (a1_0 != 1) = true := bne_iff_ne.mpr c9
    (first | rw [c9b0] | (simp only [i64_w, i32_w]; rw [c9b0]) | skip)
    by_cases c10 : a1_0 = 2
    ·rw [if_pos c10] at H
     exact absurd H (by simp)
    ·rw [if_neg c10] at H
     have c10b0 : (a1_0 == 2) = false := beq_eq_false_iff_ne.mpr c10
     have c10b1 : (a1_0 != 2) = true := bne_iff_ne.mpr c10
     by_cases c11 : a1_0 = 3
     ·rw [if_pos c11] at H
      have c11b0 : (a1_0 == 3) = true := beq_iff_eq.mpr c11
      have c11b1 : (a1_0 != 3) = false := bne_eq_false_iff_eq.mpr c11
      clear c11
      obtain ⟨y112, hy112⟩ : ∃ y_ : List Int, y_ = (([(97 + ((a1_1) % 256)) % 256] : List Int)) := ⟨_, rfl⟩
      replace H : (if l0.length + y112.length < 140737488355328 then (some (l0 ++ y112)) else (none)) = some r := by first | (rw [hy112]; with_reducible exact H) | (have H2_ := (Option.bind_some _ _).symm.trans H; rw [hy112]; with_reducible exact H2_) | (have H2_ := (Option.bind_some _ _).symm.trans H; with_reducible exact H2_) | with_reducible exact H | (rw [hy112]; exact H) | exact H
      have Ny112 := Aside0.mk hy112
      clear hy112
      by_cases c12 : l0.length + y112.length < 140737488355328
      ·rw [if_pos c12] at H
       have LMc12 := Aside0.mk c12
       clear c12
       obtain ⟨y115, hy115⟩ : ∃ y_ : List Int, y_ = (l0 ++ y112) := ⟨_, rfl⟩
       replace H : (some y115) = some r := by first | (rw [hy115]; with_reducible exact H) | (have H2_ := (Option.bind_some _ _).symm.trans H; rw [hy115]; with_reducible exact H2_) | (have H2_ := (Option.bind_some _ _).symm.trans H; with_reducible exact H2_) | with_reducible exact H | (rw [hy115]; exact H) | exact H
       have Ny115 := Aside0.mk hy115
       clear hy115
       obtain rfl := Option.some.inj H
       have hcz13_0 : w7.cell? ⟨gb110, 0, none⟩ = some (.int .i64 a1_0) := (blk_cell BK110.out 0).trans rfl
       have hcz13_1 : w7.cell? ⟨gb110, 1, none⟩ = some (.int .i64 a1_1) := (blk_cell BK110.out 1).trans rfl
       have hcz13_2 : w7.cell? ⟨gb110, 2, none⟩ = some (.slice A1_2 l1_2.length c1_2) := (blk_cell BK110.out 2).trans rfl
       have hfz13_0 := blk_frozen BK110.out 0
       have hfz13_1 := blk_frozen BK110.out 1
       have hfz13_2 := blk_frozen BK110.out 2
       go_wp2_with (first | ((with_reducible refine gate_dst (N := 41) rfl ?_); refine Kd.R_lit (Kd.int .u8) _ 5 ?hg (N := 41) ?hd (xs := ([(97 + ((a1_1) % 256)) % 256] : List Int)) (inner := [.int .u8 ((97 + ((a1_1) % 256)) % 256)]) (ok := fun _ => True) (okp := fun _ => True) ?hr ?hp (fun _ hk => hk) trivial (Below.refl _ _) (Nat.le_refl _) (by simp) ?_; (case hd => rfl); (case hg => rfl); (case hr => first | (go_simp; done) | (go_simp; rfl)); (case hp => exact (Reps.one (show Kd.M (Kd.int .u8) _ _ _ ((97 + ((a1_1) % 256)) % 256) [.int .u8 ((97 + ((a1_1) % 256)) % 256)] from rfl) (Reps.none _ _))); intro v113 w14 ho15 hb hg_ hnew_; clear hg_ hnew_; (first | rw [← Ny112.out] at ho15 | (simp only [Int.reduceToNat] at ho15; rw [← Ny112.out] at ho15)); have n0_ := Aside0.mk (Kd.R_elder' (by (with_reducible repeat (first | apply Kd.R_alloc | apply Kd.R_drewN | apply Kd.R_drew)); exact HO0.out) (Kd.R_base ho15) hb); have n1_ := Aside0.mk (Kd.R_lower (Kd.R_new' (Kd.R_newM (M := fun k_ => (P0_ k_ ∨ w.heap.size ≤ k_)) ho15 (by first | exact HK.out.1 | exact (show Kept w _ (fun k_ => P0_ k_) from kP).1) (fun k_ h_ => .inr h_)) (Kd.R_lt (by (with_reducible repeat (first | apply Kd.R_alloc | apply Kd.R_drewN | apply Kd.R_drew)); exact HO0.out))) (below_size (bB))); have n2_ := Aside0.mk (blk_below (g := gb110) (o := .cells #[.int .i64 a1_0, .int .i64 a1_1, .slice A1_2 l1_2.length c1_2] 24 (0, 0)) (bK) hb); have n3_ := Aside0.mk (Kept.below (S := (fun k_ => P0_ k_)) (kP) hb); have n4_ := Aside0.mk (below_step (bB) hb); clear HO0; clear BK110; clear HK; clear HB; have HO0 := n0_; have HO114 := n1_; have BK110 := n2_; have HK := n3_; have HB := n4_; clear n0_ n1_ n2_ n3_ n4_; clear hb ho15; obtain ⟨Ao17, co17, eo17⟩ := Kd.R_slice HO114.out; subst eo17) | ((with_reducible refine gate_builtin (b := .append) (xs := #[.tmp 36, .tmp 41]) rfl ?_); at_builtin; refine Kd.R_append_rows (Kd.int .u8) (w0 := w0) w0.heap.size rfl (.tmp 36) (.tmp 41) 43 5 (.int .u8 0) 1 rfl Try.underlying43 info5 rfl (by decide) (by omega) u9000_ l0 y112 _ _ _ (fun k_ => (P0_ k_ ∨ w.heap.size ≤ k_) ∧ some k_ ≠ (.slice Ao17 y112.length co17 : Value).ownBlock) (fun _ => False) rfl rfl ?aO ?aR (fun _ _ h => h) (fun _ h => h.elim) ?aF ?aB ?aS ?aL ?_; (case aR => repeat (first | exact (Kd.R_reads' HO114.out).2.2 | (with_reducible refine Kd.C_alloc ?_ _) | (with_reducible refine Kd.C_drewN ?_ _) | (with_reducible refine Kd.C_drew ?_))); (case aB => exact (bB)); (case aF => exact (fun k_ hk => ⟨(.inr (Nat.le_trans (by first | exact HK.out.1 | exact (show Kept w _ (fun k_ => P0_ k_) from kP).1) hk)), Kd.fresh' (Kd.R_lt (by (with_reducible repeat (first | apply Kd.R_alloc | apply Kd.R_drewN | apply Kd.R_drew)); exact HO114.out)) k_ hk⟩)); (case aO => exact (by (with_reducible repeat (first | apply Kd.R_alloc | apply Kd.R_drewN | apply Kd.R_drew)); exact HO0.out)); (case aS => exact (below_size (bB))); (case aL => have := LMc12.out; omega); intro v116 w16 ho hb hg hat; rw [← Ny115.out] at ho; have n0_ := Aside0.mk (blk_grown (g := gb110) (o := .cells #[.int .i64 a1_0, .int .i64 a1_1, .slice A1_2 l1_2.length c1_2] 24 (0, 0)) (bK) hg (Kd.R_ne HO0.out BK110.out (by decide))); have n1_ := Aside0.mk (Kd.R_after (ok := (fun k_ => (P0_ k_ ∨ w.heap.size ≤ k_))) (by (with_reducible repeat (first | apply Kd.R_alloc | apply Kd.R_drewN | apply Kd.R_drew)); exact Kd.R_mono HO114.out (fun _ hk => ⟨hk.1.1, hk.2⟩)) hg hat); have n2_ := Aside0.mk (hb); have n3_ := Aside0.mk (Kept.of_grown (S := (fun k_ => P0_ k_)) hg (kP) (fun k_ e_ => (HO0.out.1 k_ e_).1)); have n4_ := Aside0.mk (ho); clear BK110; clear HO114; clear HB; clear HK; clear HO0; have BK110 := n0_; have HO114 := n1_; have HB := n2_; have HK := n3_; have HO117 := n4_; clear n0_ n1_ n2_ n3_ n4_; clear ho hb hg hat))
       go_ret
       exact ⟨_, by first | rfl | (simp [errW_none, errW_some] <;> rfl) | (simp [*, errW_none, errW_some] <;> rfl), by (with_reducible repeat (first | apply Kd.R_alloc | apply Kd.R_drewN | apply Kd.R_drew)); exact Kd.R_mono HO117.out (fun _ hk => hk.1), bB, kP⟩
      ·rw [if_neg c12] at H
       exact absurd H (by simp)
     ·rw [if_neg c11] at H
      have c11b0 : (a1_0 == 3) = false := beq_eq_false_iff_ne.mpr c11
      have c11b1 : (a1_0 != 3) = true := bne_iff_ne.mpr c11
      by_cases c18 : a1_0 = 8
      ·rw [if_pos c18] at H
       have c18b0 : (a1_0 == 8) = true := beq_iff_eq.mpr c18
       have c18b1 : (a1_0 != 8) = false := bne_eq_false_iff_eq.mpr c18
       clear c18
       obtain ⟨y118, hy118⟩ : ∃ y_ : List Int, y_ = (([33] : List Int)) := ⟨_, rfl⟩
       replace H : (if l0.length + y118.length < 140737488355328 then (if 0 < (l1_2.length : Int) then ((expr_text.f k (l0 ++ y118) ((rd_T24 l1_2 0).f0) ((rd_T24 l1_2 0).f1) ((rd_T24 l1_2 0).f2) 4).bind fun t125 => (some t125)) else (none)) else (none)) = some r := by first | (rw [hy118]; with_reducible exact H) | (have H2_ := (Option.bind_some _ _).symm.trans H; rw [hy118]; with_reducible exact H2_) | (have H2_ := (Option.bind_some _ _).symm.trans H; with_reducible exact H2_) | with_reducible exact H | (rw [hy118]; exact H) | exact H
       have Ny118 := Aside0.mk hy118
       clear hy118
       by_cases c19 : l0.length + y118.length < 140737488355328
       ·rw [if_pos c19] at H
        have LMc19 := Aside0.mk c19
        clear c19
        obtain ⟨y121, hy121⟩ : ∃ y_ : List Int, y_ = (l0 ++ y118) := ⟨_, rfl⟩
        replace H : (if 0 < (l1_2.length : Int) then ((expr_text.f k y121 ((rd_T24 l1_2 0).f0) ((rd_T24 l1_2 0).f1) ((rd_T24 l1_2 0).f2) 4).bind fun t125 => (some t125)) else (none)) = some r := by first | (rw [hy121]; with_reducible exact H) | (have H2_ := (Option.bind_some _ _).symm.trans H; rw [hy121]; with_reducible exact H2_) | (have H2_ := (Option.bind_some _ _).symm.trans H; with_reducible exact H2_) | with_reducible exact H | (rw [hy121]; exact H) | exact H
        have Ny121 := Aside0.mk hy121
        clear hy121
        by_cases c20 : 0 < (l1_2.length : Int)
        ·rw [if_pos c20] at H
         have c20b0 : decide (0 < (l1_2.length : Int)) = true := decide_eq_true c20
         have c20b1 : decide (0 < l1_2.length) = true := decide_eq_true (by omega)
         clear c20
         replace H := Option.bind_eq_some_iff.mp H
         obtain ⟨t125, A210, H⟩ := H
         replace H : (some t125) = some r := H
         have A21 := Aside0.mk A210
         clear A210
         obtain rfl := Option.some.inj H
         try go_wp2
         (try (rw [drewN_self w7]; generalize hq_ : World.drewN w7 _ = w7; have n0_ : Aside0 (Kd.R (Kd.int .u8) 5 w7 w0.heap.size (fun k_ => (P0_ k_ ∨ w.heap.size ≤ k_)) u9000_ l0) := ⟨by rw [← hq_]; exact (by (with_reducible repeat (first | apply Kd.R_alloc | apply Kd.R_drewN | apply Kd.R_drew)); exact HO0.out)⟩; have n1_ : Aside0 (w7.heap[gb110]? = some (.cells #[.int .i64 a1_0, .int .i64 a1_1, .slice A1_2 l1_2.length c1_2] 24 (0, 0))) := ⟨by rw [← hq_]; exact (bK)⟩; have n2_ : Aside0 (Kept w w7 (fun k_ => P0_ k_)) := ⟨by rw [← hq_]; exact (kP)⟩; have n3_ : Aside0 (Below w0.heap.size w0 w7) := ⟨by rw [← hq_]; exact (bB)⟩; clear HO0 BK110 HK HB hq_; have HO0 := n0_; have BK110 := n1_; have HK := n2_; have HB := n3_; clear n0_ n1_ n2_ n3_))
         have n0_ := Aside0.mk (Kd.R_drew HO0.out)
         have n1_ := Aside0.mk (blk_drew BK110.out)
         have n2_ := Aside0.mk (Kept.drew HK.out)
         have n3_ := Aside0.mk (below_drew1 HB.out)
         clear HO0
         clear BK110
         clear HK
         clear HB
         have HO0 := n0_
         have BK110 := n1_
         have HK := n2_
         have HB := n3_
         clear n0_ n1_ n2_ n3_
         have p124 : 0 ≤ (0 : Int) := (by omega)
         have q124 : 0 < (l1_2.length : Int) := of_decide_eq_true (by first | (with_reducible assumption) | assumption)
         obtain ⟨ad124, A124_2, c124_2, e124, hx124_0, hx124_1, hx124_2, hl124_2, hi124_2⟩ := at_T24 (Kd.C_kept_now HR1_2.out HK.out) 0 p124 q124
         have hw124_2 := hx124_2
         (try rw [show ((0 : Int)).toNat = 0 from rfl] at hw124_2)
         (try rw [show 0 * 3 = 0 from rfl] at hw124_2)
         (try rw [Addr.add_zero'] at hw124_2)
         have hw124_1 := hx124_1
         (try rw [show ((0 : Int)).toNat = 0 from rfl] at hw124_1)
         (try rw [show 0 * 3 = 0 from rfl] at hw124_1)
         (try rw [Addr.add_zero'] at hw124_1)
         have hw124_0 := hx124_0
         (try rw [show ((0 : Int)).toNat = 0 from rfl] at hw124_0)
         (try rw [show 0 * 3 = 0 from rfl] at hw124_0)
         (try rw [Addr.add_zero'] at hw124_0)
         have hF124_2 := fun W' hk' => (by obtain ⟨ad', A'_2, c'_2, e', hx'_0, hx'_1, hx'_2, hl'_2, hi'_2⟩ := at_T24 (HR1_2.out W' hk') 0 p124 q124; obtain rfl := Option.some.inj (e124.symm.trans e'); have z_ := Option.some.inj (hx'_2.symm.trans (FootX.cellS (e124 ▸ HR1_2.out) (by have h1_ := p124; have h2_ := q124; omega) (by decide) HK.out (by first | rfl | exact add_block _ _ | (show (Addr.add _ _).block = _; exact add_block _ _)) hx124_2 hk')); injection z_ with z1_ z2_ z3_; rw [← z1_]; exact hi'_2 : Kd.C k24 W' A124_2 _ ((rd_T24 l1_2 0).f2))
         cases e124
         have qi124 : (0 < l1_2.length) = True := eq_true (by omega)
         (try rw [show ((0 : Int)).toNat = 0 from rfl] at hx124_0)
         (try rw [show 0 * 3 = 0 from rfl] at hx124_0)
         (try rw [Addr.add_zero'] at hx124_0)
         (try rw [show ((0 : Int)).toNat = 0 from rfl] at hx124_1)
         (try rw [show 0 * 3 = 0 from rfl] at hx124_1)
         (try rw [Addr.add_zero'] at hx124_1)
         (try rw [show ((0 : Int)).toNat = 0 from rfl] at hx124_2)
         (try rw [show 0 * 3 = 0 from rfl] at hx124_2)
         (try rw [Addr.add_zero'] at hx124_2)
         have HR124_2 := Aside0.mk hF124_2
         clear hF124_2
         have HC124_2 := Aside0.mk hl124_2
         clear hi124_2 hl124_2
         replace p124 := eq_true p124
         replace q124 := eq_true q124
         have hg124_0 := fun W' hk' => FootX.cellS (W' := W') HR1_2.out (by have h1_ := of_eq_true p124; have h2_ := of_eq_true q124; omega) (by decide) HK.out (by first | rfl | exact add_block _ _ | (show (Addr.add _ _).block = _; exact add_block _ _)) hw124_0 hk'
         have hg124_1 := fun W' hk' => FootX.cellS (W' := W') HR1_2.out (by have h1_ := of_eq_true p124; have h2_ := of_eq_true q124; omega) (by decide) HK.out (by first | rfl | exact add_block _ _ | (show (Addr.add _ _).block = _; exact add_block _ _)) hw124_1 hk'
         have hg124_2 := fun W' hk' => FootX.cellS (W' := W') HR1_2.out (by have h1_ := of_eq_true p124; have h2_ := of_eq_true q124; omega) (by decide) HK.out (by first | rfl | exact add_block _ _ | (show (Addr.add _ _).block = _; exact add_block _ _)) hw124_2 hk'
         refine start_ (n := 9) (S := fun w' => w'.cell? ⟨gb110, 0, none⟩ = some (.int .i64 a1_0) ∧ w'.cell? ⟨gb110, 1, none⟩ = some (.int .i64 a1_1) ∧ w'.cell? ⟨gb110, 2, none⟩ = some (.slice (some ad124) l1_2.length c1_2) ∧ w'.cell? ad124 = some (.int .i64 ((rd_T24 l1_2 0).f0)) ∧ w'.cell? ⟨ad124.block, ad124.off + 1, none⟩ = some (.int .i64 ((rd_T24 l1_2 0).f1)) ∧ w'.cell? ⟨ad124.block, ad124.off + 2, none⟩ = some (.slice A124_2 ((rd_T24 l1_2 0).f2).length c124_2)) (ds := []) #[false, false, false, false, false, false, false, false, false] (by kernel_rfl) rfl rfl ⟨(blk_cell BK110.out 0).trans rfl, (blk_cell BK110.out 1).trans rfl, (blk_cell BK110.out 2).trans rfl, (hg124_0 _ (by repeat (first | exact HK.out | apply Kept.alloc | apply Kept.drewN | apply Kept.drew))), (hg124_1 _ (by repeat (first | exact HK.out | apply Kept.alloc | apply Kept.drewN | apply Kept.drew))), (hg124_2 _ (by repeat (first | exact HK.out | apply Kept.alloc | apply Kept.drewN | apply Kept.drew)))⟩ (fun hHeld => ?_); refine with_tabW expr_text.tab12 expr_text.bits12 (fun HT_ HW_ => ?_)
         generalize w7.drew = w22 at HO0 BK110 HK HB HR124_2 hx124_0 hx124_1 hx124_2 hHeld ⊢
         refine pure_ (i := 0) (N := some 45) (v := ?_) (a' := ?_) #[true, false, false, false, false, false, false, false, false] rfl rfl (any_of HT_.out (by kernel_rfl)) (fun _ _ _ h => h) (Or.inl ⟨by rfl, ?_⟩) ?_ ?_
         rotate_left
         ·intro w'
          go_simp
          with_reducible rfl
         rotate_left
         ·simp only [Act.put, List.setIfInBounds_toArray, List.set_cons_zero, List.set_cons_succ, i64_w, i32_w]
          rfl
         refine pure_ (i := 3) (N := some 48) (v := ?_) (a' := ?_) #[true, false, false, true, false, false, false, false, false] rfl rfl (any_of HT_.out (by kernel_rfl)) (fun _ _ _ h => h) (Or.inl ⟨by rfl, ?_⟩) ?_ ?_
         rotate_left
         ·intro w'
          go_simp
          with_reducible rfl
         rotate_left
         ·simp only [Act.put, List.setIfInBounds_toArray, List.set_cons_zero, List.set_cons_succ, i64_w, i32_w]
          rfl
         refine take_ (i := 4) (N := some 49) (v := ?_) (a' := ?_) #[true, false, false, true, true, false, false, false, false] rfl rfl (take_ofW HT_.out HW_.out (by kernel_rfl)) (fun _ _ _ h => h) (Or.inl ⟨by rfl, ?_⟩) hHeld ?_ ?_
         rotate_left
         ·rintro w' ⟨s0, s1, s2, s3, s4, s5⟩
          go_simp
          with_reducible rfl
         rotate_left
         ·simp only [Act.put, List.setIfInBounds_toArray, List.set_cons_zero, List.set_cons_succ, i64_w, i32_w]
          rfl
         refine pure_ (i := 5) (N := some 50) (v := ?_) (a' := ?_) #[true, false, false, true, true, true, false, false, false] rfl rfl (any_of HT_.out (by kernel_rfl)) (fun _ _ _ h => h) (Or.inl ⟨by rfl, ?_⟩) ?_ ?_
         rotate_left
         ·intro w'
          go_simp
          with_reducible rfl
         rotate_left
         ·simp only [Act.put, List.setIfInBounds_toArray, List.set_cons_zero, List.set_cons_succ, i64_w, i32_w]
          rfl
         refine take_ (i := 6) (N := some 51) (v := ?_) (a' := ?_) #[true, false, false, true, true, true, true, false, false] rfl rfl (take_ofW HT_.out HW_.out (by kernel_rfl)) (fun _ _ _ h => h) (Or.inl ⟨by rfl, ?_⟩) hHeld ?_ ?_
         rotate_left
         ·rintro w' ⟨s0, s1, s2, s3, s4, s5⟩
          go_simp
          with_reducible rfl
         rotate_left
         ·simp only [Act.put, List.setIfInBounds_toArray, List.set_cons_zero, List.set_cons_succ, i64_w, i32_w]
          rfl
         refine one_ (i := 1) (N := some 46) #[true, true, false, true, true, true, true, false, false] rfl rfl (one_of HT_.out (by kernel_rfl)) (by decide) (fun K hK => ?_)
         refine Kd.R_lit_step (Kd.int .u8) _ 5 ?hg (N := 46) ?hd (xs := ([33] : List Int)) (inner := [.int .u8 33]) (ok := fun _ => True) (okp := fun _ => True) ?hr ?hp (fun _ hk => hk) trivial (Below.refl _ _) (Nat.le_refl _) (by simp) ?_; (case hd => rfl); (case hg => rfl); (case hr => first | (go_simp; done) | (go_simp; rfl)); (case hp => exact (Reps.one (show Kd.M (Kd.int .u8) _ _ _ 33 [.int .u8 33] from rfl) (Reps.none _ _)))
         intro v119 w23 ho24 hb hg_ hnew_
         clear hg_ hnew_
         (first | rw [← Ny118.out] at ho24 | (simp only [Int.reduceToNat] at ho24; rw [← Ny118.out] at ho24))
         have n0_ := Aside0.mk (Kd.R_elder' (by (with_reducible repeat (first | apply Kd.R_alloc | apply Kd.R_drewN | apply Kd.R_drew)); exact HO0.out) (Kd.R_base ho24) hb)
         have n1_ := Aside0.mk (Kd.R_lower (Kd.R_new' (Kd.R_newM (M := fun k_ => (P0_ k_ ∨ w.heap.size ≤ k_)) ho24 (by first | exact HK.out.1 | exact (show Kept w _ (fun k_ => P0_ k_) from kP).1) (fun k_ h_ => .inr h_)) (Kd.R_lt (by (with_reducible repeat (first | apply Kd.R_alloc | apply Kd.R_drewN | apply Kd.R_drew)); exact HO0.out))) (below_size (bB)))
         have n2_ := Aside0.mk (blk_below (g := gb110) (o := .cells #[.int .i64 a1_0, .int .i64 a1_1, .slice (some ad124) l1_2.length c1_2] 24 (0, 0)) (bK) hb)
         have n3_ := Aside0.mk (Kept.below (S := (fun k_ => P0_ k_)) (kP) hb)
         have n4_ := Aside0.mk (below_step (bB) hb)
         clear HO0
         clear BK110
         clear HK
         clear HB
         have HO0 := n0_
         have HO120 := n1_
         have BK110 := n2_
         have HK := n3_
         have HB := n4_
         clear n0_ n1_ n2_ n3_ n4_
         clear hb ho24
         obtain ⟨Ao26, co26, eo26⟩ := Kd.R_slice HO120.out
         (first | subst eo26 | (injection eo26 with f1_ f2_ f3_; have f4_ := f1_.symm; have f5_ := f3_.symm; clear f1_ f2_ f3_; subst f4_; subst f5_))
         refine hK.out _ _ ⟨(blk_cell BK110.out 0).trans rfl, (blk_cell BK110.out 1).trans rfl, (blk_cell BK110.out 2).trans rfl, (hg124_0 _ (by repeat (first | exact HK.out | apply Kept.alloc | apply Kept.drewN | apply Kept.drew))), (hg124_1 _ (by repeat (first | exact HK.out | apply Kept.alloc | apply Kept.drewN | apply Kept.drew))), (hg124_2 _ (by repeat (first | exact HK.out | apply Kept.alloc | apply Kept.drewN | apply Kept.drew)))⟩ (fun hHeld => ?_)
         clear hK K
         refine norm_ (a' := ?_) ?_ ?_
         rotate_left
         ·show Act.put _ (some 46) _ = _
          simp only [Act.put, List.setIfInBounds_toArray, List.set_cons_zero, List.set_cons_succ, i64_w, i32_w]
          rfl
         refine one_ (i := 2) (N := some 47) #[true, true, true, true, true, true, true, false, false] rfl rfl (one_of HT_.out (by kernel_rfl)) (by decide) (fun K hK => ?_)
         refine Kd.R_append_rows_step (Kd.int .u8) (w0 := w0) w0.heap.size (by rfl) (.tmp 45) (.tmp 46) 43 5 (.int .u8 0) 1 rfl Try.underlying43 info5 rfl (by decide) (by omega) u9000_ l0 y118 _ _ _ (fun k_ => (P0_ k_ ∨ w.heap.size ≤ k_) ∧ some k_ ≠ (.slice Ao26 y118.length co26 : Value).ownBlock) (fun _ => False) rfl rfl ?aO ?aR (fun _ _ h => h) (fun _ h => h.elim) ?aF ?aB ?aS ?aL ?_
         (case aR => repeat (first | exact (Kd.R_reads' HO120.out).2.2 | (with_reducible refine Kd.C_alloc ?_ _) | (with_reducible refine Kd.C_drewN ?_ _) | (with_reducible refine Kd.C_drew ?_)))
         (case aB => exact (bB))
         (case aF => exact (fun k_ hk => ⟨(.inr (Nat.le_trans (by first | exact HK.out.1 | exact (show Kept w _ (fun k_ => P0_ k_) from kP).1) hk)), Kd.fresh' (Kd.R_lt (by (with_reducible repeat (first | apply Kd.R_alloc | apply Kd.R_drewN | apply Kd.R_drew)); exact HO120.out)) k_ hk⟩))
         (case aO => exact (by (with_reducible repeat (first | apply Kd.R_alloc | apply Kd.R_drewN | apply Kd.R_drew)); exact HO0.out))
         (case aS => exact (below_size (bB)))
         (case aL => have := LMc19.out; omega)
         intro v122 w25 ho hb hg hat
         rw [← Ny121.out] at ho
         have n0_ := Aside0.mk (blk_grown (g := gb110) (o := .cells #[.int .i64 a1_0, .int .i64 a1_1, .slice (some ad124) l1_2.length c1_2] 24 (0, 0)) (bK) hg (Kd.R_ne HO0.out BK110.out (by decide)))
         have n1_ := Aside0.mk (Kd.R_after (ok := (fun k_ => (P0_ k_ ∨ w.heap.size ≤ k_))) (by (with_reducible repeat (first | apply Kd.R_alloc | apply Kd.R_drewN | apply Kd.R_drew)); exact Kd.R_mono HO120.out (fun _ hk => ⟨hk.1.1, hk.2⟩)) hg hat)
         have n2_ := Aside0.mk (hb)
         have n3_ := Aside0.mk (Kept.of_grown (S := (fun k_ => P0_ k_)) hg (kP) (fun k_ e_ => (HO0.out.1 k_ e_).1))
         have n4_ := Aside0.mk (ho)
         clear BK110
         clear HO120
         clear HB
         clear HK
         clear HO0
         have BK110 := n0_
         have HO120 := n1_
         have HB := n2_
         have HK := n3_
         have HO123 := n4_
         clear n0_ n1_ n2_ n3_ n4_
         clear ho hb hg hat
         obtain ⟨Ao27, co27, eo27⟩ := Kd.R_slice HO123.out
         (first | subst eo27 | (injection eo27 with f1_ f2_ f3_; have f4_ := f1_.symm; have f5_ := f3_.symm; clear f1_ f2_ f3_; subst f4_; subst f5_))
         refine hK.out _ _ ⟨(blk_cell BK110.out 0).trans rfl, (blk_cell BK110.out 1).trans rfl, (blk_cell BK110.out 2).trans rfl, (hg124_0 _ (by repeat (first | exact HK.out | apply Kept.alloc | apply Kept.drewN | apply Kept.drew))), (hg124_1 _ (by repeat (first | exact HK.out | apply Kept.alloc | apply Kept.drewN | apply Kept.drew))), (hg124_2 _ (by repeat (first | exact HK.out | apply Kept.alloc | apply Kept.drewN | apply Kept.drew)))⟩ (fun hHeld => ?_)
         clear hK K
         refine norm_ (a' := ?_) ?_ ?_
         rotate_left
         ·show Act.put _ (some 47) _ = _
          simp only [Act.put, List.setIfInBounds_toArray, List.set_cons_zero, List.set_cons_succ, i64_w, i32_w]
          rfl
         refine one_ (i := 7) (N := some 52) #[true, true, true, true, true, true, true, true, false] rfl rfl (one_of HT_.out (by kernel_rfl)) (by decide) (fun K hK => ?_)
         refine goes_ Try.func47 (by kernel_rfl) rfl #[.slice Ao27 y121.length co27, .agg #[.int .i64 ((rd_T24 l1_2 0).f0), .int .i64 ((rd_T24 l1_2 0).f1), .slice A124_2 ((rd_T24 l1_2 0).f2).length c124_2], .int .i64 4] (by rfl) rfl rfl (by (try simp only [List.map_toArray, List.map_cons, List.map_nil]); first | done | rfl | (simp only [List.length_drop, List.length_take]; rfl)) ?_
         with_reducible refine (ih k (by omega) (fun k_ => some k_ = (.slice Ao27 y121.length co27 : Value).ownBlock) (.slice Ao27 y121.length co27) y121 ((rd_T24 l1_2 0).f0) ((rd_T24 l1_2 0).f1) _ _ ((rd_T24 l1_2 0).f2) 4 t125 w0 _ ?side1 ?side2 ?side3 ?side4 A21.out).mono ?_
         (case side1 => repeat (first | (with_reducible first | exact HB.out | apply below_alloc | apply pw_below_drewN | apply below_drew1 | refine below_set ?_ GE110.out) | exact HB.out))
         (case side2 => exact Kd.R_tight rfl HO123.out)
         (case side3 => exact Kd.C_kept_call HR124_2.out (kP) (fun k_ hs_ => (fun e_ => (HO123.out.1 k_ e_.symm).1) hs_))
         (case side4 => exact HC124_2.out)
         rintro e w28 ⟨v126, rfl, ho0, hb, hkp⟩
         refine ⟨_, rfl, ?_⟩
         have n0_ := Aside0.mk (blk_kept (bK) hkp (fun hs_ => (fun e_ => (Kd.R_ne HO123.out BK110.out (by decide)) e_) hs_))
         have n1_ := Aside0.mk (Kd.R_mono (ok' := fun k_ => (P0_ k_ ∨ w.heap.size ≤ k_) ∧ some k_ ≠ (v126 : Value).ownBlock) (Kd.R_keptB (HO120.out) hkp (fun k_ hk_ hs_ => (hk_.2) hs_)) (fun k_ hk_ => ⟨hk_.1.1, fun e_ => Or.elim (ho0.1 k_ e_.symm) (fun hs_ => hk_.2.1 hs_) (fun hn_ => Nat.not_le.2 hk_.2.2 hn_)⟩))
         have n2_ := Aside0.mk (Kd.R_mono (ok' := fun k_ => (P0_ k_ ∨ w.heap.size ≤ k_) ∧ some k_ ≠ (.slice Ao26 y118.length co26 : Value).ownBlock) ho0 (fun k_ hk_ => ⟨Or.elim hk_ (fun hs_ => (HO123.out.1 k_ (hs_).symm).1) (fun hn_ => (.inr (Nat.le_trans (by first | exact HK.out.1 | exact (show Kept w _ (fun k_ => P0_ k_) from kP).1) hn_))), Or.elim hk_ (fun hs_ => fun e_ => (((HO120.out).1 k_ e_.symm).2) hs_) (fun hn_ => (Kd.fresh' (Kd.R_lt (by (with_reducible repeat (first | apply Kd.R_alloc | apply Kd.R_drewN | apply Kd.R_drew)); exact HO120.out)) k_ hn_))⟩))
         have n3_ := Aside0.mk (Kept.then_ (S := (fun k_ => P0_ k_)) (kP) hkp (fun k_ hs_ => (fun e_ => (HO123.out.1 k_ e_.symm).1) hs_))
         have n4_ := Aside0.mk (hb)
         clear BK110
         clear HO120
         clear HK
         clear HB
         clear HO123
         have BK110 := n0_
         have HO120 := n1_
         have HO127 := n2_
         have HK := n3_
         have HB := n4_
         clear n0_ n1_ n2_ n3_ n4_
         (try clear hb)
         (try clear hkp)
         (try clear ho0)
         refine hK.out _ _ ⟨(blk_cell BK110.out 0).trans rfl, (blk_cell BK110.out 1).trans rfl, (blk_cell BK110.out 2).trans rfl, (hg124_0 _ (by repeat (first | exact HK.out | apply Kept.alloc | apply Kept.drewN | apply Kept.drew))), (hg124_1 _ (by repeat (first | exact HK.out | apply Kept.alloc | apply Kept.drewN | apply Kept.drew))), (hg124_2 _ (by repeat (first | exact HK.out | apply Kept.alloc | apply Kept.drewN | apply Kept.drew)))⟩ (fun hHeld => ?_)
         clear hK K
         refine norm_ (a' := ?_) ?_ ?_
         rotate_left
         ·show Act.put _ (some 52) _ = _
          simp only [Act.put, List.setIfInBounds_toArray, List.set_cons_zero, List.set_cons_succ, i64_w, i32_w]
          rfl
         refine pure_ (i := 8) (N := some 6) (v := ?_) (a' := ?_) #[true, true, true, true, true, true, true, true, true] rfl rfl (any_of HT_.out (by kernel_rfl)) (fun _ _ _ h => h) (Or.inl ⟨by rfl, ?_⟩) ?_ ?_
         rotate_left
         ·intro w'
          go_simp
          with_reducible rfl
         rotate_left
         ·simp only [Act.put, List.setIfInBounds_toArray, List.set_cons_zero, List.set_cons_succ, i64_w, i32_w]
          rfl
         refine done_ (done_of HT_.out (by kernel_rfl)) ?_
         try go_wp2
         go_ret
         exact ⟨_, by first | rfl | (simp [errW_none, errW_some] <;> rfl) | (simp [*, errW_none, errW_some] <;> rfl), by (with_reducible repeat (first | apply Kd.R_alloc | apply Kd.R_drewN | apply Kd.R_drew)); exact Kd.R_mono HO127.out (fun _ hk => hk.1), bB, kP⟩
        ·rw [if_neg c20] at H
         exact absurd H (by simp)
       ·rw [if_neg c19] at H
        exact absurd H (by simp)
      ·rw [if_neg c18] at H
       have c18b0 : (a1_0 == 8) = false := beq_eq_false_iff_ne.mpr c18
       have c18b1 : (a1_0 != 8) = true := bne_iff_ne.mpr c18
       by_cases c29 : a1_0 = 7
       ·rw [if_pos c29] at H
        have c29b0 : (a1_0 == 7) = true := beq_iff_eq.mpr c29
        have c29b1 : (a1_0 != 7) = false := bne_eq_false_iff_eq.mpr c29
        clear c29
        by_cases c30 : 0 < (l1_2.length : Int)
        ·rw [if_pos c30] at H
         have c30b0 : decide (0 < (l1_2.length : Int)) = true := decide_eq_true c30
         have c30b1 : decide (0 < l1_2.length) = true := decide_eq_true (by omega)
         clear c30
         replace H := Option.bind_eq_some_iff.mp H
         obtain ⟨t129, A310, H⟩ := H
         replace H : ((some (([42] : List Int) : List Int)).bind fun y132 => (if t129.length + y132.length < 140737488355328 then (some (t129 ++ y132)) else (none))) = some r := H
         have A31 := Aside0.mk A310
         clear A310
         obtain ⟨y132, hy132⟩ : ∃ y_ : List Int, y_ = (([42] : List Int)) := ⟨_, rfl⟩
         replace H : (if t129.length + y132.length < 140737488355328 then (some (t129 ++ y132)) else (none)) = some r := by first | (rw [hy132]; with_reducible exact H) | (have H2_ := (Option.bind_some _ _).symm.trans H; rw [hy132]; with_reducible exact H2_) | (have H2_ := (Option.bind_some _ _).symm.trans H; with_reducible exact H2_) | with_reducible exact H | (rw [hy132]; exact H) | exact H
         have Ny132 := Aside0.mk hy132
         clear hy132
         by_cases c32 : t129.length + y132.length < 140737488355328
         ·rw [if_pos c32] at H
          have LMc32 := Aside0.mk c32
          clear c32
          obtain ⟨y135, hy135⟩ : ∃ y_ : List Int, y_ = (t129 ++ y132) := ⟨_, rfl⟩
          replace H : (some y135) = some r := by first | (rw [hy135]; with_reducible exact H) | (have H2_ := (Option.bind_some _ _).symm.trans H; rw [hy135]; with_reducible exact H2_) | (have H2_ := (Option.bind_some _ _).symm.trans H; with_reducible exact H2_) | with_reducible exact H | (rw [hy135]; exact H) | exact H
          have Ny135 := Aside0.mk hy135
          clear hy135
          obtain rfl := Option.some.inj H
          have hcz33_0 : w7.cell? ⟨gb110, 0, none⟩ = some (.int .i64 a1_0) := (blk_cell BK110.out 0).trans rfl
          have hcz33_1 : w7.cell? ⟨gb110, 1, none⟩ = some (.int .i64 a1_1) := (blk_cell BK110.out 1).trans rfl
          have hcz33_2 : w7.cell? ⟨gb110, 2, none⟩ = some (.slice A1_2 l1_2.length c1_2) := (blk_cell BK110.out 2).trans rfl
          have hfz33_0 := blk_frozen BK110.out 0
          have hfz33_1 := blk_frozen BK110.out 1
          have hfz33_2 := blk_frozen BK110.out 2
          have p128 : 0 ≤ (0 : Int) := (by omega)
          have q128 : 0 < (l1_2.length : Int) := of_decide_eq_true (by first | (with_reducible assumption) | assumption)
          obtain ⟨ad128, A128_2, c128_2, e128, hx128_0, hx128_1, hx128_2, hl128_2, hi128_2⟩ := at_T24 (Kd.C_kept_now HR1_2.out HK.out) 0 p128 q128
          have hF128_2 := fun W' hk' => (by obtain ⟨ad', A'_2, c'_2, e', hx'_0, hx'_1, hx'_2, hl'_2, hi'_2⟩ := at_T24 (HR1_2.out W' hk') 0 p128 q128; obtain rfl := Option.some.inj (e128.symm.trans e'); have z_ := Option.some.inj (hx'_2.symm.trans (FootX.cellS (e128 ▸ HR1_2.out) (by have h1_ := p128; have h2_ := q128; omega) (by decide) HK.out (by first | rfl | exact add_block _ _ | (show (Addr.add _ _).block = _; exact add_block _ _)) hx128_2 hk')); injection z_ with z1_ z2_ z3_; rw [← z1_]; exact hi'_2 : Kd.C k24 W' A128_2 _ ((rd_T24 l1_2 0).f2))
          cases e128
          have qi128 : (0 < l1_2.length) = True := eq_true (by omega)
          (try rw [show ((0 : Int)).toNat = 0 from rfl] at hx128_0)
          (try rw [show 0 * 3 = 0 from rfl] at hx128_0)
          (try rw [Addr.add_zero'] at hx128_0)
          (try rw [show ((0 : Int)).toNat = 0 from rfl] at hx128_1)
          (try rw [show 0 * 3 = 0 from rfl] at hx128_1)
          (try rw [Addr.add_zero'] at hx128_1)
          (try rw [show ((0 : Int)).toNat = 0 from rfl] at hx128_2)
          (try rw [show 0 * 3 = 0 from rfl] at hx128_2)
          (try rw [Addr.add_zero'] at hx128_2)
          have HR128_2 := Aside0.mk hF128_2
          clear hF128_2
          have HC128_2 := Aside0.mk hl128_2
          clear hi128_2 hl128_2
          replace p128 := eq_true p128
          replace q128 := eq_true q128
          obtain ⟨Ao34, co34, eo34⟩ := Kd.R_slice HO0.out
          subst eo34
          go_wp2_with (first | ((with_reducible refine gate_callee (f := 47) rfl ?_); refine goesL_ (some 60) rfl rfl Try.func47 (by kernel_rfl) rfl #[.slice Ao34 l0.length co34, .agg #[.int .i64 ((rd_T24 l1_2 0).f0), .int .i64 ((rd_T24 l1_2 0).f1), .slice A128_2 ((rd_T24 l1_2 0).f2).length c128_2], .int .i64 5] rfl (by (try simp only [List.map_toArray, List.map_cons, List.map_nil]); first | done | rfl | (simp only [List.length_drop, List.length_take]; rfl) | (simp only [Int.ofNat_lt, Int.ofNat_le]; rfl)) ?_; (with_reducible refine (ih k (by omega) (fun k_ => some k_ = (.slice Ao34 l0.length co34 : Value).ownBlock) (.slice Ao34 l0.length co34) l0 ((rd_T24 l1_2 0).f0) ((rd_T24 l1_2 0).f1) _ _ ((rd_T24 l1_2 0).f2) 5 t129 w0 _ ?side1 ?side2 ?side3 ?side4 A31.out).mono ?_); (case side1 => repeat (first | (with_reducible first | exact HB.out | apply below_alloc | apply pw_below_drewN | apply below_drew1 | refine below_set ?_ GE110.out) | exact HB.out)); (case side2 => exact Kd.R_tight rfl HO0.out); (case side3 => exact Kd.C_kept_call HR128_2.out (kP) (fun k_ hs_ => (fun e_ => (HO0.out.1 k_ e_.symm)) hs_)); (case side4 => exact HC128_2.out); rintro e w35 ⟨v130, rfl, ho0, hb, hkp⟩; refine ⟨_, rfl, ?_⟩; have n0_ := Aside0.mk (blk_kept (bK) hkp (fun hs_ => (fun e_ => (Kd.R_ne HO0.out BK110.out (by decide)) e_) hs_)); have n1_ := Aside0.mk (Kd.R_mono (ok' := fun k_ => (P0_ k_ ∨ w.heap.size ≤ k_)) ho0 (fun k_ hk_ => Or.elim hk_ (fun hs_ => (HO0.out.1 k_ (hs_).symm)) (fun hn_ => (.inr (Nat.le_trans (by first | exact HK.out.1 | exact (show Kept w _ (fun k_ => P0_ k_) from kP).1) hn_))))); have n2_ := Aside0.mk (Kept.then_ (S := (fun k_ => P0_ k_)) (kP) hkp (fun k_ hs_ => (fun e_ => (HO0.out.1 k_ e_.symm)) hs_)); have n3_ := Aside0.mk (hb); clear BK110; clear HK; clear HB; clear HO0; have BK110 := n0_; have HO131 := n1_; have HK := n2_; have HB := n3_; clear n0_ n1_ n2_ n3_; (try clear hb); (try clear hkp); (try clear ho0)) | ((with_reducible refine gate_dst (N := 61) rfl ?_); refine Kd.R_lit (Kd.int .u8) _ 5 ?hg (N := 61) ?hd (xs := ([42] : List Int)) (inner := [.int .u8 42]) (ok := fun _ => True) (okp := fun _ => True) ?hr ?hp (fun _ hk => hk) trivial (Below.refl _ _) (Nat.le_refl _) (by simp) ?_; (case hd => rfl); (case hg => rfl); (case hr => first | (go_simp; done) | (go_simp; rfl)); (case hp => exact (Reps.one (show Kd.M (Kd.int .u8) _ _ _ 42 [.int .u8 42] from rfl) (Reps.none _ _))); intro v133 w36 ho37 hb hg_ hnew_; clear hg_ hnew_; (first | rw [← Ny132.out] at ho37 | (simp only [Int.reduceToNat] at ho37; rw [← Ny132.out] at ho37)); have n0_ := Aside0.mk (Kd.R_elder' (by (with_reducible repeat (first | apply Kd.R_alloc | apply Kd.R_drewN | apply Kd.R_drew)); exact HO131.out) (Kd.R_base ho37) hb); have n1_ := Aside0.mk (Kd.R_lower (Kd.R_new' (Kd.R_newM (M := fun k_ => (P0_ k_ ∨ w.heap.size ≤ k_)) ho37 (by first | exact HK.out.1 | exact (show Kept w _ (fun k_ => P0_ k_) from kP).1) (fun k_ h_ => .inr h_)) (Kd.R_lt (by (with_reducible repeat (first | apply Kd.R_alloc | apply Kd.R_drewN | apply Kd.R_drew)); exact HO131.out))) (below_size (bB))); have n2_ := Aside0.mk (blk_below (g := gb110) (o := .cells #[.int .i64 a1_0, .int .i64 a1_1, .slice (some ad128) l1_2.length c1_2] 24 (0, 0)) (bK) hb); have n3_ := Aside0.mk (Kept.below (S := (fun k_ => P0_ k_)) (kP) hb); have n4_ := Aside0.mk (below_step (bB) hb); clear HO131; clear BK110; clear HK; clear HB; have HO131 := n0_; have HO134 := n1_; have BK110 := n2_; have HK := n3_; have HB := n4_; clear n0_ n1_ n2_ n3_ n4_; clear hb ho37; obtain ⟨Ao39, co39, eo39⟩ := Kd.R_slice HO134.out; subst eo39) | ((with_reducible refine gate_builtin (b := .append) (xs := #[.tmp 60, .tmp 61]) rfl ?_); at_builtin; refine Kd.R_append_rows (Kd.int .u8) (w0 := w0) w0.heap.size rfl (.tmp 60) (.tmp 61) 43 5 (.int .u8 0) 1 rfl Try.underlying43 info5 rfl (by decide) (by omega) v130 t129 y132 _ _ _ (fun k_ => (P0_ k_ ∨ w.heap.size ≤ k_) ∧ some k_ ≠ (.slice Ao39 y132.length co39 : Value).ownBlock) (fun _ => False) rfl rfl ?aO ?aR (fun _ _ h => h) (fun _ h => h.elim) ?aF ?aB ?aS ?aL ?_; (case aR => repeat (first | exact (Kd.R_reads' HO134.out).2.2 | (with_reducible refine Kd.C_alloc ?_ _) | (with_reducible refine Kd.C_drewN ?_ _) | (with_reducible refine Kd.C_drew ?_))); (case aB => exact (bB)); (case aF => exact (fun k_ hk => ⟨(.inr (Nat.le_trans (by first | exact HK.out.1 | exact (show Kept w _ (fun k_ => P0_ k_) from kP).1) hk)), Kd.fresh' (Kd.R_lt (by (with_reducible repeat (first | apply Kd.R_alloc | apply Kd.R_drewN | apply Kd.R_drew)); exact HO134.out)) k_ hk⟩)); (case aO => exact (by (with_reducible repeat (first | apply Kd.R_alloc | apply Kd.R_drewN | apply Kd.R_drew)); exact HO131.out)); (case aS => exact (below_size (bB))); (case aL => have := LMc32.out; omega); intro v136 w38 ho hb hg hat; rw [← Ny135.out] at ho; have n0_ := Aside0.mk (blk_grown (g := gb110) (o := .cells #[.int .i64 a1_0, .int .i64 a1_1, .slice (some ad128) l1_2.length c1_2] 24 (0, 0)) (bK) hg (Kd.R_ne HO131.out BK110.out (by decide))); have n1_ := Aside0.mk (Kd.R_after (ok := (fun k_ => (P0_ k_ ∨ w.heap.size ≤ k_))) (by (with_reducible repeat (first | apply Kd.R_alloc | apply Kd.R_drewN | apply Kd.R_drew)); exact Kd.R_mono HO134.out (fun _ hk => ⟨hk.1.1, hk.2⟩)) hg hat); have n2_ := Aside0.mk (hb); have n3_ := Aside0.mk (Kept.of_grown (S := (fun k_ => P0_ k_)) hg (kP) (fun k_ e_ => (HO131.out.1 k_ e_).1)); have n4_ := Aside0.mk (ho); clear BK110; clear HO134; clear HB; clear HK; clear HO131; have BK110 := n0_; have HO134 := n1_; have HB := n2_; have HK := n3_; have HO137 := n4_; clear n0_ n1_ n2_ n3_ n4_; clear ho hb hg hat))
          go_ret
          exact ⟨_, by first | rfl | (simp [errW_none, errW_some] <;> rfl) | (simp [*, errW_none, errW_some] <;> rfl), by (with_reducible repeat (first | apply Kd.R_alloc | apply Kd.R_drewN | apply Kd.R_drew)); exact Kd.R_mono HO137.out (fun _ hk => hk.1), bB, kP⟩
         ·rw [if_neg c32] at H
          exact absurd H (by simp)
        ·rw [if_neg c30] at H
         exact absurd H (by simp)
       ·rw [if_neg c29] at H
        have c29b0 : (a1_0 == 7) = false := beq_eq_false_iff_ne.mpr c29
        have c29b1 : (a1_0 != 7) = true := bne_iff_ne.mpr c29
        by_cases c40 : a1_0 = 4
        ·rw [if_pos c40] at H
         have c40b0 : (a1_0 == 4) = true := beq_iff_eq.mpr c40
         have c40b1 : (a1_0 != 4) = false := bne_eq_false_iff_eq.mpr c40
         clear c40
         have H' := Aside0.mk H
         clear H
         go_wp2
         go_meet
         case rel => exact ⟨_, (124), (by first | rfl | (simp; done) | (simp [*]; done)), H', ⟨by first | omega | exact Nat.le_refl _⟩, ⟨by (with_reducible repeat (first | apply Kd.R_alloc | apply Kd.R_drewN | apply Kd.R_drew)); exact HO0.out⟩, ⟨bK⟩, ⟨kP⟩, ⟨bB⟩⟩
        ·rw [if_neg c40] at H
         have c40b0 : (a1_0 == 4) = false := beq_eq_false_iff_ne.mpr c40
         have c40b1 : (a1_0 != 4) = true := bne_iff_ne.mpr c40
         by_cases c41 : a1_0 = 6
         ·rw [if_pos c41] at H
          exact absurd H (by simp)
         ·rw [if_neg c41] at H
          have c41b0 : (a1_0 == 6) = false := beq_eq_false_iff_ne.mpr c41
          have c41b1 : (a1_0 != 6) = true := bne_iff_ne.mpr c41
          have H' := Aside0.mk H
          clear H
          go_wp2
          go_meet
          case rel => exact ⟨_, (0), (by first | rfl | (simp; done) | (simp [*]; done)), H', ⟨by first | omega | exact Nat.le_refl _⟩, ⟨by (with_reducible repeat (first | apply Kd.R_alloc | apply Kd.R_drewN | apply Kd.R_drew)); exact HO0.out⟩, ⟨bK⟩, ⟨kP⟩, ⟨bB⟩⟩
  case rest =>
   clear HC6
   try clear c5
   try clear c5b0
   try clear hcz8_0
   try clear hcz8_1
   try clear hcz8_2
   try clear hfz8_0
   try clear hfz8_1
   try clear hfz8_2
   obtain ⟨kq, x7_5, rfl, HA, HJ5, HO_0, BK110, HK, HB⟩ := hcut
   cases kq with
   | zero => exact absurd HA.out (by simp [expr_text.j0])
   | succ kj5 =>
    have H := HA.out
    clear HA
    simp only [expr_text.j0] at H
    have H' := Aside0.mk H
    clear H
    have hcz42_0 : wc.cell? ⟨gb110, 0, none⟩ = some (.int .i64 a1_0) := (blk_cell BK110.out 0).trans rfl
    have hcz42_1 : wc.cell? ⟨gb110, 1, none⟩ = some (.int .i64 a1_1) := (blk_cell BK110.out 1).trans rfl
    have hcz42_2 : wc.cell? ⟨gb110, 2, none⟩ = some (.slice A1_2 l1_2.length c1_2) := (blk_cell BK110.out 2).trans rfl
    have hfz42_0 := blk_frozen BK110.out 0
    have hfz42_1 := blk_frozen BK110.out 1
    have hfz42_2 := blk_frozen BK110.out 2
    go_wp2
    go_loopg [0, 70] kj5 (fun kq v0 v70 w' => ∃ (x0_2 : List Int) (x70_2 : Int), v70 = .int .i64 x70_2 ∧ Aside0 (expr_text.l0 kq x0_2 x7_5 l1_2 (l1_2.length : Int) x70_2 a1_0 a1_1 l1_2 = some r) ∧ Aside0 (kq ≤ kj5) ∧ Aside0 (Kd.R (Kd.int .u8) 5 w' w0.heap.size (fun k_ => (P0_ k_ ∨ w.heap.size ≤ k_)) v0 x0_2) ∧ Aside0 (w'.heap[gb110]? = some (.cells #[.int .i64 a1_0, .int .i64 a1_1, (.slice A1_2 l1_2.length c1_2)] 24 (0, 0))) ∧ Aside0 (Kept w w' (fun k_ => P0_ k_)) ∧ Aside0 (Below w0.heap.size w0 w'))
    case atStart => exact ⟨(l0), (0), (by first | rfl | (simp; done) | (simp [*]; done)), H', ⟨Nat.le_refl _⟩, ⟨by (with_reducible repeat (first | apply Kd.R_alloc | apply Kd.R_drewN | apply Kd.R_drew)); exact HO_0.out⟩, ⟨bK⟩, ⟨kP⟩, ⟨bB⟩⟩
    case round =>
     clear H'
     try clear c5
     try clear c5b0
     try clear hcz42_0
     try clear hcz42_1
     try clear hcz42_2
     try clear hcz8_0
     try clear hcz8_1
     try clear hcz8_2
     try clear hfz42_0
     try clear hfz42_1
     try clear hfz42_2
     try clear hfz8_0
     try clear hfz8_1
     try clear hfz8_2
     obtain ⟨x0_2, x70_2, rfl, HA, HK2, HO_0, BK110, HK, HB⟩ := hrel
     cases gk with
     | zero => exact absurd HA.out (by simp [expr_text.l0])
     | succ k2 =>
      have H := HA.out
      clear HA
      simp only [expr_text.l0] at H
      by_cases c43 : x70_2 < (l1_2.length : Int)
      ·rw [if_pos c43] at H
       have c43b0 : decide (x70_2 < (l1_2.length : Int)) = true := decide_eq_true c43
       clear c43
       by_cases c44 : 0 ≤ x70_2
       ·rw [if_pos c44] at H
        have c44b0 : decide (0 ≤ x70_2) = true := decide_eq_true c44
        clear c44
        by_cases c45 : x70_2 < (l1_2.length : Int)
        ·rw [if_pos c45] at H
         have c45b0 : decide (x70_2 < (l1_2.length : Int)) = true := decide_eq_true c45
         clear c45
         have HC46 := Aside0.mk H
         clear H
         have p138 : 0 ≤ (x70_2 : Int) := of_decide_eq_true (by first | (with_reducible assumption) | assumption)
         have q138 : x70_2 < (l1_2.length : Int) := of_decide_eq_true (by first | (with_reducible assumption) | assumption)
         obtain ⟨ad138, A138_2, c138_2, e138, hx138_0, hx138_1, hx138_2, hl138_2, hi138_2⟩ := at_T24 (Kd.C_kept_now HR1_2.out HK.out) x70_2 p138 q138
         have hF138_2 := fun W' hk' => (by obtain ⟨ad', A'_2, c'_2, e', hx'_0, hx'_1, hx'_2, hl'_2, hi'_2⟩ := at_T24 (HR1_2.out W' hk') x70_2 p138 q138; obtain rfl := Option.some.inj (e138.symm.trans e'); have z_ := Option.some.inj (hx'_2.symm.trans (FootX.cellS (e138 ▸ HR1_2.out) (by have h1_ := p138; have h2_ := q138; omega) (by decide) HK.out (by first | rfl | exact add_block _ _ | (show (Addr.add _ _).block = _; exact add_block _ _)) hx138_2 hk')); injection z_ with z1_ z2_ z3_; rw [← z1_]; exact hi'_2 : Kd.C k24 W' A138_2 _ ((rd_T24 l1_2 x70_2).f2))
         cases e138
         have HR138_2 := Aside0.mk hF138_2
         clear hF138_2
         have HC138_2 := Aside0.mk hl138_2
         clear hi138_2 hl138_2
         replace p138 := eq_true p138
         replace q138 := eq_true q138
         go_upto_region 22 with (first | ((with_reducible refine gate_dst (N := 9) rfl ?_); refine box_event ?hg (N := 9) ?hd (cs := #[.int .i64 0, .int .i64 0, .slice none 0 0]) (t := 24) ?hr ?_; (case hd => rfl); (case hg => rfl); (case hr => first | (go_simp; done) | (go_simp; rfl)); intro gb139 hg w47 hbox hb; have n0_ := Aside0.mk (Kd.R_below (by (with_reducible repeat (first | apply Kd.R_alloc | apply Kd.R_drewN | apply Kd.R_drew)); exact HO_0.out) hb); have n1_ := Aside0.mk (blk_below (g := gb110) (o := .cells #[.int .i64 a1_0, .int .i64 a1_1, .slice (some ad138) l1_2.length c1_2] 24 (0, 0)) (bK) hb); have n2_ := Aside0.mk (Kept.below (S := (fun k_ => P0_ k_)) (kP) hb); have n3_ := Aside0.mk (below_step (bB) hb); have n4_ := Aside0.mk (hbox); have n5_ := Aside0.mk ((by rw [hg]; exact (by first | exact HK.out.1 | exact (show Kept w _ (fun k_ => P0_ k_) from kP).1) : w.heap.size ≤ gb139)); have n6_ := Aside0.mk ((by rw [hg]; exact (below_size (bB)) : w0.heap.size ≤ gb139)); have n7_ := Aside0.mk ((by rw [hg]; exact Nat.ne_of_lt (blk_lt (g := gb110) (o := .cells #[.int .i64 a1_0, .int .i64 a1_1, .slice (some ad138) l1_2.length c1_2] 24 (0, 0)) (bK)) : gb110 ≠ gb139)); have n8_ := Aside0.mk ((by rw [hg]; exact Nat.ne_of_gt (blk_lt (g := gb110) (o := .cells #[.int .i64 a1_0, .int .i64 a1_1, .slice (some ad138) l1_2.length c1_2] 24 (0, 0)) (bK)) : gb139 ≠ gb110)); clear HO_0; clear BK110; clear HK; clear HB; have HO_0 := n0_; have BK110 := n1_; have HK := n2_; have HB := n3_; have BK139 := n4_; have GW139 := n5_; have GE139 := n6_; have NB110_139 := n7_; have NB139_110 := n8_; clear n0_ n1_ n2_ n3_ n4_ n5_ n6_ n7_ n8_; clear hb hbox hg; have hnb48 := NB139_110.out; have hnc48 := NB110_139.out; have hcz49_0 : w47.cell? ⟨gb139, 0, none⟩ = some (.int .i64 0) := (blk_cell BK139.out 0).trans rfl; have hcz49_1 : w47.cell? ⟨gb139, 1, none⟩ = some (.int .i64 0) := (blk_cell BK139.out 1).trans rfl; have hcz49_2 : w47.cell? ⟨gb139, 2, none⟩ = some (.slice none 0 0) := (blk_cell BK139.out 2).trans rfl; have hfz49_0 := blk_frozen BK139.out 0; have hfz49_1 := blk_frozen BK139.out 1; have hfz49_2 := blk_frozen BK139.out 2))
         (try simp only [Act.put, List.setIfInBounds_toArray, List.set_cons_zero, List.set_cons_succ])
         go_cut [80] (fun v80 wc => ∃ (kq : Nat) (x80_45 : Bool), v80 = .bool x80_45 ∧ Aside0 (expr_text.j2 kq x0_2 x7_5 l1_2 (l1_2.length : Int) x70_2 x80_45 a1_0 a1_1 l1_2 ((rd_T24 l1_2 x70_2).f0) ((rd_T24 l1_2 x70_2).f1) ((rd_T24 l1_2 x70_2).f2) = some r) ∧ Aside0 (kq ≤ k2) ∧ Aside0 (Kd.R (Kd.int .u8) 5 wc w0.heap.size (fun k_ => (P0_ k_ ∨ w.heap.size ≤ k_)) u0 x0_2) ∧ Aside0 (wc.heap[gb110]? = some (.cells #[.int .i64 a1_0, .int .i64 a1_1, (.slice (some ad138) l1_2.length c1_2)] 24 (0, 0))) ∧ Aside0 (wc.heap[gb139]? = some (.cells #[.int .i64 ((rd_T24 l1_2 x70_2).f0), .int .i64 ((rd_T24 l1_2 x70_2).f1), (.slice A138_2 ((rd_T24 l1_2 x70_2).f2).length c138_2)] 24 (0, 0))) ∧ Aside0 (Kept w wc (fun k_ => P0_ k_)) ∧ Aside0 (Below w0.heap.size w0 wc))
         case first =>
          have H := HC46.out
          clear HC46
          by_cases c50 : x70_2 > 0
          ·rw [if_pos c50] at H
           have c50b0 : decide (0 < x70_2) = true := decide_eq_true c50
           clear c50
           (first | rw [c50b0] | (simp only [i64_w, i32_w]; rw [c50b0]) | skip)
           have H' := Aside0.mk H
           clear H
           go_wp2
           go_meet
           case rel => exact ⟨_, ((x7_5 != 0)), (by first | rfl | (simp; done) | (simp [*]; done)), H', ⟨by have := HJ5.out; have := HK2.out; first | omega | exact Nat.le_refl _⟩, ⟨by (with_reducible repeat (first | apply Kd.R_alloc | apply Kd.R_drewN | apply Kd.R_drew)); exact Kd.R_mono (Kd.R_far (p := ⟨gb139, 2, none⟩) (Kd.R_far (p := ⟨gb139, 1, none⟩) (Kd.R_far (p := ⟨gb139, 0, none⟩) (Kd.R_types HO_0.out BK139.out (by decide)) (fun _ hk => hk.2) (.int .i64 ((rd_T24 l1_2 x70_2).f0))) (fun _ hk => hk.2) (.int .i64 ((rd_T24 l1_2 x70_2).f1))) (fun _ hk => hk.2) (.slice A138_2 ((rd_T24 l1_2 x70_2).f2).length c138_2)) (fun _ hk => hk.1)⟩, ⟨by (with_reducible repeat (first | refine blk_drewN ?_ _ | refine blk_drew ?_ | refine blk_alloc ?_ _)); refine blk_far ?_ NB110_139.out _; (with_reducible repeat (first | refine blk_drewN ?_ _ | refine blk_drew ?_ | refine blk_alloc ?_ _)); refine blk_far ?_ NB110_139.out _; (with_reducible repeat (first | refine blk_drewN ?_ _ | refine blk_drew ?_ | refine blk_alloc ?_ _)); refine blk_far ?_ NB110_139.out _; (with_reducible repeat (first | refine blk_drewN ?_ _ | refine blk_drew ?_ | refine blk_alloc ?_ _)); exact BK110.out⟩, ⟨by (with_reducible repeat (first | refine blk_drewN ?_ _ | refine blk_drew ?_ | refine blk_alloc ?_ _)); refine blk_put (cs := #[.int .i64 ((rd_T24 l1_2 x70_2).f0), .int .i64 ((rd_T24 l1_2 x70_2).f1), .slice none 0 0]) ?_ 2 _ rfl; (with_reducible repeat (first | refine blk_drewN ?_ _ | refine blk_drew ?_ | refine blk_alloc ?_ _)); refine blk_put (cs := #[.int .i64 ((rd_T24 l1_2 x70_2).f0), .int .i64 0, .slice none 0 0]) ?_ 1 _ rfl; (with_reducible repeat (first | refine blk_drewN ?_ _ | refine blk_drew ?_ | refine blk_alloc ?_ _)); refine blk_put (cs := #[.int .i64 0, .int .i64 0, .slice none 0 0]) ?_ 0 _ rfl; (with_reducible repeat (first | refine blk_drewN ?_ _ | refine blk_drew ?_ | refine blk_alloc ?_ _)); exact BK139.out⟩, ⟨kP⟩, ⟨bB⟩⟩
          ·rw [if_neg c50] at H
           have c50b0 : decide (0 < x70_2) = false := decide_eq_false c50
           clear c50
           (first | rw [c50b0] | (simp only [i64_w, i32_w]; rw [c50b0]) | skip)
           have H' := Aside0.mk H
           clear H
           go_wp2
           go_meet
           case rel => exact ⟨_, (false), (by first | rfl | (simp; done) | (simp [*]; done)), H', ⟨by have := HJ5.out; have := HK2.out; first | omega | exact Nat.le_refl _⟩, ⟨by (with_reducible repeat (first | apply Kd.R_alloc | apply Kd.R_drewN | apply Kd.R_drew)); exact Kd.R_mono (Kd.R_far (p := ⟨gb139, 2, none⟩) (Kd.R_far (p := ⟨gb139, 1, none⟩) (Kd.R_far (p := ⟨gb139, 0, none⟩) (Kd.R_types HO_0.out BK139.out (by decide)) (fun _ hk => hk.2) (.int .i64 ((rd_T24 l1_2 x70_2).f0))) (fun _ hk => hk.2) (.int .i64 ((rd_T24 l1_2 x70_2).f1))) (fun _ hk => hk.2) (.slice A138_2 ((rd_T24 l1_2 x70_2).f2).length c138_2)) (fun _ hk => hk.1)⟩, ⟨by (with_reducible repeat (first | refine blk_drewN ?_ _ | refine blk_drew ?_ | refine blk_alloc ?_ _)); refine blk_far ?_ NB110_139.out _; (with_reducible repeat (first | refine blk_drewN ?_ _ | refine blk_drew ?_ | refine blk_alloc ?_ _)); refine blk_far ?_ NB110_139.out _; (with_reducible repeat (first | refine blk_drewN ?_ _ | refine blk_drew ?_ | refine blk_alloc ?_ _)); refine blk_far ?_ NB110_139.out _; (with_reducible repeat (first | refine blk_drewN ?_ _ | refine blk_drew ?_ | refine blk_alloc ?_ _)); exact BK110.out⟩, ⟨by (with_reducible repeat (first | refine blk_drewN ?_ _ | refine blk_drew ?_ | refine blk_alloc ?_ _)); refine blk_put (cs := #[.int .i64 ((rd_T24 l1_2 x70_2).f0), .int .i64 ((rd_T24 l1_2 x70_2).f1), .slice none 0 0]) ?_ 2 _ rfl; (with_reducible repeat (first | refine blk_drewN ?_ _ | refine blk_drew ?_ | refine blk_alloc ?_ _)); refine blk_put (cs := #[.int .i64 ((rd_T24 l1_2 x70_2).f0), .int .i64 0, .slice none 0 0]) ?_ 1 _ rfl; (with_reducible repeat (first | refine blk_drewN ?_ _ | refine blk_drew ?_ | refine blk_alloc ?_ _)); refine blk_put (cs := #[.int .i64 0, .int .i64 0, .slice none 0 0]) ?_ 0 _ rfl; (with_reducible repeat (first | refine blk_drewN ?_ _ | refine blk_drew ?_ | refine blk_alloc ?_ _)); exact BK139.out⟩, ⟨kP⟩, ⟨bB⟩⟩
         case rest =>
          clear HC46
          try clear c5
          try clear c5b0
          try clear c43
          try clear c43b0
          try clear c44
          try clear c44b0
          try clear c45
          try clear c45b0
          try clear hcz42_0
          try clear hcz42_1
          try clear hcz42_2
          try clear hcz49_0
          try clear hcz49_1
          try clear hcz49_2
          try clear hcz8_0
          try clear hcz8_1
          try clear hcz8_2
          try clear hfz42_0
          try clear hfz42_1
          try clear hfz42_2
          try clear hfz49_0
          try clear hfz49_1
          try clear hfz49_2
          try clear hfz8_0
          try clear hfz8_1
          try clear hfz8_2
          try clear hx138_0
          try clear hx138_1
          try clear hx138_2
          try clear p138
          try clear q138
          obtain ⟨kq, x80_45, rfl, HA, HJ45, HO_0, BK110, BK139, HK, HB⟩ := hcut
          cases kq with
          | zero => exact absurd HA.out (by simp [expr_text.j2])
          | succ kj45 =>
           have H := HA.out
           clear HA
           simp only [expr_text.j2] at H
           by_cases c51 : x80_45 = true
           ·subst c51
            have H1 : ((some (([x7_5] : List Int) : List Int)).bind fun y140 => (if x0_2.length + y140.length < 140737488355328 then ((expr_level.f a1_0).bind fun t146 => ((expr_text.f kj45 (x0_2 ++ y140) ((rd_T24 l1_2 x70_2).f0) ((rd_T24 l1_2 x70_2).f1) ((rd_T24 l1_2 x70_2).f2) (wrap64 (t146 + 1))).bind fun t147 => (expr_text.l0 kj45 t147 x7_5 l1_2 (l1_2.length : Int) (wrap64 (x70_2 + 1)) a1_0 a1_1 l1_2))) else (none))) = some r := by rw [if_pos rfl] at H; exact H
            clear H
            have H := H1
            clear H1
            obtain ⟨y140, hy140⟩ : ∃ y_ : List Int, y_ = (([x7_5] : List Int)) := ⟨_, rfl⟩
            replace H : (if x0_2.length + y140.length < 140737488355328 then ((expr_level.f a1_0).bind fun t146 => ((expr_text.f kj45 (x0_2 ++ y140) ((rd_T24 l1_2 x70_2).f0) ((rd_T24 l1_2 x70_2).f1) ((rd_T24 l1_2 x70_2).f2) (wrap64 (t146 + 1))).bind fun t147 => (expr_text.l0 kj45 t147 x7_5 l1_2 (l1_2.length : Int) (wrap64 (x70_2 + 1)) a1_0 a1_1 l1_2))) else (none)) = some r := by first | (rw [hy140]; with_reducible exact H) | (have H2_ := (Option.bind_some _ _).symm.trans H; rw [hy140]; with_reducible exact H2_) | (have H2_ := (Option.bind_some _ _).symm.trans H; with_reducible exact H2_) | with_reducible exact H | (rw [hy140]; exact H) | exact H
            have Ny140 := Aside0.mk hy140
            clear hy140
            by_cases c52 : x0_2.length + y140.length < 140737488355328
            ·rw [if_pos c52] at H
             have LMc52 := Aside0.mk c52
             clear c52
             obtain ⟨y143, hy143⟩ : ∃ y_ : List Int, y_ = (x0_2 ++ y140) := ⟨_, rfl⟩
             replace H : ((expr_level.f a1_0).bind fun t146 => ((expr_text.f kj45 y143 ((rd_T24 l1_2 x70_2).f0) ((rd_T24 l1_2 x70_2).f1) ((rd_T24 l1_2 x70_2).f2) (wrap64 (t146 + 1))).bind fun t147 => (expr_text.l0 kj45 t147 x7_5 l1_2 (l1_2.length : Int) (wrap64 (x70_2 + 1)) a1_0 a1_1 l1_2))) = some r := by first | (rw [hy143]; with_reducible exact H) | (have H2_ := (Option.bind_some _ _).symm.trans H; rw [hy143]; with_reducible exact H2_) | (have H2_ := (Option.bind_some _ _).symm.trans H; with_reducible exact H2_) | with_reducible exact H | (rw [hy143]; exact H) | exact H
             have Ny143 := Aside0.mk hy143
             clear hy143
             replace H := Option.bind_eq_some_iff.mp H
             obtain ⟨t146, A530, H⟩ := H
             replace H : ((expr_text.f kj45 y143 ((rd_T24 l1_2 x70_2).f0) ((rd_T24 l1_2 x70_2).f1) ((rd_T24 l1_2 x70_2).f2) (wrap64 (t146 + 1))).bind fun t147 => (expr_text.l0 kj45 t147 x7_5 l1_2 (l1_2.length : Int) (wrap64 (x70_2 + 1)) a1_0 a1_1 l1_2)) = some r := H
             have A53 := Aside0.mk A530
             clear A530
             replace H := Option.bind_eq_some_iff.mp H
             obtain ⟨t147, A540, H⟩ := H
             replace H : (expr_text.l0 kj45 t147 x7_5 l1_2 (l1_2.length : Int) (wrap64 (x70_2 + 1)) a1_0 a1_1 l1_2) = some r := H
             have A54 := Aside0.mk A540
             clear A540
             have H' := Aside0.mk H
             clear H
             try go_wp2_with (first | ((with_reducible refine gate_dst (N := 83) rfl ?_); refine Kd.R_lit (Kd.int .u8) _ 5 ?hg (N := 83) ?hd (xs := ([x7_5] : List Int)) (inner := [.int .u8 x7_5]) (ok := fun _ => True) (okp := fun _ => True) ?hr ?hp (fun _ hk => hk) trivial (Below.refl _ _) (Nat.le_refl _) (by simp) ?_; (case hd => rfl); (case hg => rfl); (case hr => first | (go_simp; done) | (go_simp; rfl)); (case hp => exact (Reps.one (show Kd.M (Kd.int .u8) _ _ _ x7_5 [.int .u8 x7_5] from rfl) (Reps.none _ _))); intro v141 w55 ho56 hb hg_ hnew_; clear hg_ hnew_; (first | rw [← Ny140.out] at ho56 | (simp only [Int.reduceToNat] at ho56; rw [← Ny140.out] at ho56)); have n0_ := Aside0.mk (Kd.R_elder' (by (with_reducible repeat (first | apply Kd.R_alloc | apply Kd.R_drewN | apply Kd.R_drew)); exact HO_0.out) (Kd.R_base ho56) hb); have n1_ := Aside0.mk (Kd.R_lower (Kd.R_new' (Kd.R_newM (M := fun k_ => (P0_ k_ ∨ w.heap.size ≤ k_)) ho56 (by first | exact HK.out.1 | exact (show Kept w _ (fun k_ => P0_ k_) from kP).1) (fun k_ h_ => .inr h_)) (Kd.R_lt (by (with_reducible repeat (first | apply Kd.R_alloc | apply Kd.R_drewN | apply Kd.R_drew)); exact HO_0.out))) (below_size (bB))); have n2_ := Aside0.mk (blk_below (g := gb110) (o := .cells #[.int .i64 a1_0, .int .i64 a1_1, .slice (some ad138) l1_2.length c1_2] 24 (0, 0)) (bK) hb); have n3_ := Aside0.mk (blk_below (g := gb139) (o := .cells #[.int .i64 ((rd_T24 l1_2 x70_2).f0), .int .i64 ((rd_T24 l1_2 x70_2).f1), .slice A138_2 ((rd_T24 l1_2 x70_2).f2).length c138_2] 24 (0, 0)) (bK) hb); have n4_ := Aside0.mk (Kept.below (S := (fun k_ => P0_ k_)) (kP) hb); have n5_ := Aside0.mk (below_step (bB) hb); clear HO_0; clear BK110; clear BK139; clear HK; clear HB; have HO_0 := n0_; have HO142 := n1_; have BK110 := n2_; have BK139 := n3_; have HK := n4_; have HB := n5_; clear n0_ n1_ n2_ n3_ n4_ n5_; clear hb ho56; obtain ⟨Ao58, co58, eo58⟩ := Kd.R_slice HO142.out; subst eo58) | ((with_reducible refine gate_builtin (b := .append) (xs := #[.tmp 81, .tmp 83]) rfl ?_); at_builtin; refine Kd.R_append_rows (Kd.int .u8) (w0 := w0) w0.heap.size rfl (.tmp 81) (.tmp 83) 43 5 (.int .u8 0) 1 rfl Try.underlying43 info5 rfl (by decide) (by omega) u0 x0_2 y140 _ _ _ (fun k_ => (P0_ k_ ∨ w.heap.size ≤ k_) ∧ some k_ ≠ (.slice Ao58 y140.length co58 : Value).ownBlock) (fun _ => False) rfl rfl ?aO ?aR (fun _ _ h => h) (fun _ h => h.elim) ?aF ?aB ?aS ?aL ?_; (case aR => repeat (first | exact (Kd.R_reads' HO142.out).2.2 | (with_reducible refine Kd.C_alloc ?_ _) | (with_reducible refine Kd.C_drewN ?_ _) | (with_reducible refine Kd.C_drew ?_))); (case aB => exact (bB)); (case aF => exact (fun k_ hk => ⟨(.inr (Nat.le_trans (by first | exact HK.out.1 | exact (show Kept w _ (fun k_ => P0_ k_) from kP).1) hk)), Kd.fresh' (Kd.R_lt (by (with_reducible repeat (first | apply Kd.R_alloc | apply Kd.R_drewN | apply Kd.R_drew)); exact HO142.out)) k_ hk⟩)); (case aO => exact (by (with_reducible repeat (first | apply Kd.R_alloc | apply Kd.R_drewN | apply Kd.R_drew)); exact HO_0.out)); (case aS => exact (below_size (bB))); (case aL => have := LMc52.out; omega); intro v144 w57 ho hb hg hat; rw [← Ny143.out] at ho; have n0_ := Aside0.mk (blk_grown (g := gb110) (o := .cells #[.int .i64 a1_0, .int .i64 a1_1, .slice (some ad138) l1_2.length c1_2] 24 (0, 0)) (bK) hg (Kd.R_ne HO_0.out BK110.out (by decide))); have n1_ := Aside0.mk (blk_grown (g := gb139) (o := .cells #[.int .i64 ((rd_T24 l1_2 x70_2).f0), .int .i64 ((rd_T24 l1_2 x70_2).f1), .slice A138_2 ((rd_T24 l1_2 x70_2).f2).length c138_2] 24 (0, 0)) (bK) hg (Kd.R_ne HO_0.out BK139.out (by decide))); have n2_ := Aside0.mk (Kd.R_after (ok := (fun k_ => (P0_ k_ ∨ w.heap.size ≤ k_))) (by (with_reducible repeat (first | apply Kd.R_alloc | apply Kd.R_drewN | apply Kd.R_drew)); exact Kd.R_mono HO142.out (fun _ hk => ⟨hk.1.1, hk.2⟩)) hg hat); have n3_ := Aside0.mk (hb); have n4_ := Aside0.mk (Kept.of_grown (S := (fun k_ => P0_ k_)) hg (kP) (fun k_ e_ => (HO_0.out.1 k_ e_).1)); have n5_ := Aside0.mk (ho); clear BK110; clear BK139; clear HO142; clear HB; clear HK; clear HO_0; have BK110 := n0_; have BK139 := n1_; have HO142 := n2_; have HB := n3_; have HK := n4_; have HO145 := n5_; clear n0_ n1_ n2_ n3_ n4_ n5_; clear ho hb hg hat))
             (try (rw [drewN_self w57]; generalize hq_ : World.drewN w57 _ = w57; have n0_ : Aside0 (Kd.R (Kd.int .u8) 5 w57 w0.heap.size (fun k_ => (P0_ k_ ∨ w.heap.size ≤ k_) ∧ some k_ ≠ (v144 : Value).ownBlock) (.slice Ao58 y140.length co58) y140) := ⟨by rw [← hq_]; exact (by (with_reducible repeat (first | apply Kd.R_alloc | apply Kd.R_drewN | apply Kd.R_drew)); exact HO142.out)⟩; have n1_ : Aside0 (Kd.R (Kd.int .u8) 5 w57 w0.heap.size (fun k_ => (P0_ k_ ∨ w.heap.size ≤ k_) ∧ some k_ ≠ (.slice Ao58 y140.length co58 : Value).ownBlock) v144 y143) := ⟨by rw [← hq_]; exact (by (with_reducible repeat (first | apply Kd.R_alloc | apply Kd.R_drewN | apply Kd.R_drew)); exact HO145.out)⟩; have n2_ : Aside0 (w57.heap[gb110]? = some (.cells #[.int .i64 a1_0, .int .i64 a1_1, .slice (some ad138) l1_2.length c1_2] 24 (0, 0))) := ⟨by rw [← hq_]; exact (bK)⟩; have n3_ : Aside0 (w57.heap[gb139]? = some (.cells #[.int .i64 ((rd_T24 l1_2 x70_2).f0), .int .i64 ((rd_T24 l1_2 x70_2).f1), .slice A138_2 ((rd_T24 l1_2 x70_2).f2).length c138_2] 24 (0, 0))) := ⟨by rw [← hq_]; exact (bK)⟩; have n4_ : Aside0 (Kept w w57 (fun k_ => P0_ k_)) := ⟨by rw [← hq_]; exact (kP)⟩; have n5_ : Aside0 (Below w0.heap.size w0 w57) := ⟨by rw [← hq_]; exact (bB)⟩; clear HO142 HO145 BK110 BK139 HK HB hq_; have HO142 := n0_; have HO145 := n1_; have BK110 := n2_; have BK139 := n3_; have HK := n4_; have HB := n5_; clear n0_ n1_ n2_ n3_ n4_ n5_))
             have n0_ := Aside0.mk (Kd.R_drew HO142.out)
             have n1_ := Aside0.mk (Kd.R_drew HO145.out)
             have n2_ := Aside0.mk (blk_drew BK110.out)
             have n3_ := Aside0.mk (blk_drew BK139.out)
             have n4_ := Aside0.mk (Kept.drew HK.out)
             have n5_ := Aside0.mk (below_drew1 HB.out)
             clear HO142
             clear HO145
             clear BK110
             clear BK139
             clear HK
             clear HB
             have HO142 := n0_
             have HO145 := n1_
             have BK110 := n2_
             have BK139 := n3_
             have HK := n4_
             have HB := n5_
             clear n0_ n1_ n2_ n3_ n4_ n5_
             refine start_ (n := 8) (S := fun w' => w'.cell? ⟨gb139, 0, none⟩ = some (.int .i64 ((rd_T24 l1_2 x70_2).f0)) ∧ w'.cell? ⟨gb139, 1, none⟩ = some (.int .i64 ((rd_T24 l1_2 x70_2).f1)) ∧ w'.cell? ⟨gb139, 2, none⟩ = some (.slice A138_2 ((rd_T24 l1_2 x70_2).f2).length c138_2) ∧ w'.cell? ⟨gb110, 0, none⟩ = some (.int .i64 a1_0) ∧ w'.cell? ⟨gb110, 1, none⟩ = some (.int .i64 a1_1) ∧ w'.cell? ⟨gb110, 2, none⟩ = some (.slice (some ad138) l1_2.length c1_2)) (ds := []) #[false, false, false, false, false, false, false, false] (by kernel_rfl) rfl rfl ⟨(blk_cell BK139.out 0).trans rfl, (blk_cell BK139.out 1).trans rfl, (blk_cell BK139.out 2).trans rfl, (blk_cell BK110.out 0).trans rfl, (blk_cell BK110.out 1).trans rfl, (blk_cell BK110.out 2).trans rfl⟩ (fun hHeld => ?_); refine with_tabW expr_text.tab24 expr_text.bits24 (fun HT_ HW_ => ?_)
             generalize w57.drew = w59 at HO142 HO145 BK110 BK139 HK HB hHeld ⊢
             refine pure_ (i := 0) (N := some 85) (v := ?_) (a' := ?_) #[true, false, false, false, false, false, false, false] rfl rfl (any_of HT_.out (by kernel_rfl)) (fun _ _ _ h => h) (Or.inl ⟨by rfl, ?_⟩) ?_ ?_
             rotate_left
             ·intro w'
              go_simp
              with_reducible rfl
             rotate_left
             ·simp only [Act.put, List.setIfInBounds_toArray, List.set_cons_zero, List.set_cons_succ, i64_w, i32_w]
              rfl
             refine pure_ (i := 2) (N := some 87) (v := ?_) (a' := ?_) #[true, false, true, false, false, false, false, false] rfl rfl (any_of HT_.out (by kernel_rfl)) (fun _ _ _ h => h) (Or.inl ⟨by rfl, ?_⟩) ?_ ?_
             rotate_left
             ·intro w'
              go_simp
              with_reducible rfl
             rotate_left
             ·simp only [Act.put, List.setIfInBounds_toArray, List.set_cons_zero, List.set_cons_succ, i64_w, i32_w]
              rfl
             refine take_ (i := 1) (N := some 86) (v := ?_) (a' := ?_) #[true, true, true, false, false, false, false, false] rfl rfl (take_ofW HT_.out HW_.out (by kernel_rfl)) (fun _ _ _ h => h) (Or.inl ⟨by rfl, ?_⟩) hHeld ?_ ?_
             rotate_left
             ·rintro w' ⟨s0, s1, s2, s3, s4, s5⟩
              go_simp
              with_reducible rfl
             rotate_left
             ·simp only [Act.put, List.setIfInBounds_toArray, List.set_cons_zero, List.set_cons_succ, i64_w, i32_w]
              rfl
             refine take_ (i := 3) (N := some 88) (v := ?_) (a' := ?_) #[true, true, true, true, false, false, false, false] rfl rfl (take_ofW HT_.out HW_.out (by kernel_rfl)) (fun _ _ _ h => h) (Or.inl ⟨by rfl, ?_⟩) hHeld ?_ ?_
             rotate_left
             ·rintro w' ⟨s0, s1, s2, s3, s4, s5⟩
              go_simp
              with_reducible rfl
             rotate_left
             ·simp only [Act.put, List.setIfInBounds_toArray, List.set_cons_zero, List.set_cons_succ, i64_w, i32_w]
              rfl
             refine one_ (i := 4) (N := some 89) #[true, true, true, true, true, false, false, false] rfl rfl (one_of HT_.out (by kernel_rfl)) (by decide) (fun K hK => ?_)
             refine goes_ Try.func69 (by kernel_rfl) rfl #[.int .i64 a1_0] (by rfl) rfl rfl (by (try simp only [List.map_toArray, List.map_cons, List.map_nil]); first | done | rfl | (simp only [List.length_drop, List.length_take]; rfl)) ?_
             with_reducible refine (expr_level.calls a1_0 t146 _ A53.out).mono ?_
             rintro e w' ⟨rfl, ⟨nd, rfl⟩⟩
             refine ⟨_, rfl, ?_⟩
             obtain ⟨Ao60, co60, eo60⟩ := Kd.R_slice HO145.out
             (first | subst eo60 | (injection eo60 with f1_ f2_ f3_; have f4_ := f1_.symm; have f5_ := f3_.symm; clear f1_ f2_ f3_; subst f4_; subst f5_))
             refine hK.out _ _ ⟨(blk_cell BK139.out 0).trans rfl, (blk_cell BK139.out 1).trans rfl, (blk_cell BK139.out 2).trans rfl, (blk_cell BK110.out 0).trans rfl, (blk_cell BK110.out 1).trans rfl, (blk_cell BK110.out 2).trans rfl⟩ (fun hHeld => ?_)
             clear hK K
             refine norm_ (a' := ?_) ?_ ?_
             rotate_left
             ·show Act.put _ (some 89) _ = _
              simp only [Act.put, List.setIfInBounds_toArray, List.set_cons_zero, List.set_cons_succ, i64_w, i32_w]
              rfl
             refine pure_ (i := 5) (N := some 90) (v := ?_) (a' := ?_) #[true, true, true, true, true, true, false, false] rfl rfl (any_of HT_.out (by kernel_rfl)) (fun _ _ _ h => h) (Or.inl ⟨by rfl, ?_⟩) ?_ ?_
             rotate_left
             ·intro w'
              go_simp
              with_reducible rfl
             rotate_left
             ·simp only [Act.put, List.setIfInBounds_toArray, List.set_cons_zero, List.set_cons_succ, i64_w, i32_w]
              rfl
             refine one_ (i := 6) (N := some 91) #[true, true, true, true, true, true, true, false] rfl rfl (one_of HT_.out (by kernel_rfl)) (by decide) (fun K hK => ?_)
             refine goes_ Try.func47 (by kernel_rfl) rfl #[.slice Ao60 y143.length co60, .agg #[.int .i64 ((rd_T24 l1_2 x70_2).f0), .int .i64 ((rd_T24 l1_2 x70_2).f1), .slice A138_2 ((rd_T24 l1_2 x70_2).f2).length c138_2], .int .i64 (wrap64 (t146 + 1))] (by rfl) rfl rfl (by (try simp only [List.map_toArray, List.map_cons, List.map_nil]); first | done | rfl | (simp only [List.length_drop, List.length_take]; rfl)) ?_
             with_reducible refine (ih kj45 (by have := HJ5.out; have := HK2.out; have := HJ45.out; omega) (fun k_ => some k_ = (.slice Ao60 y143.length co60 : Value).ownBlock) (.slice Ao60 y143.length co60) y143 ((rd_T24 l1_2 x70_2).f0) ((rd_T24 l1_2 x70_2).f1) _ _ ((rd_T24 l1_2 x70_2).f2) (wrap64 (t146 + 1)) t147 w0 _ ?side1 ?side2 ?side3 ?side4 A54.out).mono ?_
             (case side1 => repeat (first | (with_reducible first | exact HB.out | apply below_alloc | apply pw_below_drewN | apply below_drew1 | refine below_set ?_ GE110.out | refine below_set ?_ GE139.out) | exact HB.out))
             (case side2 => exact Kd.R_tight rfl HO145.out)
             (case side3 => exact Kd.C_kept_call HR138_2.out (kP) (fun k_ hs_ => (fun e_ => (HO145.out.1 k_ e_.symm).1) hs_))
             (case side4 => exact HC138_2.out)
             rintro e w61 ⟨v148, rfl, ho0, hb, hkp⟩
             refine ⟨_, rfl, ?_⟩
             have n0_ := Aside0.mk (blk_kept (bK) hkp (fun hs_ => (fun e_ => (Kd.R_ne HO145.out BK110.out (by decide)) e_) hs_))
             have n1_ := Aside0.mk (blk_kept (bK) hkp (fun hs_ => (fun e_ => (Kd.R_ne HO145.out BK139.out (by decide)) e_) hs_))
             have n2_ := Aside0.mk (Kd.R_mono (ok' := fun k_ => (P0_ k_ ∨ w.heap.size ≤ k_) ∧ some k_ ≠ (v148 : Value).ownBlock) (Kd.R_keptB (HO142.out) hkp (fun k_ hk_ hs_ => (hk_.2) hs_)) (fun k_ hk_ => ⟨hk_.1.1, fun e_ => Or.elim (ho0.1 k_ e_.symm) (fun hs_ => hk_.2.1 hs_) (fun hn_ => Nat.not_le.2 hk_.2.2 hn_)⟩))
             have n3_ := Aside0.mk (Kd.R_mono (ok' := fun k_ => (P0_ k_ ∨ w.heap.size ≤ k_) ∧ some k_ ≠ (.slice Ao58 y140.length co58 : Value).ownBlock) ho0 (fun k_ hk_ => ⟨Or.elim hk_ (fun hs_ => (HO145.out.1 k_ (hs_).symm).1) (fun hn_ => (.inr (Nat.le_trans (by first | exact HK.out.1 | exact (show Kept w _ (fun k_ => P0_ k_) from kP).1) hn_))), Or.elim hk_ (fun hs_ => fun e_ => (((HO142.out).1 k_ e_.symm).2) hs_) (fun hn_ => (Kd.fresh' (Kd.R_lt (by (with_reducible repeat (first | apply Kd.R_alloc | apply Kd.R_drewN | apply Kd.R_drew)); exact HO142.out)) k_ hn_))⟩))
             have n4_ := Aside0.mk (Kept.then_ (S := (fun k_ => P0_ k_)) (kP) hkp (fun k_ hs_ => (fun e_ => (HO145.out.1 k_ e_.symm).1) hs_))
             have n5_ := Aside0.mk (hb)
             clear BK110
             clear BK139
             clear HO142
             clear HK
             clear HB
             clear HO145
             have BK110 := n0_
             have BK139 := n1_
             have HO142 := n2_
             have HO149 := n3_
             have HK := n4_
             have HB := n5_
             clear n0_ n1_ n2_ n3_ n4_ n5_
             (try clear hb)
             (try clear hkp)
             (try clear ho0)
             refine hK.out _ _ ⟨(blk_cell BK139.out 0).trans rfl, (blk_cell BK139.out 1).trans rfl, (blk_cell BK139.out 2).trans rfl, (blk_cell BK110.out 0).trans rfl, (blk_cell BK110.out 1).trans rfl, (blk_cell BK110.out 2).trans rfl⟩ (fun hHeld => ?_)
             clear hK K
             refine norm_ (a' := ?_) ?_ ?_
             rotate_left
             ·show Act.put _ (some 91) _ = _
              simp only [Act.put, List.setIfInBounds_toArray, List.set_cons_zero, List.set_cons_succ, i64_w, i32_w]
              rfl
             refine pure_ (i := 7) (N := some 0) (v := ?_) (a' := ?_) #[true, true, true, true, true, true, true, true] rfl rfl (any_of HT_.out (by kernel_rfl)) (fun _ _ _ h => h) (Or.inl ⟨by rfl, ?_⟩) ?_ ?_
             rotate_left
             ·intro w'
              go_simp
              with_reducible rfl
             rotate_left
             ·simp only [Act.put, List.setIfInBounds_toArray, List.set_cons_zero, List.set_cons_succ, i64_w, i32_w]
              rfl
             refine done_ (done_of HT_.out (by kernel_rfl)) ?_
             try go_wp2
             (first | go_roundg kj45 | ((simp only [add_plain] at *); go_roundg kj45))
             case measure => have := HJ5.out; have := HK2.out; have := HJ45.out; omega
             case rel => exact ⟨(t147), (wrap64 (x70_2 + 1)), (by first | rfl | (simp; done) | (simp [*]; done)), H', ⟨by have := HJ5.out; have := HK2.out; have := HJ45.out; omega⟩, ⟨by (with_reducible repeat (first | apply Kd.R_alloc | apply Kd.R_drewN | apply Kd.R_drew)); exact Kd.R_mono HO149.out (fun _ hk => hk.1)⟩, ⟨bK⟩, ⟨kP⟩, ⟨bB⟩⟩
            ·rw [if_neg c52] at H
             exact absurd H (by simp)
           ·replace c51 := Bool.eq_false_iff.mpr c51
            subst c51
            have H1 : ((expr_level.f a1_0).bind fun t150 => ((expr_text.f kj45 x0_2 ((rd_T24 l1_2 x70_2).f0) ((rd_T24 l1_2 x70_2).f1) ((rd_T24 l1_2 x70_2).f2) (wrap64 (t150 + 1))).bind fun t151 => (expr_text.l0 kj45 t151 x7_5 l1_2 (l1_2.length : Int) (wrap64 (x70_2 + 1)) a1_0 a1_1 l1_2))) = some r := by rw [if_neg (show ¬ (false = true) by decide)] at H; exact H
            clear H
            have H := H1
            clear H1
            replace H := Option.bind_eq_some_iff.mp H
            obtain ⟨t150, A620, H⟩ := H
            replace H : ((expr_text.f kj45 x0_2 ((rd_T24 l1_2 x70_2).f0) ((rd_T24 l1_2 x70_2).f1) ((rd_T24 l1_2 x70_2).f2) (wrap64 (t150 + 1))).bind fun t151 => (expr_text.l0 kj45 t151 x7_5 l1_2 (l1_2.length : Int) (wrap64 (x70_2 + 1)) a1_0 a1_1 l1_2)) = some r := H
            have A62 := Aside0.mk A620
            clear A620
            replace H := Option.bind_eq_some_iff.mp H
            obtain ⟨t151, A630, H⟩ := H
            replace H : (expr_text.l0 kj45 t151 x7_5 l1_2 (l1_2.length : Int) (wrap64 (x70_2 + 1)) a1_0 a1_1 l1_2) = some r := H
            have A63 := Aside0.mk A630
            clear A630
            have H' := Aside0.mk H
            clear H
            try go_wp2
            (try (rw [drewN_self wc]; generalize hq_ : World.drewN wc _ = wc; have n0_ : Aside0 (Kd.R (Kd.int .u8) 5 wc w0.heap.size (fun k_ => (P0_ k_ ∨ w.heap.size ≤ k_)) u0 x0_2) := ⟨by rw [← hq_]; exact (by (with_reducible repeat (first | apply Kd.R_alloc | apply Kd.R_drewN | apply Kd.R_drew)); exact HO_0.out)⟩; have n1_ : Aside0 (wc.heap[gb110]? = some (.cells #[.int .i64 a1_0, .int .i64 a1_1, .slice (some ad138) l1_2.length c1_2] 24 (0, 0))) := ⟨by rw [← hq_]; exact (bK)⟩; have n2_ : Aside0 (wc.heap[gb139]? = some (.cells #[.int .i64 ((rd_T24 l1_2 x70_2).f0), .int .i64 ((rd_T24 l1_2 x70_2).f1), .slice A138_2 ((rd_T24 l1_2 x70_2).f2).length c138_2] 24 (0, 0))) := ⟨by rw [← hq_]; exact (bK)⟩; have n3_ : Aside0 (Kept w wc (fun k_ => P0_ k_)) := ⟨by rw [← hq_]; exact (kP)⟩; have n4_ : Aside0 (Below w0.heap.size w0 wc) := ⟨by rw [← hq_]; exact (bB)⟩; clear HO_0 BK110 BK139 HK HB hq_; have HO_0 := n0_; have BK110 := n1_; have BK139 := n2_; have HK := n3_; have HB := n4_; clear n0_ n1_ n2_ n3_ n4_))
            have n0_ := Aside0.mk (Kd.R_drew HO_0.out)
            have n1_ := Aside0.mk (blk_drew BK110.out)
            have n2_ := Aside0.mk (blk_drew BK139.out)
            have n3_ := Aside0.mk (Kept.drew HK.out)
            have n4_ := Aside0.mk (below_drew1 HB.out)
            clear HO_0
            clear BK110
            clear BK139
            clear HK
            clear HB
            have HO_0 := n0_
            have BK110 := n1_
            have BK139 := n2_
            have HK := n3_
            have HB := n4_
            clear n0_ n1_ n2_ n3_ n4_
            refine start_ (n := 8) (S := fun w' => w'.cell? ⟨gb139, 0, none⟩ = some (.int .i64 ((rd_T24 l1_2 x70_2).f0)) ∧ w'.cell? ⟨gb139, 1, none⟩ = some (.int .i64 ((rd_T24 l1_2 x70_2).f1)) ∧ w'.cell? ⟨gb139, 2, none⟩ = some (.slice A138_2 ((rd_T24 l1_2 x70_2).f2).length c138_2) ∧ w'.cell? ⟨gb110, 0, none⟩ = some (.int .i64 a1_0) ∧ w'.cell? ⟨gb110, 1, none⟩ = some (.int .i64 a1_1) ∧ w'.cell? ⟨gb110, 2, none⟩ = some (.slice (some ad138) l1_2.length c1_2)) (ds := []) #[false, false, false, false, false, false, false, false] (by kernel_rfl) rfl rfl ⟨(blk_cell BK139.out 0).trans rfl, (blk_cell BK139.out 1).trans rfl, (blk_cell BK139.out 2).trans rfl, (blk_cell BK110.out 0).trans rfl, (blk_cell BK110.out 1).trans rfl, (blk_cell BK110.out 2).trans rfl⟩ (fun hHeld => ?_); refine with_tabW expr_text.tab24 expr_text.bits24 (fun HT_ HW_ => ?_)
            generalize wc.drew = w64 at HO_0 BK110 BK139 HK HB hHeld ⊢
            refine pure_ (i := 0) (N := some 85) (v := ?_) (a' := ?_) #[true, false, false, false, false, false, false, false] rfl rfl (any_of HT_.out (by kernel_rfl)) (fun _ _ _ h => h) (Or.inl ⟨by rfl, ?_⟩) ?_ ?_
            rotate_left
            ·intro w'
             go_simp
             with_reducible rfl
            rotate_left
            ·simp only [Act.put, List.setIfInBounds_toArray, List.set_cons_zero, List.set_cons_succ, i64_w, i32_w]
             rfl
            refine pure_ (i := 2) (N := some 87) (v := ?_) (a' := ?_) #[true, false, true, false, false, false, false, false] rfl rfl (any_of HT_.out (by kernel_rfl)) (fun _ _ _ h => h) (Or.inl ⟨by rfl, ?_⟩) ?_ ?_
            rotate_left
            ·intro w'
             go_simp
             with_reducible rfl
            rotate_left
            ·simp only [Act.put, List.setIfInBounds_toArray, List.set_cons_zero, List.set_cons_succ, i64_w, i32_w]
             rfl
            refine take_ (i := 1) (N := some 86) (v := ?_) (a' := ?_) #[true, true, true, false, false, false, false, false] rfl rfl (take_ofW HT_.out HW_.out (by kernel_rfl)) (fun _ _ _ h => h) (Or.inl ⟨by rfl, ?_⟩) hHeld ?_ ?_
            rotate_left
            ·rintro w' ⟨s0, s1, s2, s3, s4, s5⟩
             go_simp
             with_reducible rfl
            rotate_left
            ·simp only [Act.put, List.setIfInBounds_toArray, List.set_cons_zero, List.set_cons_succ, i64_w, i32_w]
             rfl
            refine take_ (i := 3) (N := some 88) (v := ?_) (a' := ?_) #[true, true, true, true, false, false, false, false] rfl rfl (take_ofW HT_.out HW_.out (by kernel_rfl)) (fun _ _ _ h => h) (Or.inl ⟨by rfl, ?_⟩) hHeld ?_ ?_
            rotate_left
            ·rintro w' ⟨s0, s1, s2, s3, s4, s5⟩
             go_simp
             with_reducible rfl
            rotate_left
            ·simp only [Act.put, List.setIfInBounds_toArray, List.set_cons_zero, List.set_cons_succ, i64_w, i32_w]
             rfl
            refine one_ (i := 4) (N := some 89) #[true, true, true, true, true, false, false, false] rfl rfl (one_of HT_.out (by kernel_rfl)) (by decide) (fun K hK => ?_)
            refine goes_ Try.func69 (by kernel_rfl) rfl #[.int .i64 a1_0] (by rfl) rfl rfl (by (try simp only [List.map_toArray, List.map_cons, List.map_nil]); first | done | rfl | (simp only [List.length_drop, List.length_take]; rfl)) ?_
            with_reducible refine (expr_level.calls a1_0 t150 _ A62.out).mono ?_
            rintro e w' ⟨rfl, ⟨nd, rfl⟩⟩
            refine ⟨_, rfl, ?_⟩
            obtain ⟨Ao65, co65, eo65⟩ := Kd.R_slice HO_0.out
            (first | subst eo65 | (injection eo65 with f1_ f2_ f3_; have f4_ := f1_.symm; have f5_ := f3_.symm; clear f1_ f2_ f3_; subst f4_; subst f5_))
            refine hK.out _ _ ⟨(blk_cell BK139.out 0).trans rfl, (blk_cell BK139.out 1).trans rfl, (blk_cell BK139.out 2).trans rfl, (blk_cell BK110.out 0).trans rfl, (blk_cell BK110.out 1).trans rfl, (blk_cell BK110.out 2).trans rfl⟩ (fun hHeld => ?_)
            clear hK K
            refine norm_ (a' := ?_) ?_ ?_
            rotate_left
            ·show Act.put _ (some 89) _ = _
             simp only [Act.put, List.setIfInBounds_toArray, List.set_cons_zero, List.set_cons_succ, i64_w, i32_w]
             rfl
            refine pure_ (i := 5) (N := some 90) (v := ?_) (a' := ?_) #[true, true, true, true, true, true, false, false] rfl rfl (any_of HT_.out (by kernel_rfl)) (fun _ _ _ h => h) (Or.inl ⟨by rfl, ?_⟩) ?_ ?_
            rotate_left
            ·intro w'
             go_simp
             with_reducible rfl
            rotate_left
            ·simp only [Act.put, List.setIfInBounds_toArray, List.set_cons_zero, List.set_cons_succ, i64_w, i32_w]
             rfl
            refine one_ (i := 6) (N := some 91) #[true, true, true, true, true, true, true, false] rfl rfl (one_of HT_.out (by kernel_rfl)) (by decide) (fun K hK => ?_)
            refine goes_ Try.func47 (by kernel_rfl) rfl #[.slice Ao65 x0_2.length co65, .agg #[.int .i64 ((rd_T24 l1_2 x70_2).f0), .int .i64 ((rd_T24 l1_2 x70_2).f1), .slice A138_2 ((rd_T24 l1_2 x70_2).f2).length c138_2], .int .i64 (wrap64 (t150 + 1))] (by rfl) rfl rfl (by (try simp only [List.map_toArray, List.map_cons, List.map_nil]); first | done | rfl | (simp only [List.length_drop, List.length_take]; rfl)) ?_
            with_reducible refine (ih kj45 (by have := HJ5.out; have := HK2.out; have := HJ45.out; omega) (fun k_ => some k_ = (.slice Ao65 x0_2.length co65 : Value).ownBlock) (.slice Ao65 x0_2.length co65) x0_2 ((rd_T24 l1_2 x70_2).f0) ((rd_T24 l1_2 x70_2).f1) _ _ ((rd_T24 l1_2 x70_2).f2) (wrap64 (t150 + 1)) t151 w0 _ ?side1 ?side2 ?side3 ?side4 A63.out).mono ?_
            (case side1 => repeat (first | (with_reducible first | exact HB.out | apply below_alloc | apply pw_below_drewN | apply below_drew1 | refine below_set ?_ GE110.out | refine below_set ?_ GE139.out) | exact HB.out))
            (case side2 => exact Kd.R_tight rfl HO_0.out)
            (case side3 => exact Kd.C_kept_call HR138_2.out (kP) (fun k_ hs_ => (fun e_ => (HO_0.out.1 k_ e_.symm)) hs_))
            (case side4 => exact HC138_2.out)
            rintro e w66 ⟨v152, rfl, ho0, hb, hkp⟩
            refine ⟨_, rfl, ?_⟩
            have n0_ := Aside0.mk (blk_kept (bK) hkp (fun hs_ => (fun e_ => (Kd.R_ne HO_0.out BK110.out (by decide)) e_) hs_))
            have n1_ := Aside0.mk (blk_kept (bK) hkp (fun hs_ => (fun e_ => (Kd.R_ne HO_0.out BK139.out (by decide)) e_) hs_))
            have n2_ := Aside0.mk (Kd.R_mono (ok' := fun k_ => (P0_ k_ ∨ w.heap.size ≤ k_)) ho0 (fun k_ hk_ => Or.elim hk_ (fun hs_ => (HO_0.out.1 k_ (hs_).symm)) (fun hn_ => (.inr (Nat.le_trans (by first | exact HK.out.1 | exact (show Kept w _ (fun k_ => P0_ k_) from kP).1) hn_)))))
            have n3_ := Aside0.mk (Kept.then_ (S := (fun k_ => P0_ k_)) (kP) hkp (fun k_ hs_ => (fun e_ => (HO_0.out.1 k_ e_.symm)) hs_))
            have n4_ := Aside0.mk (hb)
            clear BK110
            clear BK139
            clear HK
            clear HB
            clear HO_0
            have BK110 := n0_
            have BK139 := n1_
            have HO153 := n2_
            have HK := n3_
            have HB := n4_
            clear n0_ n1_ n2_ n3_ n4_
            (try clear hb)
            (try clear hkp)
            (try clear ho0)
            refine hK.out _ _ ⟨(blk_cell BK139.out 0).trans rfl, (blk_cell BK139.out 1).trans rfl, (blk_cell BK139.out 2).trans rfl, (blk_cell BK110.out 0).trans rfl, (blk_cell BK110.out 1).trans rfl, (blk_cell BK110.out 2).trans rfl⟩ (fun hHeld => ?_)
            clear hK K
            refine norm_ (a' := ?_) ?_ ?_
            rotate_left
            ·show Act.put _ (some 91) _ = _
             simp only [Act.put, List.setIfInBounds_toArray, List.set_cons_zero, List.set_cons_succ, i64_w, i32_w]
             rfl
            refine pure_ (i := 7) (N := some 0) (v := ?_) (a' := ?_) #[true, true, true, true, true, true, true, true] rfl rfl (any_of HT_.out (by kernel_rfl)) (fun _ _ _ h => h) (Or.inl ⟨by rfl, ?_⟩) ?_ ?_
            rotate_left
            ·intro w'
             go_simp
             with_reducible rfl
            rotate_left
            ·simp only [Act.put, List.setIfInBounds_toArray, List.set_cons_zero, List.set_cons_succ, i64_w, i32_w]
             rfl
            refine done_ (done_of HT_.out (by kernel_rfl)) ?_
            try go_wp2
            (first | go_roundg kj45 | ((simp only [add_plain] at *); go_roundg kj45))
            case measure => have := HJ5.out; have := HK2.out; have := HJ45.out; omega
            case rel => exact ⟨(t151), (wrap64 (x70_2 + 1)), (by first | rfl | (simp; done) | (simp [*]; done)), H', ⟨by have := HJ5.out; have := HK2.out; have := HJ45.out; omega⟩, ⟨by (with_reducible repeat (first | apply Kd.R_alloc | apply Kd.R_drewN | apply Kd.R_drew)); exact HO153.out⟩, ⟨bK⟩, ⟨kP⟩, ⟨bB⟩⟩
        ·rw [if_neg c45] at H
         exact absurd H (by simp)
       ·rw [if_neg c44] at H
        exact absurd H (by simp)
      ·rw [if_neg c43] at H
       have c43b0 : decide (x70_2 < (l1_2.length : Int)) = false := decide_eq_false c43
       clear c43
       obtain rfl := Option.some.inj H
       go_wp2
       go_ret
       exact ⟨_, by first | rfl | (simp [errW_none, errW_some] <;> rfl) | (simp [*, errW_none, errW_some] <;> rfl), by (with_reducible repeat (first | apply Kd.R_alloc | apply Kd.R_drewN | apply Kd.R_drew)); exact HO_0.out, bB, kP⟩
end Go.Proofs.Ytjofkebiacaciaa.PAll
end
section
namespace Go.Proofs.Ytjofkebiacaciaa.PAll
open Go.RowKit Go.Proofs.YtjofkebiacaciaaW.PrintWords Go.Proofs.YtjofkebiacaciaaW.PrintLast Go.Proofs.YtjofkebiacaciaaW.PrintMore
attribute [local go_sem] max2_int min2_int max_two min_two max_three min_three max_four min_four
set_option linter.unusedVariables false
set_option linter.unusedSimpArgs false
def expr_Format.f (k : Nat) (a0_0 : Int) (a0_1 : Int) (l0_2 : List (S24)) : Option (ByteArray) := (expr_valid.f k a0_0 a0_1 l0_2).bind fun t155 => (if t155 = true then ((expr_text.f k ([] : List Int) a0_0 a0_1 l0_2 0).bind fun t156 => (some (strOfNums t156))) else (some (⟨#[]⟩ : ByteArray)))
theorem expr_Format.mono : ∀ a0 a1 a2 k, LeO (expr_Format.f k a0 a1 a2) (expr_Format.f (k + 1) a0 a1 a2) := by
 intro a0 a1 a2 k
 unfold expr_Format.f
 repeat' first
   | (with_reducible exact expr_text.mono _ _ _ _ _ _)
   | (with_reducible exact expr_valid.mono _ _ _ _)
   | (with_reducible exact LeO.refl _)
   | (with_reducible exact LeO.none _)
   | (with_reducible refine LeO.ite ?_ ?_)
   | (with_reducible refine LeO.bind ?_ (fun _ => ?_))
   | exact expr_text.mono _ _ _ _ _ _
   | exact expr_valid.mono _ _ _ _
   | exact LeO.none _
   | refine LeO.ite ?_ ?_
   | refine LeO.bind ?_ (fun _ => ?_)
set_option maxHeartbeats 8000000 in
set_option maxRecDepth 100000 in
theorem expr_Format.calls (k : Nat) (a0_0 : Int) (a0_1 : Int) (A0_2 : Option Addr) (c0_2 : Nat) (l0_2 : List (S24)) (r : ByteArray) (w : World) (hr0_2 : Kd.C k24 w A0_2 l0_2.length l0_2) (hc0_2 : l0_2.length ≤ c0_2) (h : expr_Format.f k a0_0 a0_1 l0_2 = some r) :
  Calls Try.prog 18 #[.agg #[.int .i64 a0_0, .int .i64 a0_1, .slice A0_2 l0_2.length c0_2]] w fun e w' => e = .returned (.string r) ∧ Below w.heap.size w w' := by
 have hu24 := Try.underlying24
 have HR0_2 := Aside0.mk hr0_2
 have HC0_2 := Aside0.mk hc0_2
 clear hr0_2 hc0_2
 have HB := Aside0.mk (Below.refl w.heap.size w)
 have H : ((expr_valid.f k a0_0 a0_1 l0_2).bind fun t155 => (if t155 = true then ((expr_text.f k ([] : List Int) a0_0 a0_1 l0_2 0).bind fun t156 => (some (strOfNums t156))) else (some (⟨#[]⟩ : ByteArray)))) = some r := h
 clear h
 replace H := Option.bind_eq_some_iff.mp H
 obtain ⟨t155, A20, H⟩ := H
 replace H : (if t155 = true then ((expr_text.f k ([] : List Int) a0_0 a0_1 l0_2 0).bind fun t156 => (some (strOfNums t156))) else (some (⟨#[]⟩ : ByteArray))) = some r := H
 have A2 := Aside0.mk A20
 clear A20
 by_cases c3 : t155 = true
 ·subst c3
  have H1 : ((expr_text.f k ([] : List Int) a0_0 a0_1 l0_2 0).bind fun t156 => (some (strOfNums t156))) = some r := by rw [if_pos rfl] at H; exact H
  clear H
  have H := H1
  clear H1
  replace H := Option.bind_eq_some_iff.mp H
  obtain ⟨t156, A40, H⟩ := H
  replace H : (some (strOfNums t156)) = some r := H
  have A4 := Aside0.mk A40
  clear A40
  obtain rfl := Option.some.inj H
  go_enter Try.func18, Try.ntmps18
  go_wp2_with (first | ((with_reducible refine gate_dst (N := 1) rfl ?_); refine box_event ?hg (N := 1) ?hd (cs := #[.int .i64 a0_0, .int .i64 a0_1, .slice A0_2 l0_2.length c0_2]) (t := 24) ?hr ?_; (case hd => rfl); (case hg => rfl); (case hr => first | (go_simp; done) | (go_simp; rfl)); intro gb154 hg w5 hbox hb; have n0_ := Aside0.mk (below_step (bB) hb); have n1_ := Aside0.mk (hbox); have n2_ := Aside0.mk ((by rw [hg]; exact (below_size (bB)) : w.heap.size ≤ gb154)); have n3_ := Aside0.mk ((by rw [hg]; exact (below_size (bB)) : w.heap.size ≤ gb154)); clear HB; have HB := n0_; have BK154 := n1_; have GW154 := n2_; have GE154 := n3_; clear n0_ n1_ n2_ n3_; clear hb hbox hg; have hcz6_0 : w5.cell? ⟨gb154, 0, none⟩ = some (.int .i64 a0_0) := (blk_cell BK154.out 0).trans rfl; have hcz6_1 : w5.cell? ⟨gb154, 1, none⟩ = some (.int .i64 a0_1) := (blk_cell BK154.out 1).trans rfl; have hcz6_2 : w5.cell? ⟨gb154, 2, none⟩ = some (.slice A0_2 l0_2.length c0_2) := (blk_cell BK154.out 2).trans rfl; have hfz6_0 := blk_frozen BK154.out 0; have hfz6_1 := blk_frozen BK154.out 1; have hfz6_2 := blk_frozen BK154.out 2) | ((with_reducible refine gate_callee (f := 46) rfl ?_); refine goesL_ (some 4) rfl rfl Try.func46 (by kernel_rfl) rfl #[.agg #[.int .i64 a0_0, .int .i64 a0_1, .slice A0_2 l0_2.length c0_2]] rfl (by (try simp only [List.map_toArray, List.map_cons, List.map_nil]); first | done | rfl | (simp only [List.length_drop, List.length_take]; rfl) | (simp only [Int.ofNat_lt, Int.ofNat_le]; rfl)) ?_; (with_reducible refine (expr_valid.calls k a0_0 a0_1 _ _ l0_2 true _ ?side1 ?side2 A2.out).mono ?_); (case side1 => repeat (first | exact (Kd.C_below HR0_2.out HB.out) | (with_reducible refine Kd.C_alloc ?_ _) | (with_reducible refine Kd.C_drewN ?_ _) | (with_reducible refine Kd.C_drew ?_))); (case side2 => exact HC0_2.out); rintro e w7 ⟨rfl, hb⟩; refine ⟨_, rfl, ?_⟩; have n0_ := Aside0.mk (blk_below (g := gb154) (o := .cells #[.int .i64 a0_0, .int .i64 a0_1, .slice A0_2 l0_2.length c0_2] 24 (0, 0)) (bK) hb); have n1_ := Aside0.mk (below_step (bB) hb); clear BK154; clear HB; have BK154 := n0_; have HB := n1_; clear n0_ n1_; (try clear hb); (try clear hb2); (try clear hk); (try clear hi); have hcz8_0 : w7.cell? ⟨gb154, 0, none⟩ = some (.int .i64 a0_0) := (blk_cell BK154.out 0).trans rfl; have hcz8_1 : w7.cell? ⟨gb154, 1, none⟩ = some (.int .i64 a0_1) := (blk_cell BK154.out 1).trans rfl; have hcz8_2 : w7.cell? ⟨gb154, 2, none⟩ = some (.slice A0_2 l0_2.length c0_2) := (blk_cell BK154.out 2).trans rfl; have hfz8_0 := blk_frozen BK154.out 0; have hfz8_1 := blk_frozen BK154.out 1; have hfz8_2 := blk_frozen BK154.out 2) | ((with_reducible refine gate_callee (f := 47) rfl ?_); refine goesL_ (some 7) rfl rfl Try.func47 (by kernel_rfl) rfl #[.slice none 0 0, .agg #[.int .i64 a0_0, .int .i64 a0_1, .slice A0_2 l0_2.length c0_2], .int .i64 0] rfl (by (try simp only [List.map_toArray, List.map_cons, List.map_nil]); first | done | rfl | (simp only [List.length_drop, List.length_take]; rfl) | (simp only [Int.ofNat_lt, Int.ofNat_le]; rfl)) ?_; (refine (expr_text.calls k (fun k_ => some k_ = (.slice none 0 0 : Value).ownBlock) (.slice none 0 0) ([] : List Int) a0_0 a0_1 _ _ l0_2 0 t156 w _ ?side1 ?side2 ?side3 ?side4 A4.out).mono ?_); (case side1 => repeat (first | (with_reducible first | exact HB.out | apply below_alloc | apply pw_below_drewN | apply below_drew1 | refine below_set ?_ GE154.out) | exact HB.out)); (case side2 => exact Kd.R_nil _ _ _ _ _); (case side3 => exact Kd.C_kept_came k24_heap HR0_2.out (bB) (fun k_ hs_ => (fun e_ => by simp [Value.ownBlock] at e_) hs_)); (case side4 => exact HC0_2.out); rintro e w9 ⟨v157, rfl, ho0, hb, hkp⟩; refine ⟨_, rfl, ?_⟩; have n0_ := Aside0.mk (blk_kept (bK) hkp (fun hs_ => (fun e_ => by simp [Value.ownBlock] at e_) hs_)); have n1_ := Aside0.mk (Kd.R_mono (ok' := fun k_ => True) ho0 (fun k_ hk_ => trivial)); have n2_ := Aside0.mk (hb); clear BK154; clear HB; have BK154 := n0_; have HO158 := n1_; have HB := n2_; clear n0_ n1_ n2_; (try clear hb); (try clear hkp); (try clear ho0); have hcv10 := own_string (P := Try.prog) Try.underlying43 Try.underlying5 Try.underlying9 (Kd.own_of_R HO158.out)))
  go_ret
  exact ⟨by first | rfl | (simp [errW_none, errW_some] <;> rfl) | (simp [*, errW_none, errW_some] <;> rfl), bB⟩
 ·replace c3 := Bool.eq_false_iff.mpr c3
  subst c3
  have H1 : (some (⟨#[]⟩ : ByteArray)) = some r := by rw [if_neg (show ¬ (false = true) by decide)] at H; exact H
  clear H
  have H := H1
  clear H1
  obtain rfl := Option.some.inj H
  go_enter Try.func18, Try.ntmps18
  go_wp2_with (first | ((with_reducible refine gate_dst (N := 1) rfl ?_); refine box_event ?hg (N := 1) ?hd (cs := #[.int .i64 a0_0, .int .i64 a0_1, .slice A0_2 l0_2.length c0_2]) (t := 24) ?hr ?_; (case hd => rfl); (case hg => rfl); (case hr => first | (go_simp; done) | (go_simp; rfl)); intro gb154 hg w11 hbox hb; have n0_ := Aside0.mk (below_step (bB) hb); have n1_ := Aside0.mk (hbox); have n2_ := Aside0.mk ((by rw [hg]; exact (below_size (bB)) : w.heap.size ≤ gb154)); have n3_ := Aside0.mk ((by rw [hg]; exact (below_size (bB)) : w.heap.size ≤ gb154)); clear HB; have HB := n0_; have BK154 := n1_; have GW154 := n2_; have GE154 := n3_; clear n0_ n1_ n2_ n3_; clear hb hbox hg; have hcz12_0 : w11.cell? ⟨gb154, 0, none⟩ = some (.int .i64 a0_0) := (blk_cell BK154.out 0).trans rfl; have hcz12_1 : w11.cell? ⟨gb154, 1, none⟩ = some (.int .i64 a0_1) := (blk_cell BK154.out 1).trans rfl; have hcz12_2 : w11.cell? ⟨gb154, 2, none⟩ = some (.slice A0_2 l0_2.length c0_2) := (blk_cell BK154.out 2).trans rfl; have hfz12_0 := blk_frozen BK154.out 0; have hfz12_1 := blk_frozen BK154.out 1; have hfz12_2 := blk_frozen BK154.out 2) | ((with_reducible refine gate_callee (f := 46) rfl ?_); refine goesL_ (some 4) rfl rfl Try.func46 (by kernel_rfl) rfl #[.agg #[.int .i64 a0_0, .int .i64 a0_1, .slice A0_2 l0_2.length c0_2]] rfl (by (try simp only [List.map_toArray, List.map_cons, List.map_nil]); first | done | rfl | (simp only [List.length_drop, List.length_take]; rfl) | (simp only [Int.ofNat_lt, Int.ofNat_le]; rfl)) ?_; (with_reducible refine (expr_valid.calls k a0_0 a0_1 _ _ l0_2 false _ ?side1 ?side2 A2.out).mono ?_); (case side1 => repeat (first | exact (Kd.C_below HR0_2.out HB.out) | (with_reducible refine Kd.C_alloc ?_ _) | (with_reducible refine Kd.C_drewN ?_ _) | (with_reducible refine Kd.C_drew ?_))); (case side2 => exact HC0_2.out); rintro e w13 ⟨rfl, hb⟩; refine ⟨_, rfl, ?_⟩; have n0_ := Aside0.mk (blk_below (g := gb154) (o := .cells #[.int .i64 a0_0, .int .i64 a0_1, .slice A0_2 l0_2.length c0_2] 24 (0, 0)) (bK) hb); have n1_ := Aside0.mk (below_step (bB) hb); clear BK154; clear HB; have BK154 := n0_; have HB := n1_; clear n0_ n1_; (try clear hb); (try clear hb2); (try clear hk); (try clear hi)))
  go_ret
  exact ⟨by first | rfl | (simp [errW_none, errW_some] <;> rfl) | (simp [*, errW_none, errW_some] <;> rfl), bB⟩
end Go.Proofs.Ytjofkebiacaciaa.PAll
end
section
namespace Go.Proofs.Ytjofkebiacaciaa.PAll
open Go.RowKit Go.Proofs.YtjofkebiacaciaaW.PrintWords Go.Proofs.YtjofkebiacaciaaW.PrintLast Go.Proofs.YtjofkebiacaciaaW.PrintMore
attribute [local go_sem] max2_int min2_int max_two min_two max_three min_three max_four min_four
set_option linter.unusedVariables false
set_option linter.unusedSimpArgs false
def simplify_Empty.f  : Option (Int × Int × (List (S24))) := some (1, 0, ([] : List (S24)))
set_option maxHeartbeats 8000000 in
set_option maxRecDepth 100000 in
theorem simplify_Empty.calls  (r1 : Int) (r2 : Int) (r3 : List (S24)) (w : World) (h : simplify_Empty.f  = some (r1, r2, r3)) :
  Calls Try.prog 90 #[] w fun e w' => ∃ v2_ : Value, e = .returned (.agg #[.int .i64 r1, .int .i64 r2, v2_]) ∧ Kd.R k24 24 w' w.heap.size (fun _ => True) v2_ r3 ∧ Below w.heap.size w w' := by
 have hu24 := Try.underlying24
 have HB := Aside0.mk (Below.refl w.heap.size w)
 have H : (some (1, 0, ([] : List (S24)))) = some (r1, r2, r3) := h
 clear h
 simp only [Option.some.injEq, Prod.mk.injEq] at H
 obtain ⟨rfl, rfl, rfl⟩ := H
 go_enter Try.func90, Try.ntmps90
 go_wp2_with (first | ((with_reducible refine gate_dst (N := 0) rfl ?_); refine box_event ?hg (N := 0) ?hd (cs := #[.int .i64 0, .int .i64 0, .slice none 0 0]) (t := 24) ?hr ?_; (case hd => rfl); (case hg => rfl); (case hr => first | (go_simp; done) | (go_simp; rfl)); intro gb161 hg w1 hbox hb; have n0_ := Aside0.mk (below_step (bB) hb); have n1_ := Aside0.mk (hbox); have n2_ := Aside0.mk ((by rw [hg]; exact (below_size (bB)) : w.heap.size ≤ gb161)); have n3_ := Aside0.mk ((by rw [hg]; exact (below_size (bB)) : w.heap.size ≤ gb161)); clear HB; have HB := n0_; have BK161 := n1_; have GW161 := n2_; have GE161 := n3_; clear n0_ n1_ n2_ n3_; clear hb hbox hg; have hcz2_0 : w1.cell? ⟨gb161, 0, none⟩ = some (.int .i64 0) := (blk_cell BK161.out 0).trans rfl; have hcz2_1 : w1.cell? ⟨gb161, 1, none⟩ = some (.int .i64 0) := (blk_cell BK161.out 1).trans rfl; have hcz2_2 : w1.cell? ⟨gb161, 2, none⟩ = some (.slice none 0 0) := (blk_cell BK161.out 2).trans rfl; have hfz2_0 := blk_frozen BK161.out 0; have hfz2_1 := blk_frozen BK161.out 1; have hfz2_2 := blk_frozen BK161.out 2))
 refine bodyPost_ret (results_cell_row rfl _ _ gb161 24 #[.int .i64 1, .int .i64 0, .slice none 0 0] (0, 0) _ rfl (by (with_reducible repeat (first | refine blk_drewN ?_ _ | refine blk_drew ?_ | refine blk_alloc ?_ _)); refine blk_put (cs := #[.int .i64 1, .int .i64 0, .slice none 0 0]) ?_ 2 _ rfl; (with_reducible repeat (first | refine blk_drewN ?_ _ | refine blk_drew ?_ | refine blk_alloc ?_ _)); refine blk_put (cs := #[.int .i64 1, .int .i64 0, .slice none 0 0]) ?_ 1 _ rfl; (with_reducible repeat (first | refine blk_drewN ?_ _ | refine blk_drew ?_ | refine blk_alloc ?_ _)); refine blk_put (cs := #[.int .i64 0, .int .i64 0, .slice none 0 0]) ?_ 0 _ rfl; (with_reducible repeat (first | refine blk_drewN ?_ _ | refine blk_drew ?_ | refine blk_alloc ?_ _)); exact BK161.out) Try.underlying24 rfl (by kernel_rfl)) rfl ?_
 exact ⟨_, by first | rfl | (simp [errW_none, errW_some] <;> rfl) | (simp [*, errW_none, errW_some] <;> rfl), by first | exact Kd.R_nil _ _ _ _ _ | exact Kd.N_nil _ _ _ _ _ | exact Kd.V_nil _ _ _ _ _ | exact Kd.Q_nil _ _ _ _ _ | exact Kd.S_nil _ _ _ _ _, bB⟩
end Go.Proofs.Ytjofkebiacaciaa.PAll
end
section
namespace Go.Proofs.Ytjofkebiacaciaa.PAll
open Go.RowKit Go.Proofs.YtjofkebiacaciaaW.PrintWords Go.Proofs.YtjofkebiacaciaaW.PrintLast Go.Proofs.YtjofkebiacaciaaW.PrintMore
attribute [local go_sem] max2_int min2_int max_two min_two max_three min_three max_four min_four
set_option linter.unusedVariables false
set_option linter.unusedSimpArgs false
def simplify_Unit.f  : Option (Int × Int × (List (S24))) := some (2, 0, ([] : List (S24)))
set_option maxHeartbeats 8000000 in
set_option maxRecDepth 100000 in
theorem simplify_Unit.calls  (r1 : Int) (r2 : Int) (r3 : List (S24)) (w : World) (h : simplify_Unit.f  = some (r1, r2, r3)) :
  Calls Try.prog 91 #[] w fun e w' => ∃ v2_ : Value, e = .returned (.agg #[.int .i64 r1, .int .i64 r2, v2_]) ∧ Kd.R k24 24 w' w.heap.size (fun _ => True) v2_ r3 ∧ Below w.heap.size w w' := by
 have hu24 := Try.underlying24
 have HB := Aside0.mk (Below.refl w.heap.size w)
 have H : (some (2, 0, ([] : List (S24)))) = some (r1, r2, r3) := h
 clear h
 simp only [Option.some.injEq, Prod.mk.injEq] at H
 obtain ⟨rfl, rfl, rfl⟩ := H
 go_enter Try.func91, Try.ntmps91
 go_wp2_with (first | ((with_reducible refine gate_dst (N := 0) rfl ?_); refine box_event ?hg (N := 0) ?hd (cs := #[.int .i64 0, .int .i64 0, .slice none 0 0]) (t := 24) ?hr ?_; (case hd => rfl); (case hg => rfl); (case hr => first | (go_simp; done) | (go_simp; rfl)); intro gb162 hg w1 hbox hb; have n0_ := Aside0.mk (below_step (bB) hb); have n1_ := Aside0.mk (hbox); have n2_ := Aside0.mk ((by rw [hg]; exact (below_size (bB)) : w.heap.size ≤ gb162)); have n3_ := Aside0.mk ((by rw [hg]; exact (below_size (bB)) : w.heap.size ≤ gb162)); clear HB; have HB := n0_; have BK162 := n1_; have GW162 := n2_; have GE162 := n3_; clear n0_ n1_ n2_ n3_; clear hb hbox hg; have hcz2_0 : w1.cell? ⟨gb162, 0, none⟩ = some (.int .i64 0) := (blk_cell BK162.out 0).trans rfl; have hcz2_1 : w1.cell? ⟨gb162, 1, none⟩ = some (.int .i64 0) := (blk_cell BK162.out 1).trans rfl; have hcz2_2 : w1.cell? ⟨gb162, 2, none⟩ = some (.slice none 0 0) := (blk_cell BK162.out 2).trans rfl; have hfz2_0 := blk_frozen BK162.out 0; have hfz2_1 := blk_frozen BK162.out 1; have hfz2_2 := blk_frozen BK162.out 2))
 refine bodyPost_ret (results_cell_row rfl _ _ gb162 24 #[.int .i64 2, .int .i64 0, .slice none 0 0] (0, 0) _ rfl (by (with_reducible repeat (first | refine blk_drewN ?_ _ | refine blk_drew ?_ | refine blk_alloc ?_ _)); refine blk_put (cs := #[.int .i64 2, .int .i64 0, .slice none 0 0]) ?_ 2 _ rfl; (with_reducible repeat (first | refine blk_drewN ?_ _ | refine blk_drew ?_ | refine blk_alloc ?_ _)); refine blk_put (cs := #[.int .i64 2, .int .i64 0, .slice none 0 0]) ?_ 1 _ rfl; (with_reducible repeat (first | refine blk_drewN ?_ _ | refine blk_drew ?_ | refine blk_alloc ?_ _)); refine blk_put (cs := #[.int .i64 0, .int .i64 0, .slice none 0 0]) ?_ 0 _ rfl; (with_reducible repeat (first | refine blk_drewN ?_ _ | refine blk_drew ?_ | refine blk_alloc ?_ _)); exact BK162.out) Try.underlying24 rfl (by kernel_rfl)) rfl ?_
 exact ⟨_, by first | rfl | (simp [errW_none, errW_some] <;> rfl) | (simp [*, errW_none, errW_some] <;> rfl), by first | exact Kd.R_nil _ _ _ _ _ | exact Kd.N_nil _ _ _ _ _ | exact Kd.V_nil _ _ _ _ _ | exact Kd.Q_nil _ _ _ _ _ | exact Kd.S_nil _ _ _ _ _, bB⟩
end Go.Proofs.Ytjofkebiacaciaa.PAll
end
section
namespace Go.Proofs.Ytjofkebiacaciaa.PAll
open Go.RowKit Go.Proofs.YtjofkebiacaciaaW.PrintWords Go.Proofs.YtjofkebiacaciaaW.PrintLast Go.Proofs.YtjofkebiacaciaaW.PrintMore
attribute [local go_sem] max2_int min2_int max_two min_two max_three min_three max_four min_four
set_option linter.unusedVariables false
set_option linter.unusedSimpArgs false
def IsS50 (w0 W : World) (g : Nat) (f0 : ByteArray) (f1 : Int) (f2 : Int) : Prop := W.heap[g]? = some (.cells #[.string f0, .int .i64 f1, .int .i64 f2] 50 (0, 0)) ∧ w0.heap.size ≤ g
theorem IsS50.grown {w0 W : World} {g : Nat} {f0 : ByteArray} {f1 : Int} {f2 : Int} {W1 : World} {row : Option Nat} (h : IsS50 w0 W g f0 f1 f2) (hw : W.grownBy W1 row) (hne : some g ≠ row) : IsS50 w0 W1 g f0 f1 f2 := by
 obtain ⟨hb, hg⟩ := h
 exact ⟨blk_grown hb hw hne, hg⟩
theorem IsS50.own_neN {w0 W : World} {g : Nat} {f0 : ByteArray} {f1 : Int} {f2 : Int} {α : Type} {d : Kd α} {e : Nat} {base : Nat} {ok : Nat → Prop} {v : Value} {xs : List α} (h : IsS50 w0 W g f0 f1 f2) (ho : Kd.N d e W base ok v xs) (ht : e ≠ 50) : some g ≠ v.ownBlock := by
 obtain ⟨hb, hg⟩ := h
 exact Kd.N_ne ho hb ht
theorem IsS50.fresh {w0 W : World} {g : Nat} {f0 : ByteArray} {f1 : Int} {f2 : Int} (h : IsS50 w0 W g f0 f1 f2) : ∀ k, W.heap.size ≤ k → k ≠ g := by
 obtain ⟨hb, hg⟩ := h
 exact Kd.freshB hb
theorem IsS50.kept {w0 W : World} {g : Nat} {f0 : ByteArray} {f1 : Int} {f2 : Int} {W1 : World} {S : Nat → Prop} (h : IsS50 w0 W g f0 f1 f2) (hk : Kept W W1 S) (hne : ¬ S g) : IsS50 w0 W1 g f0 f1 f2 := by
 obtain ⟨hb, hg⟩ := h
 exact ⟨blk_kept hb hk hne, hg⟩
theorem IsS50.below {w0 W : World} {g : Nat} {f0 : ByteArray} {f1 : Int} {f2 : Int} {W1 : World} (h : IsS50 w0 W g f0 f1 f2) (hw : Below W.heap.size W W1) : IsS50 w0 W1 g f0 f1 f2 := h.grown (grown_of_below hw none) (by simp)
theorem IsS50.alloc {w0 W : World} {g : Nat} {f0 : ByteArray} {f1 : Int} {f2 : Int} (h : IsS50 w0 W g f0 f1 f2) (o : Obj) : IsS50 w0 (W.alloc o) g f0 f1 f2 := h.below (below_alloc (Below.refl _ _) o)
theorem IsS50.drewN {w0 W : World} {g : Nat} {f0 : ByteArray} {f1 : Int} {f2 : Int} (h : IsS50 w0 W g f0 f1 f2) (m : Nat) : IsS50 w0 (W.drewN m) g f0 f1 f2 := h
theorem IsS50.drew {w0 W : World} {g : Nat} {f0 : ByteArray} {f1 : Int} {f2 : Int} (h : IsS50 w0 W g f0 f1 f2) : IsS50 w0 W.drew g f0 f1 f2 := h
theorem IsS50.at_ {w0 W : World} {g : Nat} {f0 : ByteArray} {f1 : Int} {f2 : Int} {w' : World} {m : Nat} (hq : W.drewN m = w') (h : IsS50 w0 W g f0 f1 f2) : IsS50 w0 w' g f0 f1 f2 := by subst hq; exact IsS50.drewN h m
theorem IsS50.apart {w0 W : World} {g : Nat} {f0 : ByteArray} {f1 : Int} {f2 : Int} {α : Type} {d : Kd α} {e : Nat} {base : Nat} {ok : Nat → Prop} {v : Value} {xs : List α} (h : IsS50 w0 W g f0 f1 f2) (ho : d.R e W base ok v xs) (ht : ∀ q, q ∈ e :: d.E → q ≠ 50) : d.R e W base (fun k => ok k ∧ k ≠ g) v xs := by
 obtain ⟨hb, hg⟩ := h
 exact Kd.R_types ho hb ht
theorem IsS50.own_ne {w0 W : World} {g : Nat} {f0 : ByteArray} {f1 : Int} {f2 : Int} {α : Type} {d : Kd α} {e : Nat} {base : Nat} {ok : Nat → Prop} {v : Value} {xs : List α} (h : IsS50 w0 W g f0 f1 f2) (ho : d.R e W base ok v xs) (ht : e ≠ 50) : some g ≠ v.ownBlock := by
 obtain ⟨hb, hg⟩ := h
 exact Kd.R_ne ho hb ht
theorem IsS50.lt {w0 W : World} {g : Nat} {f0 : ByteArray} {f1 : Int} {f2 : Int} (h : IsS50 w0 W g f0 f1 f2) : g < W.heap.size := by
 obtain ⟨hb, hg⟩ := h
 exact blk_lt hb
theorem IsS50.ge {w0 W : World} {g : Nat} {f0 : ByteArray} {f1 : Int} {f2 : Int} (h : IsS50 w0 W g f0 f1 f2) : w0.heap.size ≤ g := by
 obtain ⟨hb, hg⟩ := h
 exact hg
theorem IsS50.far {w0 W : World} {g : Nat} {f0 : ByteArray} {f1 : Int} {f2 : Int} {p : Addr} (h : IsS50 w0 W g f0 f1 f2) (hne : g ≠ p.block) (u : Value) : IsS50 w0 (W.setCell p u) g f0 f1 f2 := by
 obtain ⟨hb, hg⟩ := h
 exact ⟨blk_far hb hne u, hg⟩
theorem cellS50_0 {W : World} {g : Nat} {f0 : ByteArray} {f1 : Int} {f2 : Int} (h : W.heap[g]? = some (.cells #[.string f0, .int .i64 f1, .int .i64 f2] 50 (0, 0))) : W.cell? ⟨g, 0, none⟩ = some (.string f0) := (blk_cell h 0).trans rfl
theorem IsS50.set_0 {w0 W : World} {g : Nat} {f0 : ByteArray} {f1 : Int} {f2 : Int} (h : IsS50 w0 W g f0 f1 f2) (x : ByteArray) : IsS50 w0 (W.setCell ⟨g, 0, none⟩ (.string x)) g x f1 f2 := by
 obtain ⟨hb, hg⟩ := h
 exact ⟨by simpa using blk_set hb 0 (.string x), hg⟩
theorem cellS50_1 {W : World} {g : Nat} {f0 : ByteArray} {f1 : Int} {f2 : Int} (h : W.heap[g]? = some (.cells #[.string f0, .int .i64 f1, .int .i64 f2] 50 (0, 0))) : W.cell? ⟨g, 1, none⟩ = some (.int .i64 f1) := (blk_cell h 1).trans rfl
theorem IsS50.set_1 {w0 W : World} {g : Nat} {f0 : ByteArray} {f1 : Int} {f2 : Int} (h : IsS50 w0 W g f0 f1 f2) (x : Int) : IsS50 w0 (W.setCell ⟨g, 1, none⟩ (.int .i64 x)) g f0 x f2 := by
 obtain ⟨hb, hg⟩ := h
 exact ⟨by simpa using blk_set hb 1 (.int .i64 x), hg⟩
theorem cellS50_2 {W : World} {g : Nat} {f0 : ByteArray} {f1 : Int} {f2 : Int} (h : W.heap[g]? = some (.cells #[.string f0, .int .i64 f1, .int .i64 f2] 50 (0, 0))) : W.cell? ⟨g, 2, none⟩ = some (.int .i64 f2) := (blk_cell h 2).trans rfl
theorem IsS50.set_2 {w0 W : World} {g : Nat} {f0 : ByteArray} {f1 : Int} {f2 : Int} (h : IsS50 w0 W g f0 f1 f2) (x : Int) : IsS50 w0 (W.setCell ⟨g, 2, none⟩ (.int .i64 x)) g f0 f1 x := by
 obtain ⟨hb, hg⟩ := h
 exact ⟨by simpa using blk_set hb 2 (.int .i64 x), hg⟩
def expr_parser_peek.l0 : Nat → ByteArray → Int → Int → Option (Int × ByteArray × Int × Int)
 | 0, _, _, _ => none
 | k + 1, x1000, x1001, x1002 => if x1002 < (x1000.size : Int) then (if 0 ≤ x1002 then (if (bt x1000 x1002) = 32 then (expr_parser_peek.l0 k x1000 x1001 (wrap64 (x1002 + 1))) else (if x1002 ≥ (x1000.size : Int) then (some (0, x1000, x1001, x1002)) else (some (bt x1000 x1002, x1000, x1001, x1002)))) else (none)) else (if x1002 ≥ (x1000.size : Int) then (some (0, x1000, x1001, x1002)) else (if 0 ≤ x1002 then (none) else (none)))
def expr_parser_peek.f (k : Nat) (s0_0 : ByteArray) (s0_1 : Int) (s0_2 : Int) : Option (Int × ByteArray × Int × Int) := expr_parser_peek.l0 k s0_0 s0_1 s0_2
theorem expr_parser_peek.mono_l : ∀ k, (∀ y0 y1 y2, LeO (expr_parser_peek.l0 k y0 y1 y2) (expr_parser_peek.l0 (k + 1) y0 y1 y2))
 | 0 => fun _ _ _ r h => by simp [expr_parser_peek.l0] at h
 | k + 1 => by
  have ih0 := expr_parser_peek.mono_l k
  ·intro y0 y1 y2
   unfold expr_parser_peek.l0
   repeat' first
   | (with_reducible exact ih0 _ _ _)
   | (with_reducible exact LeO.refl _)
   | (with_reducible exact LeO.none _)
   | (with_reducible refine LeO.ite ?_ ?_)
   | (with_reducible refine LeO.bind ?_ (fun _ => ?_))
   | exact ih0 _ _ _
   | exact LeO.none _
   | refine LeO.ite ?_ ?_
   | refine LeO.bind ?_ (fun _ => ?_)
theorem expr_parser_peek.mono : ∀ a0 a1 a2 k, LeO (expr_parser_peek.f k a0 a1 a2) (expr_parser_peek.f (k + 1) a0 a1 a2) := by
 intro a0 a1 a2 k
 have ih0 := expr_parser_peek.mono_l k
 unfold expr_parser_peek.f
 repeat' first
   | (with_reducible exact ih0 _ _ _)
   | (with_reducible exact LeO.refl _)
   | (with_reducible exact LeO.none _)
   | (with_reducible refine LeO.ite ?_ ?_)
   | (with_reducible refine LeO.bind ?_ (fun _ => ?_))
   | exact ih0 _ _ _
   | exact LeO.none _
   | refine LeO.ite ?_ ?_
   | refine LeO.bind ?_ (fun _ => ?_)
set_option maxHeartbeats 8000000 in
set_option maxRecDepth 100000 in
theorem expr_parser_peek.calls (k : Nat) (g : Nat) (s0_0 : ByteArray) (s0_1 : Int) (s0_2 : Int) (r1 : Int) (r2 : ByteArray) (r3 : Int) (r4 : Int) (w0 w : World) (hI : IsS50 w0 w g s0_0 s0_1 s0_2) (hB : Below w0.heap.size w0 w) (h : expr_parser_peek.f k s0_0 s0_1 s0_2 = some (r1, r2, r3, r4)) :
  Calls Try.prog 51 #[.pointer (some ⟨g, 0, none⟩)] w fun e w' => e = .returned (.int .u8 r1) ∧ IsS50 w0 w' g r2 r3 r4 ∧ Below w0.heap.size w0 w' ∧ KeepBut w w' g none := by
 have HI0 := Aside0.mk hI
 have HK := Aside0.mk (KeepBut.refl w g none)
 have HL := Aside0.mk hB.size
 clear hI
 have HW0 := Aside0.mk hB.size
 have HB := Aside0.mk hB
 clear hB
 have H : (expr_parser_peek.l0 k s0_0 s0_1 s0_2) = some (r1, r2, r3, r4) := h
 clear h
 have H' := Aside0.mk H
 clear H
 go_enter Try.func51, Try.ntmps51
 go_wp2
 repeat (go_quiet (fail); try go_wp2)
 go_loopg [] k (fun kq w' => ∃ (x1002_1 : Int), Aside0 (expr_parser_peek.l0 kq s0_0 s0_1 x1002_1 = some (r1, r2, r3, r4)) ∧ Aside0 (kq ≤ k) ∧ Aside0 (IsS50 w0 w' g s0_0 s0_1 x1002_1) ∧ Aside0 (KeepBut w w' g none) ∧ Aside0 (Below w0.heap.size w0 w'))
 case atStart => exact ⟨(s0_2), H', ⟨Nat.le_refl _⟩, ⟨by repeat (first | (with_reducible first | exact HI0.out | apply IsS50.alloc | apply IsS50.drewN | apply IsS50.drew | apply IsS50.set_0 | apply IsS50.set_1 | apply IsS50.set_2) | exact HI0.out)⟩, ⟨kK⟩, ⟨by repeat (first | (with_reducible first | exact HB.out | apply below_alloc | apply pw_below_drewN | apply below_drew1 | refine below_set ?_ (IsS50.ge HI0.out)) | exact HB.out)⟩⟩
 case round =>
  clear H'
  obtain ⟨x1002_1, HA, HK1, HI0, HK, HB⟩ := hrel
  cases gk with
  | zero => exact absurd HA.out (by simp [expr_parser_peek.l0])
  | succ k1 =>
   have H := HA.out
   clear HA
   simp only [expr_parser_peek.l0] at H
   by_cases c2 : x1002_1 < (s0_0.size : Int)
   ·rw [if_pos c2] at H
    have c2b0 : decide (x1002_1 < (s0_0.size : Int)) = true := decide_eq_true c2
    clear c2
    by_cases c3 : 0 ≤ x1002_1
    ·rw [if_pos c3] at H
     have c3b0 : decide (0 ≤ x1002_1) = true := decide_eq_true c3
     clear c3
     by_cases c5 : (bt s0_0 x1002_1) = 32
     ·rw [if_pos c5] at H
      have c5b0 : ((bt s0_0 x1002_1) == 32) = true := beq_iff_eq.mpr c5
      have c5b1 : ((bt s0_0 x1002_1) != 32) = false := bne_eq_false_iff_eq.mpr c5
      clear c5
      have H' := Aside0.mk H
      clear H
      obtain ⟨HGz6, hgz6⟩ := HI0.out
      have hcz6_0 := cellS50_0 HGz6
      have hcz6_1 := cellS50_1 HGz6
      have hcz6_2 := cellS50_2 HGz6
      have hfz6_0 := blk_frozen HGz6 0
      have hfz6_1 := blk_frozen HGz6 1
      have hfz6_2 := blk_frozen HGz6 2
      clear HGz6 hgz6
      have p4 : 0 ≤ (x1002_1 : Int) := of_decide_eq_true (by first | (with_reducible assumption) | assumption)
      have q4 : x1002_1 < (s0_0.size : Int) := of_decide_eq_true (by first | (with_reducible assumption) | assumption)
      have hx4 := bt_at s0_0 x1002_1
      replace p4 := eq_true p4
      replace q4 := eq_true q4
      go_wp2
      repeat (go_quiet (fail); try go_wp2)
      (first | go_roundg k1 | ((simp only [add_plain] at *); go_roundg k1))
      case measure => have := HK1.out; omega
      case rel => exact ⟨(wrap64 (x1002_1 + 1)), H', ⟨by have := HK1.out; omega⟩, ⟨by repeat (first | (with_reducible first | exact HI0.out | apply IsS50.alloc | apply IsS50.drewN | apply IsS50.drew | apply IsS50.set_0 | apply IsS50.set_1 | apply IsS50.set_2) | exact HI0.out)⟩, ⟨kK⟩, ⟨by repeat (first | (with_reducible first | exact HB.out | apply below_alloc | apply pw_below_drewN | apply below_drew1 | refine below_set ?_ (IsS50.ge HI0.out)) | exact HB.out)⟩⟩
     ·rw [if_neg c5] at H
      have c5b0 : ((bt s0_0 x1002_1) == 32) = false := beq_eq_false_iff_ne.mpr c5
      have c5b1 : ((bt s0_0 x1002_1) != 32) = true := bne_iff_ne.mpr c5
      by_cases c7 : x1002_1 ≥ (s0_0.size : Int)
      ·rw [if_pos c7] at H
       have c7b0 : decide ((s0_0.size : Int) ≤ x1002_1) = true := decide_eq_true c7
       clear c7
       simp only [Option.some.injEq, Prod.mk.injEq] at H
       obtain ⟨rfl, rfl, rfl, rfl⟩ := H
       obtain ⟨HGz8, hgz8⟩ := HI0.out
       have hcz8_0 := cellS50_0 HGz8
       have hcz8_1 := cellS50_1 HGz8
       have hcz8_2 := cellS50_2 HGz8
       have hfz8_0 := blk_frozen HGz8 0
       have hfz8_1 := blk_frozen HGz8 1
       have hfz8_2 := blk_frozen HGz8 2
       clear HGz8 hgz8
       have p4 : 0 ≤ (x1002_1 : Int) := of_decide_eq_true (by first | (with_reducible assumption) | assumption)
       have q4 : x1002_1 < (s0_0.size : Int) := of_decide_eq_true (by first | (with_reducible assumption) | assumption)
       have hx4 := bt_at s0_0 x1002_1
       replace p4 := eq_true p4
       replace q4 := eq_true q4
       go_wp2
       repeat (go_quiet (fail); try go_wp2)
       go_ret
       exact ⟨by first | rfl | (simp [errW_none, errW_some] <;> rfl) | (simp [*, errW_none, errW_some] <;> rfl), by repeat (first | (with_reducible first | exact HI0.out | apply IsS50.alloc | apply IsS50.drewN | apply IsS50.drew | apply IsS50.set_0 | apply IsS50.set_1 | apply IsS50.set_2) | exact HI0.out), by repeat (first | (with_reducible first | exact HB.out | apply below_alloc | apply pw_below_drewN | apply below_drew1 | refine below_set ?_ (IsS50.ge HI0.out)) | exact HB.out), kK⟩
      ·rw [if_neg c7] at H
       have c7b0 : decide ((s0_0.size : Int) ≤ x1002_1) = false := decide_eq_false c7
       clear c7
       simp only [Option.some.injEq, Prod.mk.injEq] at H
       obtain ⟨rfl, rfl, rfl, rfl⟩ := H
       obtain ⟨HGz10, hgz10⟩ := HI0.out
       have hcz10_0 := cellS50_0 HGz10
       have hcz10_1 := cellS50_1 HGz10
       have hcz10_2 := cellS50_2 HGz10
       have hfz10_0 := blk_frozen HGz10 0
       have hfz10_1 := blk_frozen HGz10 1
       have hfz10_2 := blk_frozen HGz10 2
       clear HGz10 hgz10
       have p4 : 0 ≤ (x1002_1 : Int) := of_decide_eq_true (by first | (with_reducible assumption) | assumption)
       have q4 : x1002_1 < (s0_0.size : Int) := of_decide_eq_true (by first | (with_reducible assumption) | assumption)
       have hx4 := bt_at s0_0 x1002_1
       replace p4 := eq_true p4
       replace q4 := eq_true q4
       have p9 : 0 ≤ (x1002_1 : Int) := of_decide_eq_true (by first | (with_reducible assumption) | assumption)
       have q9 : x1002_1 < (s0_0.size : Int) := of_decide_eq_true (by first | (with_reducible assumption) | assumption)
       have hx9 := bt_at s0_0 x1002_1
       replace p9 := eq_true p9
       replace q9 := eq_true q9
       go_wp2
       repeat (go_quiet (fail); try go_wp2)
       go_ret
       exact ⟨by first | rfl | (simp [errW_none, errW_some] <;> rfl) | (simp [*, errW_none, errW_some] <;> rfl), by repeat (first | (with_reducible first | exact HI0.out | apply IsS50.alloc | apply IsS50.drewN | apply IsS50.drew | apply IsS50.set_0 | apply IsS50.set_1 | apply IsS50.set_2) | exact HI0.out), by repeat (first | (with_reducible first | exact HB.out | apply below_alloc | apply pw_below_drewN | apply below_drew1 | refine below_set ?_ (IsS50.ge HI0.out)) | exact HB.out), kK⟩
    ·rw [if_neg c3] at H
     exact absurd H (by simp)
   ·rw [if_neg c2] at H
    have c2b0 : decide (x1002_1 < (s0_0.size : Int)) = false := decide_eq_false c2
    clear c2
    by_cases c11 : x1002_1 ≥ (s0_0.size : Int)
    ·rw [if_pos c11] at H
     have c11b0 : decide ((s0_0.size : Int) ≤ x1002_1) = true := decide_eq_true c11
     clear c11
     simp only [Option.some.injEq, Prod.mk.injEq] at H
     obtain ⟨rfl, rfl, rfl, rfl⟩ := H
     obtain ⟨HGz12, hgz12⟩ := HI0.out
     have hcz12_0 := cellS50_0 HGz12
     have hcz12_1 := cellS50_1 HGz12
     have hcz12_2 := cellS50_2 HGz12
     have hfz12_0 := blk_frozen HGz12 0
     have hfz12_1 := blk_frozen HGz12 1
     have hfz12_2 := blk_frozen HGz12 2
     clear HGz12 hgz12
     go_wp2
     repeat (go_quiet (fail); try go_wp2)
     go_ret
     exact ⟨by first | rfl | (simp [errW_none, errW_some] <;> rfl) | (simp [*, errW_none, errW_some] <;> rfl), by repeat (first | (with_reducible first | exact HI0.out | apply IsS50.alloc | apply IsS50.drewN | apply IsS50.drew | apply IsS50.set_0 | apply IsS50.set_1 | apply IsS50.set_2) | exact HI0.out), by repeat (first | (with_reducible first | exact HB.out | apply below_alloc | apply pw_below_drewN | apply below_drew1 | refine below_set ?_ (IsS50.ge HI0.out)) | exact HB.out), kK⟩
    ·rw [if_neg c11] at H
     have c11b0 : decide ((s0_0.size : Int) ≤ x1002_1) = false := decide_eq_false c11
     clear c11
     by_cases c13 : 0 ≤ x1002_1
     ·rw [if_pos c13] at H
      exact absurd H (by simp)
     ·rw [if_neg c13] at H
      exact absurd H (by simp)
end Go.Proofs.Ytjofkebiacaciaa.PAll
end
section
namespace Go.Proofs.Ytjofkebiacaciaa.PAll
open Go.RowKit Go.Proofs.YtjofkebiacaciaaW.PrintWords Go.Proofs.YtjofkebiacaciaaW.PrintLast Go.Proofs.YtjofkebiacaciaaW.PrintMore
attribute [local go_sem] max2_int min2_int max_two min_two max_three min_three max_four min_four
set_option linter.unusedVariables false
set_option linter.unusedSimpArgs false
def expr_parser_letter.f (k : Nat) (s0_0 : ByteArray) (s0_1 : Int) (s0_2 : Int) : Option (Bool × ByteArray × Int × Int) := (expr_parser_peek.f k s0_0 s0_1 s0_2).bind fun bt163 => (if bt163.1 ≥ 97 then (some (decide (((bt163.1 - 97) % 256) < bt163.2.2.1), bt163.2.1, bt163.2.2.1, bt163.2.2.2)) else (some (false, bt163.2.1, bt163.2.2.1, bt163.2.2.2)))
theorem expr_parser_letter.mono : ∀ a0 a1 a2 k, LeO (expr_parser_letter.f k a0 a1 a2) (expr_parser_letter.f (k + 1) a0 a1 a2) := by
 intro a0 a1 a2 k
 unfold expr_parser_letter.f
 repeat' first
   | (with_reducible exact expr_parser_peek.mono _ _ _ _)
   | (with_reducible exact LeO.refl _)
   | (with_reducible exact LeO.none _)
   | (with_reducible refine LeO.ite ?_ ?_)
   | (with_reducible refine LeO.bind ?_ (fun _ => ?_))
   | exact expr_parser_peek.mono _ _ _ _
   | exact LeO.none _
   | refine LeO.ite ?_ ?_
   | refine LeO.bind ?_ (fun _ => ?_)
set_option maxHeartbeats 8000000 in
set_option maxRecDepth 100000 in
theorem expr_parser_letter.calls (k : Nat) (g : Nat) (s0_0 : ByteArray) (s0_1 : Int) (s0_2 : Int) (r1 : Bool) (r2 : ByteArray) (r3 : Int) (r4 : Int) (w0 w : World) (hI : IsS50 w0 w g s0_0 s0_1 s0_2) (hB : Below w0.heap.size w0 w) (h : expr_parser_letter.f k s0_0 s0_1 s0_2 = some (r1, r2, r3, r4)) :
  Calls Try.prog 97 #[.pointer (some ⟨g, 0, none⟩)] w fun e w' => e = .returned (.bool r1) ∧ IsS50 w0 w' g r2 r3 r4 ∧ Below w0.heap.size w0 w' ∧ KeepBut w w' g none := by
 have HI0 := Aside0.mk hI
 have HK := Aside0.mk (KeepBut.refl w g none)
 have HL := Aside0.mk hB.size
 clear hI
 have HW0 := Aside0.mk hB.size
 have HB := Aside0.mk hB
 clear hB
 have H : ((expr_parser_peek.f k s0_0 s0_1 s0_2).bind fun bt163 => (if bt163.1 ≥ 97 then (some (decide (((bt163.1 - 97) % 256) < bt163.2.2.1), bt163.2.1, bt163.2.2.1, bt163.2.2.2)) else (some (false, bt163.2.1, bt163.2.2.1, bt163.2.2.2)))) = some (r1, r2, r3, r4) := h
 clear h
 replace H := Option.bind_eq_some_iff.mp H
 obtain ⟨⟨t163, t164, t165, t166⟩, A20, H⟩ := H
 replace H : (if t163 ≥ 97 then (some (decide (((t163 - 97) % 256) < t165), t164, t165, t166)) else (some (false, t164, t165, t166))) = some (r1, r2, r3, r4) := H
 have A2 := Aside0.mk A20
 clear A20
 have HC3 := Aside0.mk H
 clear H
 go_enter Try.func97, Try.ntmps97
 go_wp2_with (first | ((with_reducible refine gate_callee (f := 51) rfl ?_); refine goesL_ (some 5) rfl rfl Try.func51 (by kernel_rfl) rfl #[.pointer (some ⟨g, 0, none⟩)] rfl (by (try simp only [List.map_toArray, List.map_cons, List.map_nil]); first | done | rfl | (simp only [List.length_drop, List.length_take]; rfl) | (simp only [Int.ofNat_lt, Int.ofNat_le]; rfl)) ?_; (with_reducible refine (expr_parser_peek.calls k g s0_0 s0_1 s0_2 t163 t164 t165 t166 w0 _ ?side1 ?side2 A2.out).mono ?_); (case side1 => repeat (first | (with_reducible first | exact HI0.out | apply IsS50.alloc | apply IsS50.drewN | apply IsS50.drew | apply IsS50.set_0 | apply IsS50.set_1 | apply IsS50.set_2) | exact HI0.out)); (case side2 => repeat (first | (with_reducible first | exact HB.out | apply below_alloc | apply pw_below_drewN | apply below_drew1 | refine below_set ?_ (IsS50.ge HI0.out)) | exact HB.out)); rintro e w4 ⟨rfl, hi, hb, hk⟩; refine ⟨_, rfl, ?_⟩; have n0_ := Aside0.mk (KeepBut.trans (kK) hk (.inl rfl)); have n1_ := Aside0.mk (hb); have n2_ := Aside0.mk (hi); clear HK; clear HB; clear HI0; have HK := n0_; have HB := n1_; have HI0 := n2_; clear n0_ n1_ n2_; (try clear hb); (try clear hb2); (try clear hk); (try clear hi); refine Go.Proofs.YtjofkebiacaciaaW.PrintWords.FootX.wall_ ?_))
 refine ⟨?_⟩
 (try simp only [Act.put, List.setIfInBounds_toArray, List.set_cons_zero, List.set_cons_succ])
 have H := HC3.out
 clear HC3
 by_cases c5 : t163 ≥ 97
 ·rw [if_pos c5] at H
  have c5b0 : decide (97 ≤ t163) = true := decide_eq_true c5
  clear c5
  (first | rw [c5b0] | (simp only [i64_w, i32_w]; rw [c5b0]) | skip)
  simp only [Option.some.injEq, Prod.mk.injEq] at H
  obtain ⟨rfl, rfl, rfl, rfl⟩ := H
  obtain ⟨HGz6, hgz6⟩ := HI0.out
  have hcz6_0 := cellS50_0 HGz6
  have hcz6_1 := cellS50_1 HGz6
  have hcz6_2 := cellS50_2 HGz6
  have hfz6_0 := blk_frozen HGz6 0
  have hfz6_1 := blk_frozen HGz6 1
  have hfz6_2 := blk_frozen HGz6 2
  clear HGz6 hgz6
  go_wp2
  go_ret
  exact ⟨by first | rfl | (simp [errW_none, errW_some] <;> rfl) | (simp [*, errW_none, errW_some] <;> rfl), by repeat (first | (with_reducible first | exact HI0.out | apply IsS50.alloc | apply IsS50.drewN | apply IsS50.drew | apply IsS50.set_0 | apply IsS50.set_1 | apply IsS50.set_2) | exact HI0.out), by repeat (first | (with_reducible first | exact HB.out | apply below_alloc | apply pw_below_drewN | apply below_drew1 | refine below_set ?_ (IsS50.ge HI0.out)) | exact HB.out), kK⟩
 ·rw [if_neg c5] at H
  have c5b0 : decide (97 ≤ t163) = false := decide_eq_false c5
  clear c5
  (first | rw [c5b0] | (simp only [i64_w, i32_w]; rw [c5b0]) | skip)
  simp only [Option.some.injEq, Prod.mk.injEq] at H
  obtain ⟨rfl, rfl, rfl, rfl⟩ := H
  go_wp2
  go_ret
  exact ⟨by first | rfl | (simp [errW_none, errW_some] <;> rfl) | (simp [*, errW_none, errW_some] <;> rfl), by repeat (first | (with_reducible first | exact HI0.out | apply IsS50.alloc | apply IsS50.drewN | apply IsS50.drew | apply IsS50.set_0 | apply IsS50.set_1 | apply IsS50.set_2) | exact HI0.out), by repeat (first | (with_reducible first | exact HB.out | apply below_alloc | apply pw_below_drewN | apply below_drew1 | refine below_set ?_ (IsS50.ge HI0.out)) | exact HB.out), kK⟩
end Go.Proofs.Ytjofkebiacaciaa.PAll
end
section
namespace Go.Proofs.Ytjofkebiacaciaa.PAll
open Go.RowKit Go.Proofs.YtjofkebiacaciaaW.PrintWords Go.Proofs.YtjofkebiacaciaaW.PrintLast Go.Proofs.YtjofkebiacaciaaW.PrintMore
attribute [local go_sem] max2_int min2_int max_two min_two max_three min_three max_four min_four
set_option linter.unusedVariables false
set_option linter.unusedSimpArgs false
def expr_several.f (a0 : Int) (l1 : List (S24)) : Option (Int × Int × (List (S24))) := if (l1.length : Int) = 1 then (if 0 < (l1.length : Int) then (some ((rd_T24 l1 0).f0, (rd_T24 l1 0).f1, (rd_T24 l1 0).f2)) else (none)) else (some (a0, 0, l1))
set_option maxHeartbeats 8000000 in
set_option maxRecDepth 100000 in
theorem expr_several.calls (a0 : Int) (P1_ : Nat → Prop) (A1 : Option Addr) (c1 : Nat) (l1 : List (S24)) (r1 : Int) (r2 : Int) (r3 : List (S24)) (w : World) (hs1 : Kd.V k24 24 w w.heap.size (fun k_ => P1_ k_) (.slice A1 l1.length c1) l1) (h : expr_several.f a0 l1 = some (r1, r2, r3)) :
  Calls Try.prog 84 #[.int .i64 a0, .slice A1 l1.length c1] w fun e w' => ∃ v2_ : Value, e = .returned (.agg #[.int .i64 r1, .int .i64 r2, v2_]) ∧ Kd.V k24 24 w' w.heap.size (fun k_ => (P1_ k_ ∨ w.heap.size ≤ k_)) v2_ r3 ∧ Below w.heap.size w w' := by
 have hu24 := Try.underlying24
 have HO1 := Aside0.mk (show Kd.V k24 24 w w.heap.size (fun k_ => (P1_ k_ ∨ w.heap.size ≤ k_)) (.slice A1 l1.length c1) l1 from Kd.V_mono hs1 (fun k_ hk => .inl hk))
 have HB := Aside0.mk (Below.refl w.heap.size w)
 have H : (if (l1.length : Int) = 1 then (if 0 < (l1.length : Int) then (some ((rd_T24 l1 0).f0, (rd_T24 l1 0).f1, (rd_T24 l1 0).f2)) else (none)) else (some (a0, 0, l1))) = some (r1, r2, r3) := h
 clear h
 have HC3 := Aside0.mk H
 clear H
 go_enter Try.func84, Try.ntmps84
 go_upto_if 7 with (first | ((with_reducible refine gate_dst (N := 4) rfl ?_); refine box_event ?hg (N := 4) ?hd (cs := #[.int .i64 0, .int .i64 0, .slice none 0 0]) (t := 24) ?hr ?_; (case hd => rfl); (case hg => rfl); (case hr => first | (go_simp; done) | (go_simp; rfl)); intro gb159 hg w4 hbox hb; have n0_ := Aside0.mk (Kd.V_below (Kd.V_elderB (by (with_reducible repeat (first | apply Kd.V_alloc | apply Kd.V_drewN | apply Kd.V_drew)); exact HO1.out) gb159 (Nat.le_of_eq hg.symm)) hb); have n1_ := Aside0.mk (below_step (bB) hb); have n2_ := Aside0.mk (hbox); have n3_ := Aside0.mk ((by rw [hg]; exact (below_size (bB)) : w.heap.size ≤ gb159)); have n4_ := Aside0.mk ((by rw [hg]; exact (below_size (bB)) : w.heap.size ≤ gb159)); clear HO1; clear HB; have HO1 := n0_; have HB := n1_; have BK159 := n2_; have GW159 := n3_; have GE159 := n4_; clear n0_ n1_ n2_ n3_ n4_; clear hb hbox hg))
 (try simp only [Act.put, List.setIfInBounds_toArray, List.set_cons_zero, List.set_cons_succ])
 have H := HC3.out
 clear HC3
 try clear c1
 by_cases c5 : (l1.length : Int) = 1
 ·rw [if_pos c5] at H
  have c5b0 : ((l1.length : Int) == 1) = true := beq_iff_eq.mpr c5
  have c5b1 : ((l1.length : Int) != 1) = false := bne_eq_false_iff_eq.mpr c5
  clear c5
  (first | rw [c5b0] | (simp only [i64_w, i32_w]; rw [c5b0]) | skip)
  by_cases c6 : 0 < (l1.length : Int)
  ·rw [if_pos c6] at H
   have c6b0 : decide (0 < (l1.length : Int)) = true := decide_eq_true c6
   have c6b1 : decide (0 < l1.length) = true := decide_eq_true (by omega)
   clear c6
   simp only [Option.some.injEq, Prod.mk.injEq] at H
   obtain ⟨rfl, rfl, rfl⟩ := H
   have p160 : 0 ≤ (0 : Int) := (by omega)
   have q160 : 0 < (l1.length : Int) := of_decide_eq_true (by first | (with_reducible assumption) | assumption)
   obtain ⟨ad160, A160_2, c160_2, e160, hx160_0, hx160_1, hx160_2, hl160_2, hi160_2⟩ := at_T24 (Kd.V_reads' HO1.out).2.2 0 p160 q160
   cases e160
   obtain ⟨ce160, hce160, hMe160, hcc160⟩ := Kd.V_get HO1.out z24 0 p160 (by first | exact q160 | exact of_decide_eq_true (by first | (with_reducible assumption) | assumption) | (have e_ := (Kd.V_reads' HO1.out).1; omega))
   obtain ⟨ua160_2, uc160_2, rfl, ul160_2, ge160_2⟩ := k24_openF hMe160
   have hv160_2 := hcc160 2 _ rfl
   rw [add_field _ _ 2 (by omega)] at hv160_2
   replace hv160_2 := Option.some.inj (hv160_2.symm.trans hx160_2)
   injection hv160_2 with hva_ hvn_ hvc_
   rw [hva_] at ge160_2
   rw [hvc_] at ul160_2
   have HL160_2 := Aside0.mk (show Kd.V k24 24 _ w.heap.size _ _ ((rd_T24 l1 0).f2) from Kd.V_mk ul160_2 ge160_2)
   clear hva_ hvn_ hvc_ ge160_2 ul160_2
   clear hcc160 hce160
   have qi160 : (0 < l1.length) = True := eq_true (by omega)
   (try rw [show ((0 : Int)).toNat = 0 from rfl] at hx160_0)
   (try rw [show 0 * 3 = 0 from rfl] at hx160_0)
   (try rw [Addr.add_zero'] at hx160_0)
   (try rw [show ((0 : Int)).toNat = 0 from rfl] at hx160_1)
   (try rw [show 0 * 3 = 0 from rfl] at hx160_1)
   (try rw [Addr.add_zero'] at hx160_1)
   (try rw [show ((0 : Int)).toNat = 0 from rfl] at hx160_2)
   (try rw [show 0 * 3 = 0 from rfl] at hx160_2)
   (try rw [Addr.add_zero'] at hx160_2)
   have HR160_2 := Aside0.mk hi160_2
   have HC160_2 := Aside0.mk hl160_2
   clear hi160_2 hl160_2
   replace p160 := eq_true p160
   replace q160 := eq_true q160
   have hcz7_0 : w4.cell? ⟨gb159, 0, none⟩ = some (.int .i64 0) := (blk_cell BK159.out 0).trans rfl
   have hcz7_1 : w4.cell? ⟨gb159, 1, none⟩ = some (.int .i64 0) := (blk_cell BK159.out 1).trans rfl
   have hcz7_2 : w4.cell? ⟨gb159, 2, none⟩ = some (.slice none 0 0) := (blk_cell BK159.out 2).trans rfl
   have hfz7_0 := blk_frozen BK159.out 0
   have hfz7_1 := blk_frozen BK159.out 1
   have hfz7_2 := blk_frozen BK159.out 2
   go_wp2
   refine bodyPost_ret (results_cell_row rfl _ _ gb159 24 #[.int .i64 ((rd_T24 l1 0).f0), .int .i64 ((rd_T24 l1 0).f1), .slice A160_2 ((rd_T24 l1 0).f2).length c160_2] (0, 0) _ rfl (by (with_reducible repeat (first | refine blk_drewN ?_ _ | refine blk_drew ?_ | refine blk_alloc ?_ _)); refine blk_put (cs := #[.int .i64 ((rd_T24 l1 0).f0), .int .i64 ((rd_T24 l1 0).f1), .slice none 0 0]) ?_ 2 _ rfl; (with_reducible repeat (first | refine blk_drewN ?_ _ | refine blk_drew ?_ | refine blk_alloc ?_ _)); refine blk_put (cs := #[.int .i64 ((rd_T24 l1 0).f0), .int .i64 0, .slice none 0 0]) ?_ 1 _ rfl; (with_reducible repeat (first | refine blk_drewN ?_ _ | refine blk_drew ?_ | refine blk_alloc ?_ _)); refine blk_put (cs := #[.int .i64 0, .int .i64 0, .slice none 0 0]) ?_ 0 _ rfl; (with_reducible repeat (first | refine blk_drewN ?_ _ | refine blk_drew ?_ | refine blk_alloc ?_ _)); exact BK159.out) Try.underlying24 rfl (by kernel_rfl)) rfl ?_
   exact ⟨_, by first | rfl | (simp [errW_none, errW_some] <;> rfl) | (simp [*, errW_none, errW_some] <;> rfl), by (with_reducible repeat (first | apply Kd.V_alloc | apply Kd.V_drewN | apply Kd.V_drew)); exact Kd.V_mono (Kd.V_far (p := ⟨gb159, 2, none⟩) (Kd.V_far (p := ⟨gb159, 1, none⟩) (Kd.V_far (p := ⟨gb159, 0, none⟩) (Kd.V_mono HL160_2.out (fun k_ hk => (⟨hk, hk.2⟩ : _ ∧ k_ ≠ gb159))) (fun _ hk => hk.2) (.int .i64 ((rd_T24 l1 0).f0))) (fun _ hk => hk.2) (.int .i64 ((rd_T24 l1 0).f1))) (fun _ hk => hk.2) (.slice A160_2 ((rd_T24 l1 0).f2).length c160_2)) (fun _ hk => hk.1.1), bB⟩
  ·rw [if_neg c6] at H
   exact absurd H (by simp)
 ·rw [if_neg c5] at H
  have c5b0 : ((l1.length : Int) == 1) = false := beq_eq_false_iff_ne.mpr c5
  have c5b1 : ((l1.length : Int) != 1) = true := bne_iff_ne.mpr c5
  (first | rw [c5b0] | (simp only [i64_w, i32_w]; rw [c5b0]) | skip)
  simp only [Option.some.injEq, Prod.mk.injEq] at H
  obtain ⟨rfl, rfl, rfl⟩ := H
  have hcz8_0 : w4.cell? ⟨gb159, 0, none⟩ = some (.int .i64 0) := (blk_cell BK159.out 0).trans rfl
  have hcz8_1 : w4.cell? ⟨gb159, 1, none⟩ = some (.int .i64 0) := (blk_cell BK159.out 1).trans rfl
  have hcz8_2 : w4.cell? ⟨gb159, 2, none⟩ = some (.slice none 0 0) := (blk_cell BK159.out 2).trans rfl
  have hfz8_0 := blk_frozen BK159.out 0
  have hfz8_1 := blk_frozen BK159.out 1
  have hfz8_2 := blk_frozen BK159.out 2
  go_wp2
  refine bodyPost_ret (results_cell_row rfl _ _ gb159 24 #[.int .i64 a0, .int .i64 0, .slice A1 l1.length c1] (0, 0) _ rfl (by (with_reducible repeat (first | refine blk_drewN ?_ _ | refine blk_drew ?_ | refine blk_alloc ?_ _)); refine blk_put (cs := #[.int .i64 a0, .int .i64 0, .slice none 0 0]) ?_ 2 _ rfl; (with_reducible repeat (first | refine blk_drewN ?_ _ | refine blk_drew ?_ | refine blk_alloc ?_ _)); refine blk_put (cs := #[.int .i64 a0, .int .i64 0, .slice none 0 0]) ?_ 1 _ rfl; (with_reducible repeat (first | refine blk_drewN ?_ _ | refine blk_drew ?_ | refine blk_alloc ?_ _)); refine blk_put (cs := #[.int .i64 0, .int .i64 0, .slice none 0 0]) ?_ 0 _ rfl; (with_reducible repeat (first | refine blk_drewN ?_ _ | refine blk_drew ?_ | refine blk_alloc ?_ _)); exact BK159.out) Try.underlying24 rfl (by kernel_rfl)) rfl ?_
  exact ⟨_, by first | rfl | (simp [errW_none, errW_some] <;> rfl) | (simp [*, errW_none, errW_some] <;> rfl), by (with_reducible repeat (first | apply Kd.V_alloc | apply Kd.V_drewN | apply Kd.V_drew)); exact Kd.V_mono (Kd.V_far (p := ⟨gb159, 2, none⟩) (Kd.V_far (p := ⟨gb159, 1, none⟩) (Kd.V_far (p := ⟨gb159, 0, none⟩) (Kd.V_mono HO1.out (fun k_ hk => (⟨hk, hk.2⟩ : _ ∧ k_ ≠ gb159))) (fun _ hk => hk.2) (.int .i64 a0)) (fun _ hk => hk.2) (.int .i64 0)) (fun _ hk => hk.2) (.slice A1 l1.length c1)) (fun _ hk => hk.1.1), bB⟩
end Go.Proofs.Ytjofkebiacaciaa.PAll
end
section
namespace Go.Proofs.Ytjofkebiacaciaa.PAll
open Go.RowKit Go.Proofs.YtjofkebiacaciaaW.PrintWords Go.Proofs.YtjofkebiacaciaaW.PrintLast Go.Proofs.YtjofkebiacaciaaW.PrintMore
set_option linter.all false
theorem is50_0 {w0 W : World} {g : Nat} {f0 : ByteArray} {f1 f2 : Int} (h : IsS50 w0 W g f0 f1 f2) : W.cell? ⟨g, 0, none⟩ = some (.string f0) := by simp [World.cell?, h.1]
theorem is50_2 {w0 W : World} {g : Nat} {f0 : ByteArray} {f1 f2 : Int} (h : IsS50 w0 W g f0 f1 f2) : W.cell? ⟨g, 2, none⟩ = some (.int .i64 f2) := by simp [World.cell?, h.1]
theorem is50_f {w0 W : World} {g : Nat} {f0 : ByteArray} {f1 f2 : Int} (h : IsS50 w0 W g f0 f1 f2) (j : Nat) : W.frozen? ⟨g, j, none⟩ = false := by simp [World.frozen?, h.1]
def expr_parser_is.f (k : Nat) (s0 : ByteArray) (s1 s2 c : Int) : Option (Bool × ByteArray × Int × Int) :=
 (expr_parser_peek.f k s0 s1 s2).bind fun t => if t.1 = c then some (decide (t.2.2.2 < (t.2.1.size : Int)), t.2) else some (false, t.2)
set_option maxHeartbeats 4000000 in
set_option maxRecDepth 100000 in
theorem expr_parser_is.calls (k : Nat) (g : Nat) (s0_0 : ByteArray) (s0_1 : Int) (s0_2 : Int) (a1 : Int) (r1 : Bool) (r2 : ByteArray) (r3 : Int) (r4 : Int) (w0 w : World) (hI : IsS50 w0 w g s0_0 s0_1 s0_2) (hB : Below w0.heap.size w0 w) (h : expr_parser_is.f k s0_0 s0_1 s0_2 a1 = some (r1, r2, r3, r4)) :
  Calls Try.prog 83 #[.pointer (some ⟨g, 0, none⟩), .int .u8 a1] w fun e w' => e = .returned (.bool r1) ∧ IsS50 w0 w' g r2 r3 r4 ∧ Below w0.heap.size w0 w' ∧ KeepBut w w' g none := by
 unfold expr_parser_is.f at h
 obtain ⟨⟨t1, t2, t3, t4⟩, h1, h2⟩ := Option.bind_eq_some_iff.mp h
 have HI := Aside0.mk hI
 have HB := Aside0.mk hB
 have H1 := Aside0.mk h1
 clear h h1 hI hB
 by_cases c : t1 = a1
 ·simp only [c, if_true] at h2
  obtain ⟨rfl, rfl, rfl, rfl⟩ : decide (t4 < (t2.size : Int)) = r1 ∧ t2 = r2 ∧ t3 = r3 ∧ t4 = r4 := by simpa using h2
  clear h2
  subst c
  have hq : (t1 == t1) = true := beq_self_eq_true t1
  go_enter Try.func83, Try.ntmps83
  go_wp2
  first | go_region_with (go_at_call 51; (refine (expr_parser_peek.calls k g _ _ _ _ _ _ _ w0 _ ?hi ?hb H1.out).mono ?_); (case hi => first | exact IsS50.drew HI.out | exact HI.out | exact IsS50.drewN HI.out _); (case hb => first | exact below_drew HB.out | first | exact HB.out | exact pw_below_drewN HB.out _ | exact below_drew HB.out); rintro e w' ⟨rfl, hi, hb, hk⟩; have hc0 := is50_0 hi; have hc2 := is50_2 hi; have HI2 := Aside0.mk hi; have HB2 := Aside0.mk hb; have HK2 := Aside0.mk hk; clear hi hb hk) | fail "no"
  all_goals (refine (by assumption : ∀ (a : Act) (w : World), Code.wp Try.prog Code.ret _ a w → _) _ _ ?_; go_wp2; go_ret; exact ⟨by first | rfl | simp, HI2.out, HB2.out, HK2.out⟩)
 ·simp only [c, if_false] at h2
  obtain ⟨rfl, rfl, rfl, rfl⟩ : false = r1 ∧ t2 = r2 ∧ t3 = r3 ∧ t4 = r4 := by simpa using h2
  clear h2
  have hq : (t1 == a1) = false := by simpa using c
  go_enter Try.func83, Try.ntmps83
  go_wp2
  first | go_region_with (go_at_call 51; (refine (expr_parser_peek.calls k g _ _ _ _ _ _ _ w0 _ ?hi ?hb H1.out).mono ?_); (case hi => first | exact IsS50.drew HI.out | exact HI.out | exact IsS50.drewN HI.out _); (case hb => first | exact below_drew HB.out | first | exact HB.out | exact pw_below_drewN HB.out _ | exact below_drew HB.out); rintro e w' ⟨rfl, hi, hb, hk⟩; have hc0 := is50_0 hi; have hc2 := is50_2 hi; have HI2 := Aside0.mk hi; have HB2 := Aside0.mk hb; have HK2 := Aside0.mk hk; clear hi hb hk) | fail "no"
  all_goals (refine (by assumption : ∀ (a : Act) (w : World), Code.wp Try.prog Code.ret _ a w → _) _ _ ?_; go_wp2; go_ret; exact ⟨by first | rfl | simp, HI2.out, HB2.out, HK2.out⟩)
theorem expr_parser_is.mono : ∀ a0 a1 a2 a3 k, LeO (expr_parser_is.f k a0 a1 a2 a3) (expr_parser_is.f (k + 1) a0 a1 a2 a3) := by
 intro a0 a1 a2 a3 k
 unfold expr_parser_is.f
 exact LeO.bind (expr_parser_peek.mono _ _ _ _) (fun _ => LeO.refl _)
end Go.Proofs.Ytjofkebiacaciaa.PAll
end
section
namespace Go.Proofs.Ytjofkebiacaciaa.PAll
open Go.RowKit Go.Proofs.YtjofkebiacaciaaW.PrintWords Go.Proofs.YtjofkebiacaciaaW.PrintLast Go.Proofs.YtjofkebiacaciaaW.PrintMore
set_option linter.all false
class AtomC where
 f : Nat → ByteArray → Int → Int → Option (Int × Int × (List (S24)) × ByteArray × Int × Int)
 mono : ∀ a0 a1 a2 k, LeO (f k a0 a1 a2) (f (k + 1) a0 a1 a2)
 calls : ∀ (k : Nat) (g : Nat) (s0_0 : ByteArray) (s0_1 : Int) (s0_2 : Int) (r1 : Int) (r2 : Int) (r3 : List (S24)) (r4 : ByteArray) (r5 : Int) (r6 : Int) (w0 w : World) (hI : IsS50 w0 w g s0_0 s0_1 s0_2) (hB : Below w0.heap.size w0 w) (h : f k s0_0 s0_1 s0_2 = some (r1, r2, r3, r4, r5, r6)),
  Calls Try.prog 102 #[.pointer (some ⟨g, 0, none⟩)] w fun e w' => ∃ v2_ : Value, e = .returned (.agg #[.int .i64 r1, .int .i64 r2, v2_]) ∧ Kd.V k24 24 w' w.heap.size (fun k_ => (w.heap.size ≤ k_)) v2_ r3 ∧ IsS50 w0 w' g r4 r5 r6 ∧ Below w0.heap.size w0 w' ∧ KeepBut w w' g none
variable [AtomC]
def expr_parser_atom.f (k : Nat) (a0 : ByteArray) (a1 a2 : Int) : Option (Int × Int × (List (S24)) × ByteArray × Int × Int) := AtomC.f k a0 a1 a2
theorem expr_parser_atom.mono : ∀ a0 a1 a2 k, LeO (expr_parser_atom.f k a0 a1 a2) (expr_parser_atom.f (k + 1) a0 a1 a2) := AtomC.mono
theorem expr_parser_atom.calls (k : Nat) (g : Nat) (s0_0 : ByteArray) (s0_1 : Int) (s0_2 : Int) (r1 : Int) (r2 : Int) (r3 : List (S24)) (r4 : ByteArray) (r5 : Int) (r6 : Int) (w0 w : World) (hI : IsS50 w0 w g s0_0 s0_1 s0_2) (hB : Below w0.heap.size w0 w) (h : expr_parser_atom.f k s0_0 s0_1 s0_2 = some (r1, r2, r3, r4, r5, r6)) :
  Calls Try.prog 102 #[.pointer (some ⟨g, 0, none⟩)] w fun e w' => ∃ v2_ : Value, e = .returned (.agg #[.int .i64 r1, .int .i64 r2, v2_]) ∧ Kd.V k24 24 w' w.heap.size (fun k_ => (w.heap.size ≤ k_)) v2_ r3 ∧ IsS50 w0 w' g r4 r5 r6 ∧ Below w0.heap.size w0 w' ∧ KeepBut w w' g none := AtomC.calls k g _ _ _ _ _ _ _ _ _ w0 w hI hB h
end Go.Proofs.Ytjofkebiacaciaa.PAll
end
