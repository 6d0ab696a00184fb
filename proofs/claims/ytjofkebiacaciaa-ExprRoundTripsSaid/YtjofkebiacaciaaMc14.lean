/- The functions that the laws of this seat reach, a proof for each that the Go code comes to them, and the plain laws; merged. Conditions: none beside those of the given statements. -/
import Derived.Test.YtjofkebiacaciaaProg
import Derived.Below
import Derived.Deep.Draws
import Derived.Deep.AppendLies
import Derived.Maps.AppendAt
import Derived.OwnWalk
import Derived.Laws.BytesArg
import Derived.Laws.MakeOwn
import Derived.Laws.OwnMore
import Derived.Deep.OwnRows
import Derived.Tactics
import Derived.Lib.ConvBytes
import Derived.Laws.Slices
import Derived.WalkKit
import Derived.KernelRfl
import Derived.RowKit3
import Derived.Deep.LoopGhost
import Derived.Deep.QuietTactic
import Derived.BigQuiet
import Derived.WideLaws
import Derived.Deep.DeepCutAuto
import Derived.Deep.CutBlock
import Derived.Deep.RegionHeld3
import Derived.Laws.Rows
import Derived.Lib.AppendStr
import Derived.ArgAppend
import Derived.Laws.IdiomCopy
import Derived.OrdersHeld
import Derived.Laws.BitsLemmas
import Derived.RowKit
import Derived.Laws.StructEq
import Derived.Laws.EntriesVeiled
import Derived.Outline
import Derived.Test.YtjofkebiacaciaaMcWMore
import Derived.Test.YtjofkebiacaciaaMcWWords
import Derived.Test.YtjofkebiacaciaaMcWLast
import Derived.Test.YtjofkebiacaciaaMcWTab
import Derived.Test.YtjofkebiacaciaaMcWApart
import Derived.Test.YtjofkebiacaciaaMcWFoot
import Derived.Test.YtjofkebiacaciaaMcWKept
import Derived.Test.YtjofkebiacaciaaMcWShare
import Derived.Test.YtjofkebiacaciaaMcWN
import Derived.Test.YtjofkebiacaciaaMcWFootNe
import Derived.Test.YtjofkebiacaciaaMcWRepsOne
import Derived.Test.YtjofkebiacaciaaMcWGuard
import Derived.Test.YtjofkebiacaciaaMcWNEv
section
namespace Go.Proofs.YtjofkebiacaciaaW.PrintWords
open Go.RowKit
set_option linter.all false
theorem bB {b : Nat} {w W : World} (h : Below b w W := by repeat (first | (with_reducible first | exact HB.out | apply below_alloc | apply pw_below_drewN | apply below_drew1 | refine below_set ?_ (Aside0.out (by assumption))) | exact HB.out)) : Below b w W := h
theorem bK {W : World} {g : Nat} {o : Obj} (h : W.heap[g]? = some o := by (with_reducible repeat (first | refine blk_drewN ?_ _ | refine blk_drew ?_ | refine blk_alloc ?_ _)); exact Aside0.out (by assumption)) : W.heap[g]? = some o := h
theorem kK {w W : World} {g : Nat} {r : Option Nat} (h : KeepBut w W g r := by repeat (first | (with_reducible first | exact HK.out | apply KeepBut.set_ | apply keep_drewN | apply keep_drew | apply keep_alloc | refine keep_far ?_ (Aside0.out (by assumption)) _) | exact HK.out)) : KeepBut w W g r := h
theorem kP {w W : World} {S : Nat → Prop} (h : Kept w W S := by repeat (first | (with_reducible first | exact HK.out | apply Kept.alloc | apply Kept.drewN | apply Kept.drew | refine Kept.setCell ?_ (.inr (Aside0.out (by assumption))) _) | exact HK.out)) : Kept w W S := h
end Go.Proofs.YtjofkebiacaciaaW.PrintWords
end
section
namespace Go.Proofs.Ytjofkebiacaciaa.PAll
open Go.RowKit Go.Proofs.YtjofkebiacaciaaW.PrintWords Go.Proofs.YtjofkebiacaciaaW.PrintLast Go.Proofs.YtjofkebiacaciaaW.PrintMore
attribute [local go_sem] max2_int min2_int max_two min_two max_three min_three max_four min_four
set_option linter.unusedVariables false
set_option linter.unusedSimpArgs false
def errW : Option Int → Value
 | none => .nilIface
 | some c => .iface 0 (.int .i64 c)
theorem errW_none : errW none = .nilIface := rfl
theorem errW_some (c : Int) : errW (some c) = .iface 0 (.int .i64 c) := rfl
theorem info5 : (Try.prog.info? 5).map (fun i => (i.zero, i.size, i.bytes)) = some (some (.int .u8 0), 1, 1) := by kernel_rfl
theorem info24 : (Try.prog.info? 24).map (fun i => (i.zero, i.size, i.bytes)) = some (some (.agg #[(.int .i64 0), (.int .i64 0), (.slice none 0 0)]), 3, 40) := by kernel_rfl
structure S24 where
 f0 : Int
 f1 : Int
 f2 : (List S24)
def z24 : S24 := ⟨(0 : Int), (0 : Int), ([] : List S24)⟩
def F24 (d : Kd S24) : Kd S24 := Kd.iso (Kd.pair (Kd.int .i64) (Kd.pair (Kd.int .i64) (Kd.slice 24 d))) (fun x : S24 => (x.f0, x.f1, x.f2))
theorem mono24 : Kd.Mono F24 := Kd.mono_iso _ (Kd.mono_pair (Kd.mono_const _) (Kd.mono_pair (Kd.mono_const _) (Kd.mono_slice 24 Kd.mono_id)))
theorem sub24 : Kd.Sub F24 [24] := Kd.sub_iso _ (Kd.sub_pair (Kd.sub_const _ (by decide)) (Kd.sub_pair (Kd.sub_const _ (by decide)) (Kd.sub_slice 24 (by decide) Kd.sub_id)))
theorem sz24 : ∀ n, (Kd.upto F24 3 [24] n).sz = 3 := Kd.upto_sz (fun _ => rfl)
def k24 : Kd S24 := Kd.fix F24 3 [24] sz24 (Kd.upto_E sub24)
theorem k24_heap : Kd.Heap k24 := Kd.heap_fix (fun _ h_ => Kd.heap_iso _ (Kd.heap_pair (Kd.heap_int .i64) (Kd.heap_pair (Kd.heap_int .i64) (Kd.heap_slice 24 h_))))
theorem k24_open {w : World} {x : S24} {cs : List Value} (h : k24.K w x cs) : ∃ A2 c2, cs = [.int .i64 x.f0, .int .i64 x.f1, .slice A2 x.f2.length c2] ∧ x.f2.length ≤ c2 ∧ k24.C w A2 x.f2.length x.f2 := by
 obtain ⟨n, h⟩ := h
 cases n with
 | zero => exact h.elim
 | succ n =>
  obtain ⟨_, _, rfl, rfl, ⟨_, _, rfl, rfl, ⟨A2, c2, rfl, l2, g2⟩⟩⟩ := h
  exact ⟨A2, c2, rfl, l2, Kd.fix_C g2⟩
theorem k24_mk (w : World) (x : S24) {A2 : Option Addr} {c2 : Nat} (l2 : x.f2.length ≤ c2) (g2 : k24.C w A2 x.f2.length x.f2) : k24.K w x [.int .i64 x.f0, .int .i64 x.f1, .slice A2 x.f2.length c2] := by
 obtain ⟨n2, q2⟩ := Kd.fix_C_back mono24 g2
 have r2 := Kd.upto_C_le mono24 sz24 (show n2 ≤ n2 by omega) q2
 exact ⟨n2 + 1, ⟨[.int .i64 x.f0], [.int .i64 x.f1, .slice A2 x.f2.length c2], rfl, rfl, ⟨[.int .i64 x.f1], [.slice A2 x.f2.length c2], rfl, rfl, ⟨A2, c2, rfl, l2, r2⟩⟩⟩⟩
theorem k24_openF {W : World} {ok : Nat → Prop} {x : S24} {cs : List Value} (h : Kd.FK k24 W ok x cs) : ∃ A2 c2, cs = [.int .i64 x.f0, .int .i64 x.f1, .slice A2 x.f2.length c2] ∧ x.f2.length ≤ c2 ∧ Kd.F k24 W ok A2 x.f2.length x.f2 := by
 obtain ⟨A2, c2, rfl, l2, _⟩ := k24_open (Kd.FK_now h)
 exact ⟨A2, c2, rfl, l2, (fun W' hW => by obtain ⟨A2_, c2_, he, l2_, g2_⟩ := k24_open (h W' hW); injection (Option.some.inj (show some (Value.slice A2 x.f2.length c2) = some (Value.slice A2_ x.f2.length c2_) from congrArg (fun l => l[2]?) he)) with ha_ _ _; rw [ha_]; exact g2_)⟩
theorem k24_mkF (W : World) (ok : Nat → Prop) (x : S24) {A2 : Option Addr} {c2 : Nat} (l2 : x.f2.length ≤ c2) (g2 : Kd.F k24 W ok A2 x.f2.length x.f2) : Kd.FK k24 W ok x [.int .i64 x.f0, .int .i64 x.f1, .slice A2 x.f2.length c2] := fun W2 hW => k24_mk W2 x l2 (g2 W2 hW)
def rd_T24 (xs : List S24) (i : Int) : S24 := xs.getD i.toNat z24
theorem at_T24 {w : World} {A : Option Addr} {n : Nat} {xs : List S24} (h : Kd.C k24 w A n xs) (i : Int) (h0 : 0 ≤ i) (h1 : i < n) : ∃ ad A2 c2, A = some ad ∧ w.cell? (ad.add (i.toNat * 3)) = some (.int .i64 (rd_T24 xs i).f0) ∧ w.cell? ⟨(ad.add (i.toNat * 3)).block, (ad.add (i.toNat * 3)).off + 1, none⟩ = some (.int .i64 (rd_T24 xs i).f1) ∧ w.cell? ⟨(ad.add (i.toNat * 3)).block, (ad.add (i.toNat * 3)).off + 2, none⟩ = some (.slice A2 (rd_T24 xs i).f2.length c2) ∧ (rd_T24 xs i).f2.length ≤ c2 ∧ k24.C w A2 (rd_T24 xs i).f2.length (rd_T24 xs i).f2 := by
 obtain ⟨ad, c, e, _, hK, hc0⟩ := Kd.C_get h z24 i h0 h1
 have hc : ∀ j u, c[j]? = some u → w.cell? (ad.add (i.toNat * 3 + j)) = some u := hc0
 obtain ⟨A2, c2, rfl, l2, g2⟩ := k24_open hK
 exact ⟨ad, A2, c2, e, hc 0 _ rfl, by rw [← add_field _ _ 1 (by omega)]; exact hc 1 _ rfl, by rw [← add_field _ _ 2 (by omega)]; exact hc 2 _ rfl, l2, g2⟩
end Go.Proofs.Ytjofkebiacaciaa.PAll
end
section
namespace Go.Proofs.Ytjofkebiacaciaa.PAll
open Go.RowKit Go.Proofs.YtjofkebiacaciaaW.PrintWords Go.Proofs.YtjofkebiacaciaaW.PrintLast Go.Proofs.YtjofkebiacaciaaW.PrintMore
attribute [local go_sem] max2_int min2_int max_two min_two max_three min_three max_four min_four
set_option linter.unusedVariables false
set_option linter.unusedSimpArgs false
mutual
def expr_shaped.j2 : Nat → Int → Int → Int → Int → Int → List (S24) → Option (Bool)
 | 0, _, _, _, _, _, _ => none
 | k + 1, x1, x5, x6, x102000, x102001, x102002 => if (x102002.length : Int) < x5 then (expr_shaped.j3 k x1 true x102000 x102001 x102002) else (expr_shaped.j3 k x1 (decide ((x102002.length : Int) > x6)) x102000 x102001 x102002)
def expr_shaped.j3 : Nat → Int → Bool → Int → Int → List (S24) → Option (Bool)
 | 0, _, _, _, _, _ => none
 | k + 1, x1, x33, x102000, x102001, x102002 => if x33 = true then (some false) else (if x102000 = 3 then (if x102001 < 0 then (expr_shaped.j4 k x1 true x102000 x102001 x102002) else (if x102001 ≥ x1 then (expr_shaped.j4 k x1 true x102000 x102001 x102002) else (expr_shaped.j4 k x1 false x102000 x102001 x102002))) else (expr_shaped.j4 k x1 (x102001 != 0) x102000 x102001 x102002))
def expr_shaped.j4 : Nat → Int → Bool → Int → Int → List (S24) → Option (Bool)
 | 0, _, _, _, _, _ => none
 | k + 1, x1, x57, x102000, x102001, x102002 => if x57 = true then (some false) else (expr_shaped.l0 k x1 x102002 (x102002.length : Int) 0)
def expr_shaped.l0 : Nat → Int → List (S24) → Int → Int → Option (Bool)
 | 0, _, _, _, _ => none
 | k + 1, x1, x59, x60, x61 => if x61 < x60 then (if 0 ≤ x61 then (if x61 < (x59.length : Int) then ((expr_shaped.f k ((rd_T24 x59 x61).f0) ((rd_T24 x59 x61).f1) ((rd_T24 x59 x61).f2) x1).bind fun t104 => (if t104 = true then (expr_shaped.l0 k x1 x59 x60 (wrap64 (x61 + 1))) else (some false))) else (none)) else (none)) else (some true)
def expr_shaped.j0 : Nat → Int → Int → Int → Int → Bool → Int → Int → List (S24) → Option (Bool)
 | 0, _, _, _, _, _, _, _, _ => none
 | k + 1, x1, x5, x6, x10, x11, x102000, x102001, x102002 => if x11 = true then (expr_shaped.j2 k x1 x5 x6 x102000 x102001 x102002) else (if x10 = 4 then (expr_shaped.j1 k x1 x10 (x10 == 4) x102000 x102001 x102002) else (if x10 = 5 then (expr_shaped.j1 k x1 x10 (x10 == 5) x102000 x102001 x102002) else (expr_shaped.j1 k x1 x10 (x10 == 6) x102000 x102001 x102002)))
def expr_shaped.j1 : Nat → Int → Int → Bool → Int → Int → List (S24) → Option (Bool)
 | 0, _, _, _, _, _, _ => none
 | k + 1, x1, x10, x15, x102000, x102001, x102002 => if x15 = true then (expr_shaped.j2 k x1 2 400 x102000 x102001 x102002) else (if x10 = 7 then (expr_shaped.j2 k x1 1 1 x102000 x102001 x102002) else (if x10 = 8 then (expr_shaped.j2 k x1 1 1 x102000 x102001 x102002) else (some false)))
def expr_shaped.f : Nat → Int → Int → List (S24) → Int → Option (Bool)
 | 0, _, _, _, _ => none
 | k + 1, a0_0, a0_1, l0_2, a1 => if a0_0 = 1 then (expr_shaped.j0 k a1 0 0 a0_0 (a0_0 == 1) a0_0 a0_1 l0_2) else (if a0_0 = 2 then (expr_shaped.j0 k a1 0 0 a0_0 (a0_0 == 2) a0_0 a0_1 l0_2) else (expr_shaped.j0 k a1 0 0 a0_0 (a0_0 == 3) a0_0 a0_1 l0_2))
end
theorem expr_shaped.mono_l : ∀ k, (∀ y0 y1 y2 y3, LeO (expr_shaped.f k y0 y1 y2 y3) (expr_shaped.f (k + 1) y0 y1 y2 y3)) ∧ (∀ y0 y1 y2 y3 y4 y5, LeO (expr_shaped.j2 k y0 y1 y2 y3 y4 y5) (expr_shaped.j2 (k + 1) y0 y1 y2 y3 y4 y5)) ∧ (∀ y0 y1 y2 y3 y4, LeO (expr_shaped.j3 k y0 y1 y2 y3 y4) (expr_shaped.j3 (k + 1) y0 y1 y2 y3 y4)) ∧ (∀ y0 y1 y2 y3 y4, LeO (expr_shaped.j4 k y0 y1 y2 y3 y4) (expr_shaped.j4 (k + 1) y0 y1 y2 y3 y4)) ∧ (∀ y0 y1 y2 y3, LeO (expr_shaped.l0 k y0 y1 y2 y3) (expr_shaped.l0 (k + 1) y0 y1 y2 y3)) ∧ (∀ y0 y1 y2 y3 y4 y5 y6 y7, LeO (expr_shaped.j0 k y0 y1 y2 y3 y4 y5 y6 y7) (expr_shaped.j0 (k + 1) y0 y1 y2 y3 y4 y5 y6 y7)) ∧ (∀ y0 y1 y2 y3 y4 y5, LeO (expr_shaped.j1 k y0 y1 y2 y3 y4 y5) (expr_shaped.j1 (k + 1) y0 y1 y2 y3 y4 y5))
 | 0 => ⟨fun _ _ _ _ r h => by simp [expr_shaped.f] at h, fun _ _ _ _ _ _ r h => by simp [expr_shaped.j2] at h, fun _ _ _ _ _ r h => by simp [expr_shaped.j3] at h, fun _ _ _ _ _ r h => by simp [expr_shaped.j4] at h, fun _ _ _ _ r h => by simp [expr_shaped.l0] at h, fun _ _ _ _ _ _ _ _ r h => by simp [expr_shaped.j0] at h, fun _ _ _ _ _ _ r h => by simp [expr_shaped.j1] at h⟩
 | k + 1 => by
  obtain ⟨ih0, ih1, ih2, ih3, ih4, ih5, ih6⟩ := expr_shaped.mono_l k
  refine ⟨?_, ?_, ?_, ?_, ?_, ?_, ?_⟩
  ·intro y0 y1 y2 y3
   unfold expr_shaped.f
   repeat' first
   | (with_reducible exact ih0 _ _ _ _)
   | (with_reducible exact ih1 _ _ _ _ _ _)
   | (with_reducible exact ih2 _ _ _ _ _)
   | (with_reducible exact ih3 _ _ _ _ _)
   | (with_reducible exact ih4 _ _ _ _)
   | (with_reducible exact ih5 _ _ _ _ _ _ _ _)
   | (with_reducible exact ih6 _ _ _ _ _ _)
   | (with_reducible exact LeO.refl _)
   | (with_reducible exact LeO.none _)
   | (with_reducible refine LeO.ite ?_ ?_)
   | (with_reducible refine LeO.bind ?_ (fun _ => ?_))
   | exact ih0 _ _ _ _
   | exact ih1 _ _ _ _ _ _
   | exact ih2 _ _ _ _ _
   | exact ih3 _ _ _ _ _
   | exact ih4 _ _ _ _
   | exact ih5 _ _ _ _ _ _ _ _
   | exact ih6 _ _ _ _ _ _
   | exact LeO.none _
   | refine LeO.ite ?_ ?_
   | refine LeO.bind ?_ (fun _ => ?_)
  ·intro y0 y1 y2 y3 y4 y5
   unfold expr_shaped.j2
   repeat' first
   | (with_reducible exact ih0 _ _ _ _)
   | (with_reducible exact ih1 _ _ _ _ _ _)
   | (with_reducible exact ih2 _ _ _ _ _)
   | (with_reducible exact ih3 _ _ _ _ _)
   | (with_reducible exact ih4 _ _ _ _)
   | (with_reducible exact ih5 _ _ _ _ _ _ _ _)
   | (with_reducible exact ih6 _ _ _ _ _ _)
   | (with_reducible exact LeO.refl _)
   | (with_reducible exact LeO.none _)
   | (with_reducible refine LeO.ite ?_ ?_)
   | (with_reducible refine LeO.bind ?_ (fun _ => ?_))
   | exact ih0 _ _ _ _
   | exact ih1 _ _ _ _ _ _
   | exact ih2 _ _ _ _ _
   | exact ih3 _ _ _ _ _
   | exact ih4 _ _ _ _
   | exact ih5 _ _ _ _ _ _ _ _
   | exact ih6 _ _ _ _ _ _
   | exact LeO.none _
   | refine LeO.ite ?_ ?_
   | refine LeO.bind ?_ (fun _ => ?_)
  ·intro y0 y1 y2 y3 y4
   unfold expr_shaped.j3
   repeat' first
   | (with_reducible exact ih0 _ _ _ _)
   | (with_reducible exact ih1 _ _ _ _ _ _)
   | (with_reducible exact ih2 _ _ _ _ _)
   | (with_reducible exact ih3 _ _ _ _ _)
   | (with_reducible exact ih4 _ _ _ _)
   | (with_reducible exact ih5 _ _ _ _ _ _ _ _)
   | (with_reducible exact ih6 _ _ _ _ _ _)
   | (with_reducible exact LeO.refl _)
   | (with_reducible exact LeO.none _)
   | (with_reducible refine LeO.ite ?_ ?_)
   | (with_reducible refine LeO.bind ?_ (fun _ => ?_))
   | exact ih0 _ _ _ _
   | exact ih1 _ _ _ _ _ _
   | exact ih2 _ _ _ _ _
   | exact ih3 _ _ _ _ _
   | exact ih4 _ _ _ _
   | exact ih5 _ _ _ _ _ _ _ _
   | exact ih6 _ _ _ _ _ _
   | exact LeO.none _
   | refine LeO.ite ?_ ?_
   | refine LeO.bind ?_ (fun _ => ?_)
  ·intro y0 y1 y2 y3 y4
   unfold expr_shaped.j4
   repeat' first
   | (with_reducible exact ih0 _ _ _ _)
   | (with_reducible exact ih1 _ _ _ _ _ _)
   | (with_reducible exact ih2 _ _ _ _ _)
   | (with_reducible exact ih3 _ _ _ _ _)
   | (with_reducible exact ih4 _ _ _ _)
   | (with_reducible exact ih5 _ _ _ _ _ _ _ _)
   | (with_reducible exact ih6 _ _ _ _ _ _)
   | (with_reducible exact LeO.refl _)
   | (with_reducible exact LeO.none _)
   | (with_reducible refine LeO.ite ?_ ?_)
   | (with_reducible refine LeO.bind ?_ (fun _ => ?_))
   | exact ih0 _ _ _ _
   | exact ih1 _ _ _ _ _ _
   | exact ih2 _ _ _ _ _
   | exact ih3 _ _ _ _ _
   | exact ih4 _ _ _ _
   | exact ih5 _ _ _ _ _ _ _ _
   | exact ih6 _ _ _ _ _ _
   | exact LeO.none _
   | refine LeO.ite ?_ ?_
   | refine LeO.bind ?_ (fun _ => ?_)
  ·intro y0 y1 y2 y3
   unfold expr_shaped.l0
   repeat' first
   | (with_reducible exact ih0 _ _ _ _)
   | (with_reducible exact ih1 _ _ _ _ _ _)
   | (with_reducible exact ih2 _ _ _ _ _)
   | (with_reducible exact ih3 _ _ _ _ _)
   | (with_reducible exact ih4 _ _ _ _)
   | (with_reducible exact ih5 _ _ _ _ _ _ _ _)
   | (with_reducible exact ih6 _ _ _ _ _ _)
   | (with_reducible exact LeO.refl _)
   | (with_reducible exact LeO.none _)
   | (with_reducible refine LeO.ite ?_ ?_)
   | (with_reducible refine LeO.bind ?_ (fun _ => ?_))
   | exact ih0 _ _ _ _
   | exact ih1 _ _ _ _ _ _
   | exact ih2 _ _ _ _ _
   | exact ih3 _ _ _ _ _
   | exact ih4 _ _ _ _
   | exact ih5 _ _ _ _ _ _ _ _
   | exact ih6 _ _ _ _ _ _
   | exact LeO.none _
   | refine LeO.ite ?_ ?_
   | refine LeO.bind ?_ (fun _ => ?_)
  ·intro y0 y1 y2 y3 y4 y5 y6 y7
   unfold expr_shaped.j0
   repeat' first
   | (with_reducible exact ih0 _ _ _ _)
   | (with_reducible exact ih1 _ _ _ _ _ _)
   | (with_reducible exact ih2 _ _ _ _ _)
   | (with_reducible exact ih3 _ _ _ _ _)
   | (with_reducible exact ih4 _ _ _ _)
   | (with_reducible exact ih5 _ _ _ _ _ _ _ _)
   | (with_reducible exact ih6 _ _ _ _ _ _)
   | (with_reducible exact LeO.refl _)
   | (with_reducible exact LeO.none _)
   | (with_reducible refine LeO.ite ?_ ?_)
   | (with_reducible refine LeO.bind ?_ (fun _ => ?_))
   | exact ih0 _ _ _ _
   | exact ih1 _ _ _ _ _ _
   | exact ih2 _ _ _ _ _
   | exact ih3 _ _ _ _ _
   | exact ih4 _ _ _ _
   | exact ih5 _ _ _ _ _ _ _ _
   | exact ih6 _ _ _ _ _ _
   | exact LeO.none _
   | refine LeO.ite ?_ ?_
   | refine LeO.bind ?_ (fun _ => ?_)
  ·intro y0 y1 y2 y3 y4 y5
   unfold expr_shaped.j1
   repeat' first
   | (with_reducible exact ih0 _ _ _ _)
   | (with_reducible exact ih1 _ _ _ _ _ _)
   | (with_reducible exact ih2 _ _ _ _ _)
   | (with_reducible exact ih3 _ _ _ _ _)
   | (with_reducible exact ih4 _ _ _ _)
   | (with_reducible exact ih5 _ _ _ _ _ _ _ _)
   | (with_reducible exact ih6 _ _ _ _ _ _)
   | (with_reducible exact LeO.refl _)
   | (with_reducible exact LeO.none _)
   | (with_reducible refine LeO.ite ?_ ?_)
   | (with_reducible refine LeO.bind ?_ (fun _ => ?_))
   | exact ih0 _ _ _ _
   | exact ih1 _ _ _ _ _ _
   | exact ih2 _ _ _ _ _
   | exact ih3 _ _ _ _ _
   | exact ih4 _ _ _ _
   | exact ih5 _ _ _ _ _ _ _ _
   | exact ih6 _ _ _ _ _ _
   | exact LeO.none _
   | refine LeO.ite ?_ ?_
   | refine LeO.bind ?_ (fun _ => ?_)
theorem expr_shaped.mono : ∀ a0 a1 a2 a3 k, LeO (expr_shaped.f k a0 a1 a2 a3) (expr_shaped.f (k + 1) a0 a1 a2 a3) := by
 intro a0 a1 a2 a3 k
 obtain ⟨ih0, ih1, ih2, ih3, ih4, ih5, ih6⟩ := expr_shaped.mono_l k
 exact ih0 a0 a1 a2 a3
set_option maxHeartbeats 8000000 in
set_option maxRecDepth 100000 in
theorem expr_shaped.calls (k : Nat) : ∀ (a0_0 : Int) (a0_1 : Int) (A0_2 : Option Addr) (c0_2 : Nat) (l0_2 : List (S24)) (a1 : Int) (r : Bool) (w : World) (hr0_2 : Kd.C k24 w A0_2 l0_2.length l0_2) (hc0_2 : l0_2.length ≤ c0_2) (h : expr_shaped.f k a0_0 a0_1 l0_2 a1 = some r),
  Calls Try.prog 42 #[.agg #[.int .i64 a0_0, .int .i64 a0_1, .slice A0_2 l0_2.length c0_2], .int .i64 a1] w fun e w' => e = .returned (.bool r) ∧ Below w.heap.size w w' := by
 induction k using Nat.strongRecOn with
 | _ k ih =>
 intro a0_0 a0_1 A0_2 c0_2 l0_2 a1 r w hr0_2 hc0_2 h
 cases k with
 | zero => exact absurd h (by simp [expr_shaped.f])
 | succ k =>
 simp only [expr_shaped.f] at h
 have hu24 := Try.underlying24
 have HR0_2 := Aside0.mk hr0_2
 have HC0_2 := Aside0.mk hc0_2
 clear hr0_2 hc0_2
 have HB := Aside0.mk (Below.refl w.heap.size w)
 have H : (if a0_0 = 1 then (expr_shaped.j0 k a1 0 0 a0_0 (a0_0 == 1) a0_0 a0_1 l0_2) else (if a0_0 = 2 then (expr_shaped.j0 k a1 0 0 a0_0 (a0_0 == 2) a0_0 a0_1 l0_2) else (expr_shaped.j0 k a1 0 0 a0_0 (a0_0 == 3) a0_0 a0_1 l0_2))) = some r := h
 clear h
 have HC3 := Aside0.mk H
 clear H
 go_enter Try.func42, Try.ntmps42
 go_upto_block 0 with (first | ((with_reducible refine gate_dst (N := 2) rfl ?_); (try (refine gate_guard (by rfl) ?_; dsimp only)); refine box_event ?hg (N := 2) ?hd (cs := #[.int .i64 a0_0, .int .i64 a0_1, .slice A0_2 l0_2.length c0_2]) (t := 24) ?hr ?_; (case hd => rfl); (case hg => rfl); (case hr => first | (go_simp; done) | (go_simp; rfl)); intro gb101 hg w4 hbox hb; have n0_ := Aside0.mk (below_step (bB) hb); have n1_ := Aside0.mk (hbox); have n2_ := Aside0.mk ((by rw [hg]; exact (below_size (bB)) : w.heap.size ≤ gb101)); have n3_ := Aside0.mk ((by rw [hg]; exact (below_size (bB)) : w.heap.size ≤ gb101)); clear HB; have HB := n0_; have BK101 := n1_; have GW101 := n2_; have GE101 := n3_; clear n0_ n1_ n2_ n3_; clear hb hbox hg; have hcz5_0 : w4.cell? ⟨gb101, 0, none⟩ = some (.int .i64 a0_0) := (blk_cell BK101.out 0).trans rfl; have hcz5_1 : w4.cell? ⟨gb101, 1, none⟩ = some (.int .i64 a0_1) := (blk_cell BK101.out 1).trans rfl; have hcz5_2 : w4.cell? ⟨gb101, 2, none⟩ = some (.slice A0_2 l0_2.length c0_2) := (blk_cell BK101.out 2).trans rfl; have hfz5_0 := blk_frozen BK101.out 0; have hfz5_1 := blk_frozen BK101.out 1; have hfz5_2 := blk_frozen BK101.out 2))
 (try simp only [Act.put, List.setIfInBounds_toArray, List.set_cons_zero, List.set_cons_succ])
 go_cut [5, 6] (fun v5 v6 wc => ∃ (kq : Nat) (x5_2 : Int) (x6_2 : Int), v5 = .int .i64 x5_2 ∧ v6 = .int .i64 x6_2 ∧ Aside0 (expr_shaped.j2 kq a1 x5_2 x6_2 a0_0 a0_1 l0_2 = some r) ∧ Aside0 (kq ≤ k) ∧ Aside0 (wc.heap[gb101]? = some (.cells #[.int .i64 a0_0, .int .i64 a0_1, (.slice A0_2 l0_2.length c0_2)] 24 (0, 0))) ∧ Aside0 (Below w.heap.size w wc))
 case first =>
  have H := HC3.out
  clear HC3
  have HC6 := Aside0.mk H
  clear H
  go_upto_if 11 with (fail)
  go_cut [11] (fun v11 wc => ∃ (kq : Nat) (x11_5 : Bool), v11 = .bool x11_5 ∧ Aside0 (expr_shaped.j0 kq a1 0 0 a0_0 x11_5 a0_0 a0_1 l0_2 = some r) ∧ Aside0 (kq ≤ k) ∧ Aside0 (wc.heap[gb101]? = some (.cells #[.int .i64 a0_0, .int .i64 a0_1, (.slice A0_2 l0_2.length c0_2)] 24 (0, 0))) ∧ Aside0 (Below w.heap.size w wc))
  case first =>
   have H := HC6.out
   clear HC6
   by_cases c7 : a0_0 = 1
   ·rw [if_pos c7] at H
    have c7b0 : (a0_0 == 1) = true := beq_iff_eq.mpr c7
    have c7b1 : (a0_0 != 1) = false := bne_eq_false_iff_eq.mpr c7
    clear c7
    (first | rw [c7b0] | (simp only [i64_w, i32_w]; rw [c7b0]) | skip)
    have H' := Aside0.mk H
    clear H
    go_wp2
    go_meet
    case rel => exact ⟨_, ((a0_0 == 1)), (by first | rfl | (simp; done) | (simp [*]; done)), H', ⟨by first | omega | exact Nat.le_refl _⟩, ⟨bK⟩, ⟨bB⟩⟩
   ·rw [if_neg c7] at H
    have c7b0 : (a0_0 == 1) = false := beq_eq_false_iff_ne.mpr c7
    have c7b1 : (a0_0 != 1) = true := bne_iff_ne.mpr c7
    (first | rw [c7b0] | (simp only [i64_w, i32_w]; rw [c7b0]) | skip)
    by_cases c8 : a0_0 = 2
    ·rw [if_pos c8] at H
     have c8b0 : (a0_0 == 2) = true := beq_iff_eq.mpr c8
     have c8b1 : (a0_0 != 2) = false := bne_eq_false_iff_eq.mpr c8
     clear c8
     have H' := Aside0.mk H
     clear H
     go_wp2
     go_meet
     case rel => exact ⟨_, ((a0_0 == 2)), (by first | rfl | (simp; done) | (simp [*]; done)), H', ⟨by first | omega | exact Nat.le_refl _⟩, ⟨bK⟩, ⟨bB⟩⟩
    ·rw [if_neg c8] at H
     have c8b0 : (a0_0 == 2) = false := beq_eq_false_iff_ne.mpr c8
     have c8b1 : (a0_0 != 2) = true := bne_iff_ne.mpr c8
     have H' := Aside0.mk H
     clear H
     go_wp2
     go_meet
     case rel => exact ⟨_, ((a0_0 == 3)), (by first | rfl | (simp; done) | (simp [*]; done)), H', ⟨by first | omega | exact Nat.le_refl _⟩, ⟨bK⟩, ⟨bB⟩⟩
  case rest =>
   clear HC6
   try clear p2
   try clear c4
   try clear c7
   try clear c7b0
   try clear c7b1
   try clear c8
   try clear c8b0
   try clear c8b1
   try clear hcz5_0
   try clear hcz5_1
   try clear hcz5_2
   try clear hfz5_0
   try clear hfz5_1
   try clear hfz5_2
   obtain ⟨kq, x11_5, rfl, HA, HJ5, BK101, HB⟩ := hcut
   cases kq with
   | zero => exact absurd HA.out (by simp [expr_shaped.j0])
   | succ kj5 =>
    have H := HA.out
    clear HA
    simp only [expr_shaped.j0] at H
    by_cases c9 : x11_5 = true
    ·subst c9
     have H1 : (expr_shaped.j2 kj5 a1 0 0 a0_0 a0_1 l0_2) = some r := by rw [if_pos rfl] at H; exact H
     clear H
     have H := H1
     clear H1
     have H' := Aside0.mk H
     clear H
     go_wp2
     go_meet
     case rel => exact ⟨_, (0), (0), (by first | rfl | (simp; done) | (simp [*]; done)), (by first | rfl | (simp; done) | (simp [*]; done)), H', ⟨by have := HJ5.out; first | omega | exact Nat.le_refl _⟩, ⟨bK⟩, ⟨bB⟩⟩
    ·replace c9 := Bool.eq_false_iff.mpr c9
     subst c9
     have H1 : (if a0_0 = 4 then (expr_shaped.j1 kj5 a1 a0_0 (a0_0 == 4) a0_0 a0_1 l0_2) else (if a0_0 = 5 then (expr_shaped.j1 kj5 a1 a0_0 (a0_0 == 5) a0_0 a0_1 l0_2) else (expr_shaped.j1 kj5 a1 a0_0 (a0_0 == 6) a0_0 a0_1 l0_2))) = some r := by rw [if_neg (show ¬ (false = true) by decide)] at H; exact H
     clear H
     have H := H1
     clear H1
     have HC10 := Aside0.mk H
     clear H
     go_upto_if 15 with (fail)
     go_cut [15] (fun v15 wc => ∃ (kq : Nat) (x15_9 : Bool), v15 = .bool x15_9 ∧ Aside0 (expr_shaped.j1 kq a1 a0_0 x15_9 a0_0 a0_1 l0_2 = some r) ∧ Aside0 (kq ≤ kj5) ∧ Aside0 (wc.heap[gb101]? = some (.cells #[.int .i64 a0_0, .int .i64 a0_1, (.slice A0_2 l0_2.length c0_2)] 24 (0, 0))) ∧ Aside0 (Below w.heap.size w wc))
     case first =>
      have H := HC10.out
      clear HC10
      by_cases c11 : a0_0 = 4
      ·rw [if_pos c11] at H
       have c11b0 : (a0_0 == 4) = true := beq_iff_eq.mpr c11
       have c11b1 : (a0_0 != 4) = false := bne_eq_false_iff_eq.mpr c11
       clear c11
       (first | rw [c11b0] | (simp only [i64_w, i32_w]; rw [c11b0]) | skip)
       have H' := Aside0.mk H
       clear H
       go_wp2
       go_meet
       case rel => exact ⟨_, ((a0_0 == 4)), (by first | rfl | (simp; done) | (simp [*]; done)), H', ⟨by have := HJ5.out; first | omega | exact Nat.le_refl _⟩, ⟨bK⟩, ⟨bB⟩⟩
      ·rw [if_neg c11] at H
       have c11b0 : (a0_0 == 4) = false := beq_eq_false_iff_ne.mpr c11
       have c11b1 : (a0_0 != 4) = true := bne_iff_ne.mpr c11
       (first | rw [c11b0] | (simp only [i64_w, i32_w]; rw [c11b0]) | skip)
       by_cases c12 : a0_0 = 5
       ·rw [if_pos c12] at H
        have c12b0 : (a0_0 == 5) = true := beq_iff_eq.mpr c12
        have c12b1 : (a0_0 != 5) = false := bne_eq_false_iff_eq.mpr c12
        clear c12
        have H' := Aside0.mk H
        clear H
        go_wp2
        go_meet
        case rel => exact ⟨_, ((a0_0 == 5)), (by first | rfl | (simp; done) | (simp [*]; done)), H', ⟨by have := HJ5.out; first | omega | exact Nat.le_refl _⟩, ⟨bK⟩, ⟨bB⟩⟩
       ·rw [if_neg c12] at H
        have c12b0 : (a0_0 == 5) = false := beq_eq_false_iff_ne.mpr c12
        have c12b1 : (a0_0 != 5) = true := bne_iff_ne.mpr c12
        have H' := Aside0.mk H
        clear H
        go_wp2
        go_meet
        case rel => exact ⟨_, ((a0_0 == 6)), (by first | rfl | (simp; done) | (simp [*]; done)), H', ⟨by have := HJ5.out; first | omega | exact Nat.le_refl _⟩, ⟨bK⟩, ⟨bB⟩⟩
     case rest =>
      clear HC10
      try clear c1
      try clear p2
      try clear c4
      try clear c7
      try clear c7b0
      try clear c7b1
      try clear c8
      try clear c8b0
      try clear c8b1
      try clear c9
      try clear c11
      try clear c11b0
      try clear c11b1
      try clear c12
      try clear c12b0
      try clear c12b1
      try clear hcz5_0
      try clear hcz5_1
      try clear hcz5_2
      try clear hfz5_0
      try clear hfz5_1
      try clear hfz5_2
      try clear p2
      obtain ⟨kq, x15_9, rfl, HA, HJ9, BK101, HB⟩ := hcut
      cases kq with
      | zero => exact absurd HA.out (by simp [expr_shaped.j1])
      | succ kj9 =>
       have H := HA.out
       clear HA
       simp only [expr_shaped.j1] at H
       by_cases c13 : x15_9 = true
       ·subst c13
        have H1 : (expr_shaped.j2 kj9 a1 2 400 a0_0 a0_1 l0_2) = some r := by rw [if_pos rfl] at H; exact H
        clear H
        have H := H1
        clear H1
        have H' := Aside0.mk H
        clear H
        go_wp2
        go_meet
        case rel => exact ⟨_, (2), (400), (by first | rfl | (simp; done) | (simp [*]; done)), (by first | rfl | (simp; done) | (simp [*]; done)), H', ⟨by have := HJ5.out; have := HJ9.out; first | omega | exact Nat.le_refl _⟩, ⟨bK⟩, ⟨bB⟩⟩
       ·replace c13 := Bool.eq_false_iff.mpr c13
        subst c13
        have H1 : (if a0_0 = 7 then (expr_shaped.j2 kj9 a1 1 1 a0_0 a0_1 l0_2) else (if a0_0 = 8 then (expr_shaped.j2 kj9 a1 1 1 a0_0 a0_1 l0_2) else (some false))) = some r := by rw [if_neg (show ¬ (false = true) by decide)] at H; exact H
        clear H
        have H := H1
        clear H1
        by_cases c14 : a0_0 = 7
        ·rw [if_pos c14] at H
         have c14b0 : (a0_0 == 7) = true := beq_iff_eq.mpr c14
         have c14b1 : (a0_0 != 7) = false := bne_eq_false_iff_eq.mpr c14
         clear c14
         have H' := Aside0.mk H
         clear H
         go_wp2
         go_meet
         case rel => exact ⟨_, (1), (1), (by first | rfl | (simp; done) | (simp [*]; done)), (by first | rfl | (simp; done) | (simp [*]; done)), H', ⟨by have := HJ5.out; have := HJ9.out; first | omega | exact Nat.le_refl _⟩, ⟨bK⟩, ⟨bB⟩⟩
        ·rw [if_neg c14] at H
         have c14b0 : (a0_0 == 7) = false := beq_eq_false_iff_ne.mpr c14
         have c14b1 : (a0_0 != 7) = true := bne_iff_ne.mpr c14
         by_cases c15 : a0_0 = 8
         ·rw [if_pos c15] at H
          have c15b0 : (a0_0 == 8) = true := beq_iff_eq.mpr c15
          have c15b1 : (a0_0 != 8) = false := bne_eq_false_iff_eq.mpr c15
          clear c15
          have H' := Aside0.mk H
          clear H
          go_wp2
          go_meet
          case rel => exact ⟨_, (1), (1), (by first | rfl | (simp; done) | (simp [*]; done)), (by first | rfl | (simp; done) | (simp [*]; done)), H', ⟨by have := HJ5.out; have := HJ9.out; first | omega | exact Nat.le_refl _⟩, ⟨bK⟩, ⟨bB⟩⟩
         ·rw [if_neg c15] at H
          have c15b0 : (a0_0 == 8) = false := beq_eq_false_iff_ne.mpr c15
          have c15b1 : (a0_0 != 8) = true := bne_iff_ne.mpr c15
          obtain rfl := Option.some.inj H
          go_wp2
          go_ret
          exact ⟨by first | rfl | (simp [errW_none, errW_some] <;> rfl) | (simp [*, errW_none, errW_some] <;> rfl), bB⟩
 case rest =>
  clear HC3
  try clear c1
  try clear p2
  try clear c4
  try clear c7
  try clear c7b0
  try clear c7b1
  try clear c8
  try clear c8b0
  try clear c8b1
  try clear c9
  try clear c11
  try clear c11b0
  try clear c11b1
  try clear c12
  try clear c12b0
  try clear c12b1
  try clear c13
  try clear c14
  try clear c14b0
  try clear c14b1
  try clear c15
  try clear c15b0
  try clear c15b1
  try clear hcz5_0
  try clear hcz5_1
  try clear hcz5_2
  try clear hfz5_0
  try clear hfz5_1
  try clear hfz5_2
  try clear p2
  obtain ⟨kq, x5_2, x6_2, rfl, rfl, HA, HJ2, BK101, HB⟩ := hcut
  cases kq with
  | zero => exact absurd HA.out (by simp [expr_shaped.j2])
  | succ kj2 =>
   have H := HA.out
   clear HA
   simp only [expr_shaped.j2] at H
   have HC16 := Aside0.mk H
   clear H
   go_upto_region 14 with (fail)
   go_cut [33] (fun v33 wc => ∃ (kq : Nat) (x33_15 : Bool), v33 = .bool x33_15 ∧ Aside0 (expr_shaped.j3 kq a1 x33_15 a0_0 a0_1 l0_2 = some r) ∧ Aside0 (kq ≤ kj2) ∧ Aside0 (wc.heap[gb101]? = some (.cells #[.int .i64 a0_0, .int .i64 a0_1, (.slice A0_2 l0_2.length c0_2)] 24 (0, 0))) ∧ Aside0 (Below w.heap.size w wc))
   case first =>
    have H := HC16.out
    clear HC16
    by_cases c17 : (l0_2.length : Int) < x5_2
    ·rw [if_pos c17] at H
     have c17b0 : decide ((l0_2.length : Int) < x5_2) = true := decide_eq_true c17
     clear c17
     (first | rw [c17b0] | (simp only [i64_w, i32_w]; rw [c17b0]) | skip)
     have H' := Aside0.mk H
     clear H
     have hcz18_0 : wc.cell? ⟨gb101, 0, none⟩ = some (.int .i64 a0_0) := (blk_cell BK101.out 0).trans rfl
     have hcz18_1 : wc.cell? ⟨gb101, 1, none⟩ = some (.int .i64 a0_1) := (blk_cell BK101.out 1).trans rfl
     have hcz18_2 : wc.cell? ⟨gb101, 2, none⟩ = some (.slice A0_2 l0_2.length c0_2) := (blk_cell BK101.out 2).trans rfl
     have hfz18_0 := blk_frozen BK101.out 0
     have hfz18_1 := blk_frozen BK101.out 1
     have hfz18_2 := blk_frozen BK101.out 2
     go_wp2
     go_meet
     case rel => exact ⟨_, (true), (by first | rfl | (simp; done) | (simp [*]; done)), H', ⟨by have := HJ2.out; first | omega | exact Nat.le_refl _⟩, ⟨bK⟩, ⟨bB⟩⟩
    ·rw [if_neg c17] at H
     have c17b0 : decide ((l0_2.length : Int) < x5_2) = false := decide_eq_false c17
     clear c17
     (first | rw [c17b0] | (simp only [i64_w, i32_w]; rw [c17b0]) | skip)
     have H' := Aside0.mk H
     clear H
     have hcz19_0 : wc.cell? ⟨gb101, 0, none⟩ = some (.int .i64 a0_0) := (blk_cell BK101.out 0).trans rfl
     have hcz19_1 : wc.cell? ⟨gb101, 1, none⟩ = some (.int .i64 a0_1) := (blk_cell BK101.out 1).trans rfl
     have hcz19_2 : wc.cell? ⟨gb101, 2, none⟩ = some (.slice A0_2 l0_2.length c0_2) := (blk_cell BK101.out 2).trans rfl
     have hfz19_0 := blk_frozen BK101.out 0
     have hfz19_1 := blk_frozen BK101.out 1
     have hfz19_2 := blk_frozen BK101.out 2
     go_wp2
     go_meet
     case rel => exact ⟨_, (decide ((l0_2.length : Int) > x6_2)), (by first | rfl | (simp; done) | (simp [*]; done)), H', ⟨by have := HJ2.out; first | omega | exact Nat.le_refl _⟩, ⟨bK⟩, ⟨bB⟩⟩
   case rest =>
    clear HC16
    try clear c1
    try clear p2
    try clear c4
    try clear c7
    try clear c7b0
    try clear c7b1
    try clear c8
    try clear c8b0
    try clear c8b1
    try clear c9
    try clear c11
    try clear c11b0
    try clear c11b1
    try clear c12
    try clear c12b0
    try clear c12b1
    try clear c13
    try clear c14
    try clear c14b0
    try clear c14b1
    try clear c15
    try clear c15b0
    try clear c15b1
    try clear c17
    try clear c17b0
    try clear hcz18_0
    try clear hcz18_1
    try clear hcz18_2
    try clear hcz19_0
    try clear hcz19_1
    try clear hcz19_2
    try clear hcz5_0
    try clear hcz5_1
    try clear hcz5_2
    try clear hfz18_0
    try clear hfz18_1
    try clear hfz18_2
    try clear hfz19_0
    try clear hfz19_1
    try clear hfz19_2
    try clear hfz5_0
    try clear hfz5_1
    try clear hfz5_2
    try clear p2
    obtain ⟨kq, x33_15, rfl, HA, HJ15, BK101, HB⟩ := hcut
    cases kq with
    | zero => exact absurd HA.out (by simp [expr_shaped.j3])
    | succ kj15 =>
     have H := HA.out
     clear HA
     simp only [expr_shaped.j3] at H
     by_cases c20 : x33_15 = true
     ·subst c20
      have H1 : (some false) = some r := by rw [if_pos rfl] at H; exact H
      clear H
      have H := H1
      clear H1
      obtain rfl := Option.some.inj H
      go_wp2
      go_ret
      exact ⟨by first | rfl | (simp [errW_none, errW_some] <;> rfl) | (simp [*, errW_none, errW_some] <;> rfl), bB⟩
     ·replace c20 := Bool.eq_false_iff.mpr c20
      subst c20
      have H1 : (if a0_0 = 3 then (if a0_1 < 0 then (expr_shaped.j4 kj15 a1 true a0_0 a0_1 l0_2) else (if a0_1 ≥ a1 then (expr_shaped.j4 kj15 a1 true a0_0 a0_1 l0_2) else (expr_shaped.j4 kj15 a1 false a0_0 a0_1 l0_2))) else (expr_shaped.j4 kj15 a1 (a0_1 != 0) a0_0 a0_1 l0_2)) = some r := by rw [if_neg (show ¬ (false = true) by decide)] at H; exact H
      clear H
      have H := H1
      clear H1
      have HC21 := Aside0.mk H
      clear H
      go_upto_region 16 with (fail)
      go_cut [57] (fun v57 wc => ∃ (kq : Nat) (x57_20 : Bool), v57 = .bool x57_20 ∧ Aside0 (expr_shaped.j4 kq a1 x57_20 a0_0 a0_1 l0_2 = some r) ∧ Aside0 (kq ≤ kj15) ∧ Aside0 (wc.heap[gb101]? = some (.cells #[.int .i64 a0_0, .int .i64 a0_1, (.slice A0_2 l0_2.length c0_2)] 24 (0, 0))) ∧ Aside0 (Below w.heap.size w wc))
      case first =>
       have H := HC21.out
       clear HC21
       by_cases c22 : a0_0 = 3
       ·rw [if_pos c22] at H
        have c22b0 : (a0_0 == 3) = true := beq_iff_eq.mpr c22
        have c22b1 : (a0_0 != 3) = false := bne_eq_false_iff_eq.mpr c22
        clear c22
        (first | rw [c22b0] | (simp only [i64_w, i32_w]; rw [c22b0]) | skip)
        by_cases c23 : a0_1 < 0
        ·rw [if_pos c23] at H
         have c23b0 : decide (a0_1 < 0) = true := decide_eq_true c23
         clear c23
         have H' := Aside0.mk H
         clear H
         have hcz24_0 : wc.cell? ⟨gb101, 0, none⟩ = some (.int .i64 a0_0) := (blk_cell BK101.out 0).trans rfl
         have hcz24_1 : wc.cell? ⟨gb101, 1, none⟩ = some (.int .i64 a0_1) := (blk_cell BK101.out 1).trans rfl
         have hcz24_2 : wc.cell? ⟨gb101, 2, none⟩ = some (.slice A0_2 l0_2.length c0_2) := (blk_cell BK101.out 2).trans rfl
         have hfz24_0 := blk_frozen BK101.out 0
         have hfz24_1 := blk_frozen BK101.out 1
         have hfz24_2 := blk_frozen BK101.out 2
         go_wp2
         go_meet
         case rel => exact ⟨_, (true), (by first | rfl | (simp; done) | (simp [*]; done)), H', ⟨by have := HJ2.out; have := HJ15.out; first | omega | exact Nat.le_refl _⟩, ⟨bK⟩, ⟨bB⟩⟩
        ·rw [if_neg c23] at H
         have c23b0 : decide (a0_1 < 0) = false := decide_eq_false c23
         clear c23
         by_cases c25 : a0_1 ≥ a1
         ·rw [if_pos c25] at H
          have c25b0 : decide (a1 ≤ a0_1) = true := decide_eq_true c25
          clear c25
          have H' := Aside0.mk H
          clear H
          have hcz26_0 : wc.cell? ⟨gb101, 0, none⟩ = some (.int .i64 a0_0) := (blk_cell BK101.out 0).trans rfl
          have hcz26_1 : wc.cell? ⟨gb101, 1, none⟩ = some (.int .i64 a0_1) := (blk_cell BK101.out 1).trans rfl
          have hcz26_2 : wc.cell? ⟨gb101, 2, none⟩ = some (.slice A0_2 l0_2.length c0_2) := (blk_cell BK101.out 2).trans rfl
          have hfz26_0 := blk_frozen BK101.out 0
          have hfz26_1 := blk_frozen BK101.out 1
          have hfz26_2 := blk_frozen BK101.out 2
          go_wp2
          go_meet
          case rel => exact ⟨_, (true), (by first | rfl | (simp; done) | (simp [*]; done)), H', ⟨by have := HJ2.out; have := HJ15.out; first | omega | exact Nat.le_refl _⟩, ⟨bK⟩, ⟨bB⟩⟩
         ·rw [if_neg c25] at H
          have c25b0 : decide (a1 ≤ a0_1) = false := decide_eq_false c25
          clear c25
          have H' := Aside0.mk H
          clear H
          have hcz27_0 : wc.cell? ⟨gb101, 0, none⟩ = some (.int .i64 a0_0) := (blk_cell BK101.out 0).trans rfl
          have hcz27_1 : wc.cell? ⟨gb101, 1, none⟩ = some (.int .i64 a0_1) := (blk_cell BK101.out 1).trans rfl
          have hcz27_2 : wc.cell? ⟨gb101, 2, none⟩ = some (.slice A0_2 l0_2.length c0_2) := (blk_cell BK101.out 2).trans rfl
          have hfz27_0 := blk_frozen BK101.out 0
          have hfz27_1 := blk_frozen BK101.out 1
          have hfz27_2 := blk_frozen BK101.out 2
          go_wp2
          go_meet
          case rel => exact ⟨_, (false), (by first | rfl | (simp; done) | (simp [*]; done)), H', ⟨by have := HJ2.out; have := HJ15.out; first | omega | exact Nat.le_refl _⟩, ⟨bK⟩, ⟨bB⟩⟩
       ·rw [if_neg c22] at H
        have c22b0 : (a0_0 == 3) = false := beq_eq_false_iff_ne.mpr c22
        have c22b1 : (a0_0 != 3) = true := bne_iff_ne.mpr c22
        (first | rw [c22b0] | (simp only [i64_w, i32_w]; rw [c22b0]) | skip)
        have H' := Aside0.mk H
        clear H
        have hcz28_0 : wc.cell? ⟨gb101, 0, none⟩ = some (.int .i64 a0_0) := (blk_cell BK101.out 0).trans rfl
        have hcz28_1 : wc.cell? ⟨gb101, 1, none⟩ = some (.int .i64 a0_1) := (blk_cell BK101.out 1).trans rfl
        have hcz28_2 : wc.cell? ⟨gb101, 2, none⟩ = some (.slice A0_2 l0_2.length c0_2) := (blk_cell BK101.out 2).trans rfl
        have hfz28_0 := blk_frozen BK101.out 0
        have hfz28_1 := blk_frozen BK101.out 1
        have hfz28_2 := blk_frozen BK101.out 2
        go_wp2
        go_meet
        case rel => exact ⟨_, ((a0_1 != 0)), (by first | rfl | (simp; done) | (simp [*]; done)), H', ⟨by have := HJ2.out; have := HJ15.out; first | omega | exact Nat.le_refl _⟩, ⟨bK⟩, ⟨bB⟩⟩
      case rest =>
       clear HC21
       try clear c1
       try clear c2
       try clear p2
       try clear c4
       try clear c7
       try clear c7b0
       try clear c7b1
       try clear c8
       try clear c8b0
       try clear c8b1
       try clear c9
       try clear c11
       try clear c11b0
       try clear c11b1
       try clear c12
       try clear c12b0
       try clear c12b1
       try clear c13
       try clear c14
       try clear c14b0
       try clear c14b1
       try clear c15
       try clear c15b0
       try clear c15b1
       try clear c17
       try clear c17b0
       try clear c20
       try clear c22
       try clear c22b0
       try clear c22b1
       try clear c23
       try clear c23b0
       try clear c25
       try clear c25b0
       try clear hcz18_0
       try clear hcz18_1
       try clear hcz18_2
       try clear hcz19_0
       try clear hcz19_1
       try clear hcz19_2
       try clear hcz24_0
       try clear hcz24_1
       try clear hcz24_2
       try clear hcz26_0
       try clear hcz26_1
       try clear hcz26_2
       try clear hcz27_0
       try clear hcz27_1
       try clear hcz27_2
       try clear hcz28_0
       try clear hcz28_1
       try clear hcz28_2
       try clear hcz5_0
       try clear hcz5_1
       try clear hcz5_2
       try clear hfz18_0
       try clear hfz18_1
       try clear hfz18_2
       try clear hfz19_0
       try clear hfz19_1
       try clear hfz19_2
       try clear hfz24_0
       try clear hfz24_1
       try clear hfz24_2
       try clear hfz26_0
       try clear hfz26_1
       try clear hfz26_2
       try clear hfz27_0
       try clear hfz27_1
       try clear hfz27_2
       try clear hfz28_0
       try clear hfz28_1
       try clear hfz28_2
       try clear hfz5_0
       try clear hfz5_1
       try clear hfz5_2
       try clear p2
       obtain ⟨kq, x57_20, rfl, HA, HJ20, BK101, HB⟩ := hcut
       cases kq with
       | zero => exact absurd HA.out (by simp [expr_shaped.j4])
       | succ kj20 =>
        have H := HA.out
        clear HA
        simp only [expr_shaped.j4] at H
        by_cases c29 : x57_20 = true
        ·subst c29
         have H1 : (some false) = some r := by rw [if_pos rfl] at H; exact H
         clear H
         have H := H1
         clear H1
         obtain rfl := Option.some.inj H
         go_wp2
         go_ret
         exact ⟨by first | rfl | (simp [errW_none, errW_some] <;> rfl) | (simp [*, errW_none, errW_some] <;> rfl), bB⟩
        ·replace c29 := Bool.eq_false_iff.mpr c29
         subst c29
         have H1 : (expr_shaped.l0 kj20 a1 l0_2 (l0_2.length : Int) 0) = some r := by rw [if_neg (show ¬ (false = true) by decide)] at H; exact H
         clear H
         have H := H1
         clear H1
         have H' := Aside0.mk H
         clear H
         have hcz30_0 : wc.cell? ⟨gb101, 0, none⟩ = some (.int .i64 a0_0) := (blk_cell BK101.out 0).trans rfl
         have hcz30_1 : wc.cell? ⟨gb101, 1, none⟩ = some (.int .i64 a0_1) := (blk_cell BK101.out 1).trans rfl
         have hcz30_2 : wc.cell? ⟨gb101, 2, none⟩ = some (.slice A0_2 l0_2.length c0_2) := (blk_cell BK101.out 2).trans rfl
         have hfz30_0 := blk_frozen BK101.out 0
         have hfz30_1 := blk_frozen BK101.out 1
         have hfz30_2 := blk_frozen BK101.out 2
         go_wp2
         go_loopg [61] kj20 (fun kq v61 w' => ∃ (x61_4 : Int), v61 = .int .i64 x61_4 ∧ Aside0 (expr_shaped.l0 kq a1 l0_2 (l0_2.length : Int) x61_4 = some r) ∧ Aside0 (kq ≤ kj20) ∧ Aside0 (w'.heap[gb101]? = some (.cells #[.int .i64 a0_0, .int .i64 a0_1, (.slice A0_2 l0_2.length c0_2)] 24 (0, 0))) ∧ Aside0 (Below w.heap.size w w'))
         case atStart => exact ⟨(0), (by first | rfl | (simp; done) | (simp [*]; done)), H', ⟨Nat.le_refl _⟩, ⟨bK⟩, ⟨bB⟩⟩
         case round =>
          clear H'
          try clear c1
          try clear c2
          try clear p2
          try clear c4
          try clear c7
          try clear c7b0
          try clear c7b1
          try clear c8
          try clear c8b0
          try clear c8b1
          try clear c9
          try clear c11
          try clear c11b0
          try clear c11b1
          try clear c12
          try clear c12b0
          try clear c12b1
          try clear c13
          try clear c14
          try clear c14b0
          try clear c14b1
          try clear c15
          try clear c15b0
          try clear c15b1
          try clear c17
          try clear c17b0
          try clear c20
          try clear c22
          try clear c22b0
          try clear c22b1
          try clear c23
          try clear c23b0
          try clear c25
          try clear c25b0
          try clear c29
          try clear hcz18_0
          try clear hcz18_1
          try clear hcz18_2
          try clear hcz19_0
          try clear hcz19_1
          try clear hcz19_2
          try clear hcz24_0
          try clear hcz24_1
          try clear hcz24_2
          try clear hcz26_0
          try clear hcz26_1
          try clear hcz26_2
          try clear hcz27_0
          try clear hcz27_1
          try clear hcz27_2
          try clear hcz28_0
          try clear hcz28_1
          try clear hcz28_2
          try clear hcz30_0
          try clear hcz30_1
          try clear hcz30_2
          try clear hcz5_0
          try clear hcz5_1
          try clear hcz5_2
          try clear hfz18_0
          try clear hfz18_1
          try clear hfz18_2
          try clear hfz19_0
          try clear hfz19_1
          try clear hfz19_2
          try clear hfz24_0
          try clear hfz24_1
          try clear hfz24_2
          try clear hfz26_0
          try clear hfz26_1
          try clear hfz26_2
          try clear hfz27_0
          try clear hfz27_1
          try clear hfz27_2
          try clear hfz28_0
          try clear hfz28_1
          try clear hfz28_2
          try clear hfz30_0
          try clear hfz30_1
          try clear hfz30_2
          try clear hfz5_0
          try clear hfz5_1
          try clear hfz5_2
          try clear p2
          obtain ⟨x61_4, rfl, HA, HK4, BK101, HB⟩ := hrel
          cases gk with
          | zero => exact absurd HA.out (by simp [expr_shaped.l0])
          | succ k4 =>
           have H := HA.out
           clear HA
           simp only [expr_shaped.l0] at H
           by_cases c31 : x61_4 < (l0_2.length : Int)
           ·rw [if_pos c31] at H
            have c31b0 : decide (x61_4 < (l0_2.length : Int)) = true := decide_eq_true c31
            clear c31
            by_cases c32 : 0 ≤ x61_4
            ·rw [if_pos c32] at H
             have c32b0 : decide (0 ≤ x61_4) = true := decide_eq_true c32
             clear c32
             by_cases c33 : x61_4 < (l0_2.length : Int)
             ·rw [if_pos c33] at H
              have c33b0 : decide (x61_4 < (l0_2.length : Int)) = true := decide_eq_true c33
              clear c33
              replace H := Option.bind_eq_some_iff.mp H
              obtain ⟨t104, A340, H⟩ := H
              replace H : (if t104 = true then (expr_shaped.l0 k4 a1 l0_2 (l0_2.length : Int) (wrap64 (x61_4 + 1))) else (some false)) = some r := H
              have A34 := Aside0.mk A340
              clear A340
              by_cases c35 : t104 = true
              ·subst c35
               have H1 : (expr_shaped.l0 k4 a1 l0_2 (l0_2.length : Int) (wrap64 (x61_4 + 1))) = some r := by rw [if_pos rfl] at H; exact H
               clear H
               have H := H1
               clear H1
               have H' := Aside0.mk H
               clear H
               have p102 : 0 ≤ (x61_4 : Int) := of_decide_eq_true (by first | (with_reducible assumption) | assumption)
               have q102 : x61_4 < (l0_2.length : Int) := of_decide_eq_true (by first | (with_reducible assumption) | assumption)
               obtain ⟨ad102, A102_2, c102_2, e102, hx102_0, hx102_1, hx102_2, hl102_2, hi102_2⟩ := at_T24 HR0_2.out x61_4 p102 q102
               cases e102
               replace hx102_0 := (HB.out.cell (World.block_lt_of_cell? w _ hx102_0)).trans hx102_0
               replace hx102_1 := (HB.out.cell (World.block_lt_of_cell? w _ hx102_1)).trans hx102_1
               replace hx102_2 := (HB.out.cell (World.block_lt_of_cell? w _ hx102_2)).trans hx102_2
               have HR102_2 := Aside0.mk hi102_2
               have HC102_2 := Aside0.mk hl102_2
               clear hi102_2 hl102_2
               replace p102 := eq_true p102
               replace q102 := eq_true q102
               go_wp2_with (first | ((with_reducible refine gate_dst (N := 8) rfl ?_); (try (refine gate_guard (by rfl) ?_; dsimp only)); refine box_event ?hg (N := 8) ?hd (cs := #[.int .i64 0, .int .i64 0, .slice none 0 0]) (t := 24) ?hr ?_; (case hd => rfl); (case hg => rfl); (case hr => first | (go_simp; done) | (go_simp; rfl)); intro gb103 hg w36 hbox hb; have n0_ := Aside0.mk (blk_below (g := gb101) (o := .cells #[.int .i64 a0_0, .int .i64 a0_1, .slice (some ad102) l0_2.length c0_2] 24 (0, 0)) (bK) hb); have n1_ := Aside0.mk (below_step (bB) hb); have n2_ := Aside0.mk (hbox); have n3_ := Aside0.mk ((by rw [hg]; exact (below_size (bB)) : w.heap.size ≤ gb103)); have n4_ := Aside0.mk ((by rw [hg]; exact (below_size (bB)) : w.heap.size ≤ gb103)); have n5_ := Aside0.mk ((by rw [hg]; exact Nat.ne_of_lt (blk_lt (g := gb101) (o := .cells #[.int .i64 a0_0, .int .i64 a0_1, .slice (some ad102) l0_2.length c0_2] 24 (0, 0)) (bK)) : gb101 ≠ gb103)); have n6_ := Aside0.mk ((by rw [hg]; exact Nat.ne_of_gt (blk_lt (g := gb101) (o := .cells #[.int .i64 a0_0, .int .i64 a0_1, .slice (some ad102) l0_2.length c0_2] 24 (0, 0)) (bK)) : gb103 ≠ gb101)); clear BK101; clear HB; have BK101 := n0_; have HB := n1_; have BK103 := n2_; have GW103 := n3_; have GE103 := n4_; have NB101_103 := n5_; have NB103_101 := n6_; clear n0_ n1_ n2_ n3_ n4_ n5_ n6_; clear hb hbox hg; have hnb37 := NB103_101.out; have hnc37 := NB101_103.out; have hcz38_0 : w36.cell? ⟨gb103, 0, none⟩ = some (.int .i64 0) := (blk_cell BK103.out 0).trans rfl; have hcz38_1 : w36.cell? ⟨gb103, 1, none⟩ = some (.int .i64 0) := (blk_cell BK103.out 1).trans rfl; have hcz38_2 : w36.cell? ⟨gb103, 2, none⟩ = some (.slice none 0 0) := (blk_cell BK103.out 2).trans rfl; have hfz38_0 := blk_frozen BK103.out 0; have hfz38_1 := blk_frozen BK103.out 1; have hfz38_2 := blk_frozen BK103.out 2) | ((with_reducible refine gate_callee (f := 42) rfl ?_); refine goesL_ (some 67) rfl rfl Try.func42 (by kernel_rfl) rfl #[.agg #[.int .i64 ((rd_T24 l0_2 x61_4).f0), .int .i64 ((rd_T24 l0_2 x61_4).f1), .slice A102_2 ((rd_T24 l0_2 x61_4).f2).length c102_2], .int .i64 a1] rfl (by (try simp only [List.map_toArray, List.map_cons, List.map_nil]); first | done | rfl | (simp only [List.length_drop, List.length_take]; rfl) | (simp only [Int.ofNat_lt, Int.ofNat_le]; rfl)) ?_; (with_reducible refine (ih k4 (by have := HJ2.out; have := HJ15.out; have := HJ20.out; have := HK4.out; omega) ((rd_T24 l0_2 x61_4).f0) ((rd_T24 l0_2 x61_4).f1) _ _ ((rd_T24 l0_2 x61_4).f2) a1 true _ ?side1 ?side2 A34.out).mono ?_); (case side1 => exact Kd.C_below HR102_2.out (bB)); (case side2 => exact HC102_2.out); rintro e w39 ⟨rfl, hb⟩; refine ⟨_, rfl, ?_⟩; have n0_ := Aside0.mk (blk_below (g := gb101) (o := .cells #[.int .i64 a0_0, .int .i64 a0_1, .slice (some ad102) l0_2.length c0_2] 24 (0, 0)) (by (with_reducible repeat (first | refine blk_drewN ?_ _ | refine blk_drew ?_ | refine blk_alloc ?_ _)); refine blk_far ?_ NB101_103.out _; (with_reducible repeat (first | refine blk_drewN ?_ _ | refine blk_drew ?_ | refine blk_alloc ?_ _)); refine blk_far ?_ NB101_103.out _; (with_reducible repeat (first | refine blk_drewN ?_ _ | refine blk_drew ?_ | refine blk_alloc ?_ _)); refine blk_far ?_ NB101_103.out _; (with_reducible repeat (first | refine blk_drewN ?_ _ | refine blk_drew ?_ | refine blk_alloc ?_ _)); exact BK101.out) hb); have n1_ := Aside0.mk (blk_below (g := gb103) (o := .cells #[.int .i64 ((rd_T24 l0_2 x61_4).f0), .int .i64 ((rd_T24 l0_2 x61_4).f1), .slice A102_2 ((rd_T24 l0_2 x61_4).f2).length c102_2] 24 (0, 0)) (by (with_reducible repeat (first | refine blk_drewN ?_ _ | refine blk_drew ?_ | refine blk_alloc ?_ _)); refine blk_put (cs := #[.int .i64 ((rd_T24 l0_2 x61_4).f0), .int .i64 ((rd_T24 l0_2 x61_4).f1), .slice none 0 0]) ?_ 2 _ rfl; (with_reducible repeat (first | refine blk_drewN ?_ _ | refine blk_drew ?_ | refine blk_alloc ?_ _)); refine blk_put (cs := #[.int .i64 ((rd_T24 l0_2 x61_4).f0), .int .i64 0, .slice none 0 0]) ?_ 1 _ rfl; (with_reducible repeat (first | refine blk_drewN ?_ _ | refine blk_drew ?_ | refine blk_alloc ?_ _)); refine blk_put (cs := #[.int .i64 0, .int .i64 0, .slice none 0 0]) ?_ 0 _ rfl; (with_reducible repeat (first | refine blk_drewN ?_ _ | refine blk_drew ?_ | refine blk_alloc ?_ _)); exact BK103.out) hb); have n2_ := Aside0.mk (below_step (bB) hb); clear BK101; clear BK103; clear HB; have BK101 := n0_; have BK103 := n1_; have HB := n2_; clear n0_ n1_ n2_; (try clear hb); (try clear hb2); (try clear hk); (try clear hi)))
               (first | go_roundg k4 | ((simp only [add_plain] at *); go_roundg k4))
               case measure => have := HJ2.out; have := HJ15.out; have := HJ20.out; have := HK4.out; omega
               case rel => exact ⟨(wrap64 (x61_4 + 1)), (by first | rfl | (simp; done) | (simp [*]; done)), H', ⟨by have := HJ2.out; have := HJ15.out; have := HJ20.out; have := HK4.out; omega⟩, ⟨bK⟩, ⟨bB⟩⟩
              ·replace c35 := Bool.eq_false_iff.mpr c35
               subst c35
               have H1 : (some false) = some r := by rw [if_neg (show ¬ (false = true) by decide)] at H; exact H
               clear H
               have H := H1
               clear H1
               obtain rfl := Option.some.inj H
               have p102 : 0 ≤ (x61_4 : Int) := of_decide_eq_true (by first | (with_reducible assumption) | assumption)
               have q102 : x61_4 < (l0_2.length : Int) := of_decide_eq_true (by first | (with_reducible assumption) | assumption)
               obtain ⟨ad102, A102_2, c102_2, e102, hx102_0, hx102_1, hx102_2, hl102_2, hi102_2⟩ := at_T24 HR0_2.out x61_4 p102 q102
               cases e102
               replace hx102_0 := (HB.out.cell (World.block_lt_of_cell? w _ hx102_0)).trans hx102_0
               replace hx102_1 := (HB.out.cell (World.block_lt_of_cell? w _ hx102_1)).trans hx102_1
               replace hx102_2 := (HB.out.cell (World.block_lt_of_cell? w _ hx102_2)).trans hx102_2
               have HR102_2 := Aside0.mk hi102_2
               have HC102_2 := Aside0.mk hl102_2
               clear hi102_2 hl102_2
               replace p102 := eq_true p102
               replace q102 := eq_true q102
               go_wp2_with (first | ((with_reducible refine gate_dst (N := 8) rfl ?_); (try (refine gate_guard (by rfl) ?_; dsimp only)); refine box_event ?hg (N := 8) ?hd (cs := #[.int .i64 0, .int .i64 0, .slice none 0 0]) (t := 24) ?hr ?_; (case hd => rfl); (case hg => rfl); (case hr => first | (go_simp; done) | (go_simp; rfl)); intro gb103 hg w40 hbox hb; have n0_ := Aside0.mk (blk_below (g := gb101) (o := .cells #[.int .i64 a0_0, .int .i64 a0_1, .slice (some ad102) l0_2.length c0_2] 24 (0, 0)) (bK) hb); have n1_ := Aside0.mk (below_step (bB) hb); have n2_ := Aside0.mk (hbox); have n3_ := Aside0.mk ((by rw [hg]; exact (below_size (bB)) : w.heap.size ≤ gb103)); have n4_ := Aside0.mk ((by rw [hg]; exact (below_size (bB)) : w.heap.size ≤ gb103)); have n5_ := Aside0.mk ((by rw [hg]; exact Nat.ne_of_lt (blk_lt (g := gb101) (o := .cells #[.int .i64 a0_0, .int .i64 a0_1, .slice (some ad102) l0_2.length c0_2] 24 (0, 0)) (bK)) : gb101 ≠ gb103)); have n6_ := Aside0.mk ((by rw [hg]; exact Nat.ne_of_gt (blk_lt (g := gb101) (o := .cells #[.int .i64 a0_0, .int .i64 a0_1, .slice (some ad102) l0_2.length c0_2] 24 (0, 0)) (bK)) : gb103 ≠ gb101)); clear BK101; clear HB; have BK101 := n0_; have HB := n1_; have BK103 := n2_; have GW103 := n3_; have GE103 := n4_; have NB101_103 := n5_; have NB103_101 := n6_; clear n0_ n1_ n2_ n3_ n4_ n5_ n6_; clear hb hbox hg; have hnb41 := NB103_101.out; have hnc41 := NB101_103.out; have hcz42_0 : w40.cell? ⟨gb103, 0, none⟩ = some (.int .i64 0) := (blk_cell BK103.out 0).trans rfl; have hcz42_1 : w40.cell? ⟨gb103, 1, none⟩ = some (.int .i64 0) := (blk_cell BK103.out 1).trans rfl; have hcz42_2 : w40.cell? ⟨gb103, 2, none⟩ = some (.slice none 0 0) := (blk_cell BK103.out 2).trans rfl; have hfz42_0 := blk_frozen BK103.out 0; have hfz42_1 := blk_frozen BK103.out 1; have hfz42_2 := blk_frozen BK103.out 2) | ((with_reducible refine gate_callee (f := 42) rfl ?_); refine goesL_ (some 67) rfl rfl Try.func42 (by kernel_rfl) rfl #[.agg #[.int .i64 ((rd_T24 l0_2 x61_4).f0), .int .i64 ((rd_T24 l0_2 x61_4).f1), .slice A102_2 ((rd_T24 l0_2 x61_4).f2).length c102_2], .int .i64 a1] rfl (by (try simp only [List.map_toArray, List.map_cons, List.map_nil]); first | done | rfl | (simp only [List.length_drop, List.length_take]; rfl) | (simp only [Int.ofNat_lt, Int.ofNat_le]; rfl)) ?_; (with_reducible refine (ih k4 (by have := HJ2.out; have := HJ15.out; have := HJ20.out; have := HK4.out; omega) ((rd_T24 l0_2 x61_4).f0) ((rd_T24 l0_2 x61_4).f1) _ _ ((rd_T24 l0_2 x61_4).f2) a1 false _ ?side1 ?side2 A34.out).mono ?_); (case side1 => exact Kd.C_below HR102_2.out (bB)); (case side2 => exact HC102_2.out); rintro e w43 ⟨rfl, hb⟩; refine ⟨_, rfl, ?_⟩; have n0_ := Aside0.mk (blk_below (g := gb101) (o := .cells #[.int .i64 a0_0, .int .i64 a0_1, .slice (some ad102) l0_2.length c0_2] 24 (0, 0)) (by (with_reducible repeat (first | refine blk_drewN ?_ _ | refine blk_drew ?_ | refine blk_alloc ?_ _)); refine blk_far ?_ NB101_103.out _; (with_reducible repeat (first | refine blk_drewN ?_ _ | refine blk_drew ?_ | refine blk_alloc ?_ _)); refine blk_far ?_ NB101_103.out _; (with_reducible repeat (first | refine blk_drewN ?_ _ | refine blk_drew ?_ | refine blk_alloc ?_ _)); refine blk_far ?_ NB101_103.out _; (with_reducible repeat (first | refine blk_drewN ?_ _ | refine blk_drew ?_ | refine blk_alloc ?_ _)); exact BK101.out) hb); have n1_ := Aside0.mk (blk_below (g := gb103) (o := .cells #[.int .i64 ((rd_T24 l0_2 x61_4).f0), .int .i64 ((rd_T24 l0_2 x61_4).f1), .slice A102_2 ((rd_T24 l0_2 x61_4).f2).length c102_2] 24 (0, 0)) (by (with_reducible repeat (first | refine blk_drewN ?_ _ | refine blk_drew ?_ | refine blk_alloc ?_ _)); refine blk_put (cs := #[.int .i64 ((rd_T24 l0_2 x61_4).f0), .int .i64 ((rd_T24 l0_2 x61_4).f1), .slice none 0 0]) ?_ 2 _ rfl; (with_reducible repeat (first | refine blk_drewN ?_ _ | refine blk_drew ?_ | refine blk_alloc ?_ _)); refine blk_put (cs := #[.int .i64 ((rd_T24 l0_2 x61_4).f0), .int .i64 0, .slice none 0 0]) ?_ 1 _ rfl; (with_reducible repeat (first | refine blk_drewN ?_ _ | refine blk_drew ?_ | refine blk_alloc ?_ _)); refine blk_put (cs := #[.int .i64 0, .int .i64 0, .slice none 0 0]) ?_ 0 _ rfl; (with_reducible repeat (first | refine blk_drewN ?_ _ | refine blk_drew ?_ | refine blk_alloc ?_ _)); exact BK103.out) hb); have n2_ := Aside0.mk (below_step (bB) hb); clear BK101; clear BK103; clear HB; have BK101 := n0_; have BK103 := n1_; have HB := n2_; clear n0_ n1_ n2_; (try clear hb); (try clear hb2); (try clear hk); (try clear hi)))
               go_ret
               exact ⟨by first | rfl | (simp [errW_none, errW_some] <;> rfl) | (simp [*, errW_none, errW_some] <;> rfl), bB⟩
             ·rw [if_neg c33] at H
              exact absurd H (by simp)
            ·rw [if_neg c32] at H
             exact absurd H (by simp)
           ·rw [if_neg c31] at H
            have c31b0 : decide (x61_4 < (l0_2.length : Int)) = false := decide_eq_false c31
            clear c31
            obtain rfl := Option.some.inj H
            go_wp2
            go_ret
            exact ⟨by first | rfl | (simp [errW_none, errW_some] <;> rfl) | (simp [*, errW_none, errW_some] <;> rfl), bB⟩
end Go.Proofs.Ytjofkebiacaciaa.PAll
end
section
namespace Go.Proofs.Ytjofkebiacaciaa.PAll
open Go.RowKit Go.Proofs.YtjofkebiacaciaaW.PrintWords Go.Proofs.YtjofkebiacaciaaW.PrintLast Go.Proofs.YtjofkebiacaciaaW.PrintMore
set_option linter.all false
mutual
def within_walk.f : Nat → List S24 → Int → Int → Option (Bool × Int)
 | 0, _, _, _ => none
 | k + 1, l, d, n => if wrap64 (n + 1) > 400 then some (false, wrap64 (n + 1)) else (if d > 40 then some (false, wrap64 (n + 1)) else within_walk.l0 k l d (wrap64 (n + 1)) 0)
def within_walk.l0 : Nat → List S24 → Int → Int → Int → Option (Bool × Int)
 | 0, _, _, _, _ => none
 | k + 1, l, d, n, i => if i < (l.length : Int) then (if 0 ≤ i then ((within_walk.f k (rd_T24 l i).f2 (wrap64 (d + 1)) n).bind fun t => (if t.1 = true then (within_walk.l0 k l d t.2 (wrap64 (i + 1))) else some (false, t.2))) else none) else some (true, n)
end
def simplify_Within.f (k : Nat) (a0_0 : Int) (a0_1 : Int) (l0_2 : List S24) : Option Bool := (within_walk.f k l0_2 1 0).bind fun t => some t.1
theorem within_walk.mono_l : ∀ k, (∀ y0 y1 y2, LeO (within_walk.f k y0 y1 y2) (within_walk.f (k + 1) y0 y1 y2)) ∧ (∀ y0 y1 y2 y3, LeO (within_walk.l0 k y0 y1 y2 y3) (within_walk.l0 (k + 1) y0 y1 y2 y3))
 | 0 => ⟨fun _ _ _ r h => by simp [within_walk.f] at h, fun _ _ _ _ r h => by simp [within_walk.l0] at h⟩
 | k + 1 => by
  obtain ⟨ih0, ih1⟩ := within_walk.mono_l k
  constructor
  ·intro y0 y1 y2
   unfold within_walk.f
   repeat' first
   | (with_reducible exact ih0 _ _ _)
   | (with_reducible exact ih1 _ _ _ _)
   | (with_reducible exact LeO.refl _)
   | (with_reducible exact LeO.none _)
   | (with_reducible refine LeO.ite ?_ ?_)
   | (with_reducible refine LeO.bind ?_ (fun _ => ?_))
  ·intro y0 y1 y2 y3
   unfold within_walk.l0
   repeat' first
   | (with_reducible exact ih0 _ _ _)
   | (with_reducible exact ih1 _ _ _ _)
   | (with_reducible exact LeO.refl _)
   | (with_reducible exact LeO.none _)
   | (with_reducible refine LeO.ite ?_ ?_)
   | (with_reducible refine LeO.bind ?_ (fun _ => ?_))
theorem simplify_Within.mono : ∀ a0 a1 a2 k, LeO (simplify_Within.f k a0 a1 a2) (simplify_Within.f (k + 1) a0 a1 a2) := by
 intro a0 a1 a2 k
 unfold simplify_Within.f
 exact LeO.bind ((within_walk.mono_l k).1 _ _ _) (fun _ => LeO.refl _)
structure St (w0 W : World) (g h : Nat) (n : Int) : Prop where
 below : Below w0.heap.size w0 W
 gb : w0.heap.size ≤ g
 hb : w0.heap.size ≤ h
 ne : g ≠ h
 cg : W.heap[g]? = some (.cells #[.int .i64 n] 3 (0, 0))
 ch : W.heap[h]? = some (.cells #[.func (.func 68) #[] #[.pointer (some ⟨g, 0, none⟩), .pointer (some ⟨h, 0, none⟩)]] 28 (0, 0))
theorem St.alloc {w0 W : World} {g h : Nat} {n : Int} (s : St w0 W g h n) (o : Obj) : St w0 (W.alloc o) g h n := by
 have hg : g < W.heap.size := (Array.getElem?_eq_some_iff.mp s.cg).1
 have hh : h < W.heap.size := (Array.getElem?_eq_some_iff.mp s.ch).1
 refine ⟨below_alloc s.below o, s.gb, s.hb, s.ne, ?_, ?_⟩
 ·show (W.heap.push o)[g]? = _
  rw [Array.getElem?_push, if_neg (by omega)]; exact s.cg
 ·show (W.heap.push o)[h]? = _
  rw [Array.getElem?_push, if_neg (by omega)]; exact s.ch
theorem St.set {w0 W : World} {g h : Nat} {n : Int} (s : St w0 W g h n) (m : Int) : St w0 (W.setCell ⟨g, 0, none⟩ (.int .i64 m)) g h m := by
 refine ⟨below_set s.below s.gb, s.gb, s.hb, s.ne, ?_, ?_⟩
 ·simp [World.setCell, Array.getElem?_modify, s.cg]
 ·rw [Below.heap_setCell W ⟨g, 0, none⟩ _ h (fun e => s.ne e.symm)]; exact s.ch
theorem St.drewN {w0 W : World} {g h : Nat} {n : Int} (s : St w0 W g h n) (m : Nat) : St w0 (W.drewN m) g h n :=
 ⟨pw_below_drewN s.below m, s.gb, s.hb, s.ne, by simpa using s.cg, by simpa using s.ch⟩
set_option maxHeartbeats 4000000 in
set_option maxRecDepth 100000 in
theorem within_walk.calls (k : Nat) : ∀ (a0 a1 : Int) (A : Option Addr) (c : Nat) (l : List S24) (d n : Int) (r : Bool) (n' : Int) (g h : Nat) (w0 w : World) (hr : Kd.C k24 w0 A l.length l) (hc : l.length ≤ c) (hs : St w0 w g h n) (hf : within_walk.f k l d n = some (r, n')),
  Calls Try.prog 68 #[.agg #[.int .i64 a0, .int .i64 a1, .slice A l.length c], .int .i64 d, .pointer (some ⟨g, 0, none⟩), .pointer (some ⟨h, 0, none⟩)] w fun e w' => e = .returned (.bool r) ∧ St w0 w' g h n' := by
 induction k using Nat.strongRecOn with
 | _ k ih =>
 intro a0 a1 A c l d n r n' g h w0 w hr hc hs hf
 cases k with
 | zero => exact absurd hf (by simp [within_walk.f])
 | succ k =>
 simp only [within_walk.f] at hf
 have HS := Aside0.mk hs
 have hg0 : w.cell? ⟨g, 0, none⟩ = some (.int .i64 n) := by simp [World.cell?, hs.cg]
 have hg1 : w.frozen? ⟨g, 0, none⟩ = false := by simp [World.frozen?, hs.cg]
 have hh0 : w.cell? ⟨h, 0, none⟩ = some (.func (.func 68) #[] #[.pointer (some ⟨g, 0, none⟩), .pointer (some ⟨h, 0, none⟩)]) := by simp [World.cell?, hs.ch]
 have hgl : g < w.heap.size := by have := hs.cg; exact (Array.getElem?_eq_some_iff.mp this).1
 have hhl : h < w.heap.size := by have := hs.ch; exact (Array.getElem?_eq_some_iff.mp this).1
 have hu24 := Try.underlying24
 by_cases c1 : wrap64 (n + 1) > 400
 ·rw [if_pos c1] at hf
  obtain ⟨rfl, rfl⟩ : false = r ∧ wrap64 (n + 1) = n' := by simpa using hf
  have c1b : decide (400 < wrap64 (n + 1)) = true := decide_eq_true c1
  clear hf c1
  go_enter Try.func68, Try.ntmps68
  go_wp2
  go_ret
  exact ⟨rfl, (HS.out.set _).alloc _⟩
 ·rw [if_neg c1] at hf
  have c1b : decide (400 < wrap64 (n + 1)) = false := decide_eq_false c1
  by_cases c2 : d > 40
  ·rw [if_pos c2] at hf
   obtain ⟨rfl, rfl⟩ : false = r ∧ wrap64 (n + 1) = n' := by simpa using hf
   have c2b : decide (40 < d) = true := decide_eq_true c2
   clear hf c1 c2
   go_enter Try.func68, Try.ntmps68
   go_wp2
   go_ret
   exact ⟨rfl, (HS.out.set _).alloc _⟩
  ·rw [if_neg c2] at hf
   have c2b : decide (40 < d) = false := decide_eq_false c2
   have H' := Aside0.mk hf
   have HR := Aside0.mk hr
   clear hf c1 c2 hr hs
   go_enter Try.func68, Try.ntmps68
   go_wp2
   go_loopg [20] k (fun kq v20 w' => ∃ (i : Int) (m : Int), v20 = .int .i64 i ∧ Aside0 (within_walk.l0 kq l d m i = some (r, n')) ∧ Aside0 (kq ≤ k) ∧ Aside0 (St w0 w' g h m))
   case atStart => exact ⟨0, wrap64 (n + 1), rfl, H', ⟨Nat.le_refl _⟩, ⟨(HS.out.set _).alloc _⟩⟩
   case round =>
    clear H' HS hg0 hg1 hh0 c1b c2b
    obtain ⟨i, m, rfl, HA, HK, HS⟩ := hrel
    cases gk with
    | zero => exact absurd HA.out (by simp [within_walk.l0])
    | succ k1 =>
     have H := HA.out
     clear HA
     simp only [within_walk.l0] at H
     by_cases c3 : i < (l.length : Int)
     ·rw [if_pos c3] at H
      by_cases c4 : 0 ≤ i
      ·rw [if_pos c4] at H
       replace H := Option.bind_eq_some_iff.mp H
       obtain ⟨⟨b, m2⟩, H1, H2⟩ := H
       obtain ⟨ad, A2, cc2, e, hx0, hx1, hx2, hl2, hi2⟩ := at_T24 HR.out i c4 c3
       cases e
       replace hx0 := (HS.out.below.cell (World.block_lt_of_cell? w0 _ hx0)).trans hx0
       replace hx1 := (HS.out.below.cell (World.block_lt_of_cell? w0 _ hx1)).trans hx1
       replace hx2 := (HS.out.below.cell (World.block_lt_of_cell? w0 _ hx2)).trans hx2
       have c3b : decide (i < (l.length : Int)) = true := decide_eq_true c3
       have c4b : decide (0 ≤ i) = true := decide_eq_true c4
       have c3c := eq_true c3
       have c4c := eq_true c4
       have hs := HS.out
       have hh0 : wr.cell? ⟨h, 0, none⟩ = some (.func (.func 68) #[] #[.pointer (some ⟨g, 0, none⟩), .pointer (some ⟨h, 0, none⟩)]) := by simp [World.cell?, hs.ch]
       have hhl : h < wr.heap.size := (Array.getElem?_eq_some_iff.mp hs.ch).1
       clear hs
       have HH1 := Aside0.mk H1
       have HH2 := Aside0.mk H2
       have HI2 := Aside0.mk hi2
       have HL2 := Aside0.mk hl2
       clear H1 H2 hi2 hl2 c3 c4
       cases b with
       | true =>
        have HH2' : Aside0 (within_walk.l0 k1 l d m2 (wrap64 (i + 1)) = some (r, n')) := ⟨by have := HH2.out; rw [if_pos rfl] at this; exact this⟩
        clear HH2
        go_wp2_with (go_at_call 68; (refine (ih k1 (by have := HK.out; omega) _ _ _ _ _ _ _ true m2 g h w0 _ HI2.out HL2.out ?st HH1.out).mono ?_); (case st => exact HS.out.alloc _); rintro e w' ⟨rfl, hs'⟩; have HS2 := Aside0.mk hs'; clear hs')
        go_roundg k1
        case measure => have := HK.out; omega
        case rel => exact ⟨wrap64 (i + 1), m2, rfl, HH2', ⟨by have := HK.out; omega⟩, HS2⟩
       | false =>
        have HH2' : Aside0 (false = r ∧ m2 = n') := ⟨by have := HH2.out; rw [if_neg (show ¬ (false = true) by decide)] at this; simpa using this⟩
        clear HH2
        go_wp2_with (go_at_call 68; (refine (ih k1 (by have := HK.out; omega) _ _ _ _ _ _ _ false m2 g h w0 _ HI2.out HL2.out ?st HH1.out).mono ?_); (case st => exact HS.out.alloc _); rintro e w' ⟨rfl, hs'⟩; have HS2 := Aside0.mk hs'; clear hs')
        go_ret
        obtain ⟨rfl, rfl⟩ := HH2'.out
        exact ⟨rfl, HS2.out⟩
      ·rw [if_neg c4] at H; cases H
     ·rw [if_neg c3] at H
      obtain ⟨rfl, rfl⟩ : true = r ∧ m = n' := by simpa using H
      have c3b : decide (i < (l.length : Int)) = false := decide_eq_false c3
      clear H c3
      go_wp2
      go_ret
      exact ⟨rfl, HS.out⟩
set_option maxHeartbeats 4000000 in
set_option maxRecDepth 100000 in
theorem simplify_Within.calls (k : Nat) (a0_0 : Int) (a0_1 : Int) (A0_2 : Option Addr) (c0_2 : Nat) (l0_2 : List (S24)) (r : Bool) (w : World) (hr0_2 : Kd.C k24 w A0_2 l0_2.length l0_2) (hc0_2 : l0_2.length ≤ c0_2) (h : simplify_Within.f k a0_0 a0_1 l0_2 = some r) :
  Calls Try.prog 41 #[.agg #[.int .i64 a0_0, .int .i64 a0_1, .slice A0_2 l0_2.length c0_2]] w fun e w' => e = .returned (.bool r) ∧ Below w.heap.size w w' := by
 unfold simplify_Within.f at h
 obtain ⟨⟨b, m⟩, h1, h2⟩ := Option.bind_eq_some_iff.mp h
 obtain rfl : b = r := by simpa using h2
 have HR := Aside0.mk hr0_2
 have HC := Aside0.mk hc0_2
 have HF := Aside0.mk h1
 clear h h1 h2 hr0_2 hc0_2
 have hu24 := Try.underlying24
 have HST : Aside0 (St w (((w.alloc (.cells #[.int .i64 a0_0, .int .i64 a0_1, .slice A0_2 l0_2.length c0_2] 24)).alloc (.cells #[.int .i64 0] 3)).alloc (.cells #[.func (.func 68) #[] #[.pointer (some ⟨w.heap.size + 1, 0, none⟩), .pointer (some ⟨w.heap.size + 1 + 1, 0, none⟩)]] 28)) (w.heap.size + 1) (w.heap.size + 1 + 1) 0) := by
  refine ⟨⟨below_alloc (below_alloc (below_alloc (Below.refl _ _) _) _) _, by omega, by omega, by omega, ?_, ?_⟩⟩
  ·show (((w.heap.push _).push _).push _)[w.heap.size + 1]? = _
   rw [Array.getElem?_push, if_neg (by rw [Array.size_push, Array.size_push]; omega), Array.getElem?_push, if_pos (by rw [Array.size_push])]
  ·show (((w.heap.push _).push _).push _)[w.heap.size + 1 + 1]? = _
   rw [Array.getElem?_push, if_pos (by rw [Array.size_push, Array.size_push])]
 go_enter Try.func41, Try.ntmps41
 go_wp2_with (go_at_call 68; (refine (within_walk.calls k _ _ _ _ _ 1 0 b m (w.heap.size + 1) (w.heap.size + 1 + 1) w _ HR.out HC.out HST.out HF.out).mono ?_); rintro e w' ⟨rfl, hs'⟩)
 go_ret
 exact ⟨rfl, hs'.below⟩
end Go.Proofs.Ytjofkebiacaciaa.PAll
end
section
namespace Go.Proofs.Ytjofkebiacaciaa.PAll
open Go.RowKit Go.Proofs.YtjofkebiacaciaaW.PrintWords Go.Proofs.YtjofkebiacaciaaW.PrintLast Go.Proofs.YtjofkebiacaciaaW.PrintMore
attribute [local go_sem] max2_int min2_int max_two min_two max_three min_three max_four min_four
set_option linter.unusedVariables false
set_option linter.unusedSimpArgs false
def expr_Validate.j0 : Nat → Int → Bool → Int → Int → List (S24) → Option (Int)
 | 0, _, _, _, _, _ => none
 | k + 1, x1, x5, x106000, x106001, x106002 => if x5 = true then (some 1) else ((simplify_Within.f k x106000 x106001 x106002).bind fun t106 => (if t106 = true then ((expr_shaped.f k x106000 x106001 x106002 x1).bind fun t107 => (if t107 = true then (some 0) else (some 4))) else (some 3)))
def expr_Validate.f (k : Nat) (a0_0 : Int) (a0_1 : Int) (l0_2 : List (S24)) (a1 : Int) : Option (Int) := if a1 < 1 then (expr_Validate.j0 k a1 true a0_0 a0_1 l0_2) else (expr_Validate.j0 k a1 (decide (a1 > 6)) a0_0 a0_1 l0_2)
theorem expr_Validate.mono_l : ∀ k, (∀ y0 y1 y2 y3 y4, LeO (expr_Validate.j0 k y0 y1 y2 y3 y4) (expr_Validate.j0 (k + 1) y0 y1 y2 y3 y4))
 | 0 => fun _ _ _ _ _ r h => by simp [expr_Validate.j0] at h
 | k + 1 => by
  have ih0 := expr_Validate.mono_l k
  ·intro y0 y1 y2 y3 y4
   unfold expr_Validate.j0
   repeat' first
   | (with_reducible exact ih0 _ _ _ _ _)
   | (with_reducible exact expr_shaped.mono _ _ _ _ _)
   | (with_reducible exact simplify_Within.mono _ _ _ _)
   | (with_reducible exact LeO.refl _)
   | (with_reducible exact LeO.none _)
   | (with_reducible refine LeO.ite ?_ ?_)
   | (with_reducible refine LeO.bind ?_ (fun _ => ?_))
   | exact ih0 _ _ _ _ _
   | exact expr_shaped.mono _ _ _ _ _
   | exact simplify_Within.mono _ _ _ _
   | exact LeO.none _
   | refine LeO.ite ?_ ?_
   | refine LeO.bind ?_ (fun _ => ?_)
theorem expr_Validate.mono : ∀ a0 a1 a2 a3 k, LeO (expr_Validate.f k a0 a1 a2 a3) (expr_Validate.f (k + 1) a0 a1 a2 a3) := by
 intro a0 a1 a2 a3 k
 have ih0 := expr_Validate.mono_l k
 unfold expr_Validate.f
 repeat' first
   | (with_reducible exact ih0 _ _ _ _ _)
   | (with_reducible exact expr_shaped.mono _ _ _ _ _)
   | (with_reducible exact simplify_Within.mono _ _ _ _)
   | (with_reducible exact LeO.refl _)
   | (with_reducible exact LeO.none _)
   | (with_reducible refine LeO.ite ?_ ?_)
   | (with_reducible refine LeO.bind ?_ (fun _ => ?_))
   | exact ih0 _ _ _ _ _
   | exact expr_shaped.mono _ _ _ _ _
   | exact simplify_Within.mono _ _ _ _
   | exact LeO.none _
   | refine LeO.ite ?_ ?_
   | refine LeO.bind ?_ (fun _ => ?_)
set_option maxHeartbeats 8000000 in
set_option maxRecDepth 100000 in
theorem expr_Validate.calls (k : Nat) (a0_0 : Int) (a0_1 : Int) (A0_2 : Option Addr) (c0_2 : Nat) (l0_2 : List (S24)) (a1 : Int) (r : Int) (w : World) (hr0_2 : Kd.C k24 w A0_2 l0_2.length l0_2) (hc0_2 : l0_2.length ≤ c0_2) (h : expr_Validate.f k a0_0 a0_1 l0_2 a1 = some r) :
  Calls Try.prog 15 #[.agg #[.int .i64 a0_0, .int .i64 a0_1, .slice A0_2 l0_2.length c0_2], .int .i64 a1] w fun e w' => e = .returned (.int .i64 r) ∧ Below w.heap.size w w' := by
 have hu24 := Try.underlying24
 have HR0_2 := Aside0.mk hr0_2
 have HC0_2 := Aside0.mk hc0_2
 clear hr0_2 hc0_2
 have HB := Aside0.mk (Below.refl w.heap.size w)
 have H : (if a1 < 1 then (expr_Validate.j0 k a1 true a0_0 a0_1 l0_2) else (expr_Validate.j0 k a1 (decide (a1 > 6)) a0_0 a0_1 l0_2)) = some r := h
 clear h
 have HC3 := Aside0.mk H
 clear H
 go_enter Try.func15, Try.ntmps15
 go_upto_region 1 with (first | ((with_reducible refine gate_dst (N := 2) rfl ?_); refine box_event ?hg (N := 2) ?hd (cs := #[.int .i64 a0_0, .int .i64 a0_1, .slice A0_2 l0_2.length c0_2]) (t := 24) ?hr ?_; (case hd => rfl); (case hg => rfl); (case hr => first | (go_simp; done) | (go_simp; rfl)); intro gb105 hg w4 hbox hb; have n0_ := Aside0.mk (below_step (bB) hb); have n1_ := Aside0.mk (hbox); have n2_ := Aside0.mk ((by rw [hg]; exact (below_size (bB)) : w.heap.size ≤ gb105)); have n3_ := Aside0.mk ((by rw [hg]; exact (below_size (bB)) : w.heap.size ≤ gb105)); clear HB; have HB := n0_; have BK105 := n1_; have GW105 := n2_; have GE105 := n3_; clear n0_ n1_ n2_ n3_; clear hb hbox hg))
 (try simp only [Act.put, List.setIfInBounds_toArray, List.set_cons_zero, List.set_cons_succ])
 go_cut [5] (fun v5 wc => ∃ (kq : Nat) (x5_2 : Bool), v5 = .bool x5_2 ∧ Aside0 (expr_Validate.j0 kq a1 x5_2 a0_0 a0_1 l0_2 = some r) ∧ Aside0 (kq ≤ k) ∧ Aside0 (wc.heap[gb105]? = some (.cells #[.int .i64 a0_0, .int .i64 a0_1, (.slice A0_2 l0_2.length c0_2)] 24 (0, 0))) ∧ Aside0 (Below w.heap.size w wc))
 case first =>
  have H := HC3.out
  clear HC3
  by_cases c5 : a1 < 1
  ·rw [if_pos c5] at H
   have c5b0 : decide (a1 < 1) = true := decide_eq_true c5
   clear c5
   (first | rw [c5b0] | (simp only [i64_w, i32_w]; rw [c5b0]) | skip)
   have H' := Aside0.mk H
   clear H
   go_wp2
   go_meet
   case rel => exact ⟨_, (true), (by first | rfl | (simp; done) | (simp [*]; done)), H', ⟨by first | omega | exact Nat.le_refl _⟩, ⟨bK⟩, ⟨bB⟩⟩
  ·rw [if_neg c5] at H
   have c5b0 : decide (a1 < 1) = false := decide_eq_false c5
   clear c5
   (first | rw [c5b0] | (simp only [i64_w, i32_w]; rw [c5b0]) | skip)
   have H' := Aside0.mk H
   clear H
   go_wp2
   go_meet
   case rel => exact ⟨_, (decide (a1 > 6)), (by first | rfl | (simp; done) | (simp [*]; done)), H', ⟨by first | omega | exact Nat.le_refl _⟩, ⟨bK⟩, ⟨bB⟩⟩
 case rest =>
  clear HC3
  try clear c1
  try clear p2
  try clear c5
  try clear c5b0
  obtain ⟨kq, x5_2, rfl, HA, HJ2, BK105, HB⟩ := hcut
  cases kq with
  | zero => exact absurd HA.out (by simp [expr_Validate.j0])
  | succ kj2 =>
   have H := HA.out
   clear HA
   simp only [expr_Validate.j0] at H
   by_cases c6 : x5_2 = true
   ·subst c6
    have H1 : (some 1) = some r := by rw [if_pos rfl] at H; exact H
    clear H
    have H := H1
    clear H1
    obtain rfl := Option.some.inj H
    go_wp2
    go_ret
    exact ⟨by first | rfl | (simp [errW_none, errW_some] <;> rfl) | (simp [*, errW_none, errW_some] <;> rfl), bB⟩
   ·replace c6 := Bool.eq_false_iff.mpr c6
    subst c6
    have H1 : ((simplify_Within.f kj2 a0_0 a0_1 l0_2).bind fun t106 => (if t106 = true then ((expr_shaped.f kj2 a0_0 a0_1 l0_2 a1).bind fun t107 => (if t107 = true then (some 0) else (some 4))) else (some 3))) = some r := by rw [if_neg (show ¬ (false = true) by decide)] at H; exact H
    clear H
    have H := H1
    clear H1
    replace H := Option.bind_eq_some_iff.mp H
    obtain ⟨t106, A70, H⟩ := H
    replace H : (if t106 = true then ((expr_shaped.f kj2 a0_0 a0_1 l0_2 a1).bind fun t107 => (if t107 = true then (some 0) else (some 4))) else (some 3)) = some r := H
    have A7 := Aside0.mk A70
    clear A70
    by_cases c8 : t106 = true
    ·subst c8
     have H1 : ((expr_shaped.f kj2 a0_0 a0_1 l0_2 a1).bind fun t107 => (if t107 = true then (some 0) else (some 4))) = some r := by rw [if_pos rfl] at H; exact H
     clear H
     have H := H1
     clear H1
     replace H := Option.bind_eq_some_iff.mp H
     obtain ⟨t107, A90, H⟩ := H
     replace H : (if t107 = true then (some 0) else (some 4)) = some r := H
     have A9 := Aside0.mk A90
     clear A90
     by_cases c10 : t107 = true
     ·subst c10
      have H1 : (some 0) = some r := by rw [if_pos rfl] at H; exact H
      clear H
      have H := H1
      clear H1
      obtain rfl := Option.some.inj H
      have hcz11_0 : wc.cell? ⟨gb105, 0, none⟩ = some (.int .i64 a0_0) := (blk_cell BK105.out 0).trans rfl
      have hcz11_1 : wc.cell? ⟨gb105, 1, none⟩ = some (.int .i64 a0_1) := (blk_cell BK105.out 1).trans rfl
      have hcz11_2 : wc.cell? ⟨gb105, 2, none⟩ = some (.slice A0_2 l0_2.length c0_2) := (blk_cell BK105.out 2).trans rfl
      have hfz11_0 := blk_frozen BK105.out 0
      have hfz11_1 := blk_frozen BK105.out 1
      have hfz11_2 := blk_frozen BK105.out 2
      go_wp2_with (first | ((with_reducible refine gate_callee (f := 41) rfl ?_); refine goesL_ (some 14) rfl rfl Try.func41 (by kernel_rfl) rfl #[.agg #[.int .i64 a0_0, .int .i64 a0_1, .slice A0_2 l0_2.length c0_2]] rfl (by (try simp only [List.map_toArray, List.map_cons, List.map_nil]); first | done | rfl | (simp only [List.length_drop, List.length_take]; rfl) | (simp only [Int.ofNat_lt, Int.ofNat_le]; rfl)) ?_; (with_reducible refine (simplify_Within.calls kj2 a0_0 a0_1 _ _ l0_2 true _ ?side1 ?side2 A7.out).mono ?_); (case side1 => repeat (first | exact (Kd.C_below HR0_2.out HB.out) | (with_reducible refine Kd.C_alloc ?_ _) | (with_reducible refine Kd.C_drewN ?_ _) | (with_reducible refine Kd.C_drew ?_))); (case side2 => exact HC0_2.out); rintro e w12 ⟨rfl, hb⟩; refine ⟨_, rfl, ?_⟩; have n0_ := Aside0.mk (blk_below (g := gb105) (o := .cells #[.int .i64 a0_0, .int .i64 a0_1, .slice A0_2 l0_2.length c0_2] 24 (0, 0)) (bK) hb); have n1_ := Aside0.mk (below_step (bB) hb); clear BK105; clear HB; have BK105 := n0_; have HB := n1_; clear n0_ n1_; (try clear hb); (try clear hb2); (try clear hk); (try clear hi); have hcz13_0 : w12.cell? ⟨gb105, 0, none⟩ = some (.int .i64 a0_0) := (blk_cell BK105.out 0).trans rfl; have hcz13_1 : w12.cell? ⟨gb105, 1, none⟩ = some (.int .i64 a0_1) := (blk_cell BK105.out 1).trans rfl; have hcz13_2 : w12.cell? ⟨gb105, 2, none⟩ = some (.slice A0_2 l0_2.length c0_2) := (blk_cell BK105.out 2).trans rfl; have hfz13_0 := blk_frozen BK105.out 0; have hfz13_1 := blk_frozen BK105.out 1; have hfz13_2 := blk_frozen BK105.out 2) | ((with_reducible refine gate_callee (f := 42) rfl ?_); refine goesL_ (some 19) rfl rfl Try.func42 (by kernel_rfl) rfl #[.agg #[.int .i64 a0_0, .int .i64 a0_1, .slice A0_2 l0_2.length c0_2], .int .i64 a1] rfl (by (try simp only [List.map_toArray, List.map_cons, List.map_nil]); first | done | rfl | (simp only [List.length_drop, List.length_take]; rfl) | (simp only [Int.ofNat_lt, Int.ofNat_le]; rfl)) ?_; (with_reducible refine (expr_shaped.calls kj2 a0_0 a0_1 _ _ l0_2 a1 true _ ?side1 ?side2 A9.out).mono ?_); (case side1 => repeat (first | exact (Kd.C_below HR0_2.out HB.out) | (with_reducible refine Kd.C_alloc ?_ _) | (with_reducible refine Kd.C_drewN ?_ _) | (with_reducible refine Kd.C_drew ?_))); (case side2 => exact HC0_2.out); rintro e w14 ⟨rfl, hb⟩; refine ⟨_, rfl, ?_⟩; have n0_ := Aside0.mk (blk_below (g := gb105) (o := .cells #[.int .i64 a0_0, .int .i64 a0_1, .slice A0_2 l0_2.length c0_2] 24 (0, 0)) (bK) hb); have n1_ := Aside0.mk (below_step (bB) hb); clear BK105; clear HB; have BK105 := n0_; have HB := n1_; clear n0_ n1_; (try clear hb); (try clear hb2); (try clear hk); (try clear hi)))
      go_ret
      exact ⟨by first | rfl | (simp [errW_none, errW_some] <;> rfl) | (simp [*, errW_none, errW_some] <;> rfl), bB⟩
     ·replace c10 := Bool.eq_false_iff.mpr c10
      subst c10
      have H1 : (some 4) = some r := by rw [if_neg (show ¬ (false = true) by decide)] at H; exact H
      clear H
      have H := H1
      clear H1
      obtain rfl := Option.some.inj H
      have hcz15_0 : wc.cell? ⟨gb105, 0, none⟩ = some (.int .i64 a0_0) := (blk_cell BK105.out 0).trans rfl
      have hcz15_1 : wc.cell? ⟨gb105, 1, none⟩ = some (.int .i64 a0_1) := (blk_cell BK105.out 1).trans rfl
      have hcz15_2 : wc.cell? ⟨gb105, 2, none⟩ = some (.slice A0_2 l0_2.length c0_2) := (blk_cell BK105.out 2).trans rfl
      have hfz15_0 := blk_frozen BK105.out 0
      have hfz15_1 := blk_frozen BK105.out 1
      have hfz15_2 := blk_frozen BK105.out 2
      go_wp2_with (first | ((with_reducible refine gate_callee (f := 41) rfl ?_); refine goesL_ (some 14) rfl rfl Try.func41 (by kernel_rfl) rfl #[.agg #[.int .i64 a0_0, .int .i64 a0_1, .slice A0_2 l0_2.length c0_2]] rfl (by (try simp only [List.map_toArray, List.map_cons, List.map_nil]); first | done | rfl | (simp only [List.length_drop, List.length_take]; rfl) | (simp only [Int.ofNat_lt, Int.ofNat_le]; rfl)) ?_; (with_reducible refine (simplify_Within.calls kj2 a0_0 a0_1 _ _ l0_2 true _ ?side1 ?side2 A7.out).mono ?_); (case side1 => repeat (first | exact (Kd.C_below HR0_2.out HB.out) | (with_reducible refine Kd.C_alloc ?_ _) | (with_reducible refine Kd.C_drewN ?_ _) | (with_reducible refine Kd.C_drew ?_))); (case side2 => exact HC0_2.out); rintro e w16 ⟨rfl, hb⟩; refine ⟨_, rfl, ?_⟩; have n0_ := Aside0.mk (blk_below (g := gb105) (o := .cells #[.int .i64 a0_0, .int .i64 a0_1, .slice A0_2 l0_2.length c0_2] 24 (0, 0)) (bK) hb); have n1_ := Aside0.mk (below_step (bB) hb); clear BK105; clear HB; have BK105 := n0_; have HB := n1_; clear n0_ n1_; (try clear hb); (try clear hb2); (try clear hk); (try clear hi); have hcz17_0 : w16.cell? ⟨gb105, 0, none⟩ = some (.int .i64 a0_0) := (blk_cell BK105.out 0).trans rfl; have hcz17_1 : w16.cell? ⟨gb105, 1, none⟩ = some (.int .i64 a0_1) := (blk_cell BK105.out 1).trans rfl; have hcz17_2 : w16.cell? ⟨gb105, 2, none⟩ = some (.slice A0_2 l0_2.length c0_2) := (blk_cell BK105.out 2).trans rfl; have hfz17_0 := blk_frozen BK105.out 0; have hfz17_1 := blk_frozen BK105.out 1; have hfz17_2 := blk_frozen BK105.out 2) | ((with_reducible refine gate_callee (f := 42) rfl ?_); refine goesL_ (some 19) rfl rfl Try.func42 (by kernel_rfl) rfl #[.agg #[.int .i64 a0_0, .int .i64 a0_1, .slice A0_2 l0_2.length c0_2], .int .i64 a1] rfl (by (try simp only [List.map_toArray, List.map_cons, List.map_nil]); first | done | rfl | (simp only [List.length_drop, List.length_take]; rfl) | (simp only [Int.ofNat_lt, Int.ofNat_le]; rfl)) ?_; (with_reducible refine (expr_shaped.calls kj2 a0_0 a0_1 _ _ l0_2 a1 false _ ?side1 ?side2 A9.out).mono ?_); (case side1 => repeat (first | exact (Kd.C_below HR0_2.out HB.out) | (with_reducible refine Kd.C_alloc ?_ _) | (with_reducible refine Kd.C_drewN ?_ _) | (with_reducible refine Kd.C_drew ?_))); (case side2 => exact HC0_2.out); rintro e w18 ⟨rfl, hb⟩; refine ⟨_, rfl, ?_⟩; have n0_ := Aside0.mk (blk_below (g := gb105) (o := .cells #[.int .i64 a0_0, .int .i64 a0_1, .slice A0_2 l0_2.length c0_2] 24 (0, 0)) (bK) hb); have n1_ := Aside0.mk (below_step (bB) hb); clear BK105; clear HB; have BK105 := n0_; have HB := n1_; clear n0_ n1_; (try clear hb); (try clear hb2); (try clear hk); (try clear hi)))
      go_ret
      exact ⟨by first | rfl | (simp [errW_none, errW_some] <;> rfl) | (simp [*, errW_none, errW_some] <;> rfl), bB⟩
    ·replace c8 := Bool.eq_false_iff.mpr c8
     subst c8
     have H1 : (some 3) = some r := by rw [if_neg (show ¬ (false = true) by decide)] at H; exact H
     clear H
     have H := H1
     clear H1
     obtain rfl := Option.some.inj H
     have hcz19_0 : wc.cell? ⟨gb105, 0, none⟩ = some (.int .i64 a0_0) := (blk_cell BK105.out 0).trans rfl
     have hcz19_1 : wc.cell? ⟨gb105, 1, none⟩ = some (.int .i64 a0_1) := (blk_cell BK105.out 1).trans rfl
     have hcz19_2 : wc.cell? ⟨gb105, 2, none⟩ = some (.slice A0_2 l0_2.length c0_2) := (blk_cell BK105.out 2).trans rfl
     have hfz19_0 := blk_frozen BK105.out 0
     have hfz19_1 := blk_frozen BK105.out 1
     have hfz19_2 := blk_frozen BK105.out 2
     go_wp2_with (first | ((with_reducible refine gate_callee (f := 41) rfl ?_); refine goesL_ (some 14) rfl rfl Try.func41 (by kernel_rfl) rfl #[.agg #[.int .i64 a0_0, .int .i64 a0_1, .slice A0_2 l0_2.length c0_2]] rfl (by (try simp only [List.map_toArray, List.map_cons, List.map_nil]); first | done | rfl | (simp only [List.length_drop, List.length_take]; rfl) | (simp only [Int.ofNat_lt, Int.ofNat_le]; rfl)) ?_; (with_reducible refine (simplify_Within.calls kj2 a0_0 a0_1 _ _ l0_2 false _ ?side1 ?side2 A7.out).mono ?_); (case side1 => repeat (first | exact (Kd.C_below HR0_2.out HB.out) | (with_reducible refine Kd.C_alloc ?_ _) | (with_reducible refine Kd.C_drewN ?_ _) | (with_reducible refine Kd.C_drew ?_))); (case side2 => exact HC0_2.out); rintro e w20 ⟨rfl, hb⟩; refine ⟨_, rfl, ?_⟩; have n0_ := Aside0.mk (blk_below (g := gb105) (o := .cells #[.int .i64 a0_0, .int .i64 a0_1, .slice A0_2 l0_2.length c0_2] 24 (0, 0)) (bK) hb); have n1_ := Aside0.mk (below_step (bB) hb); clear BK105; clear HB; have BK105 := n0_; have HB := n1_; clear n0_ n1_; (try clear hb); (try clear hb2); (try clear hk); (try clear hi)))
     go_ret
     exact ⟨by first | rfl | (simp [errW_none, errW_some] <;> rfl) | (simp [*, errW_none, errW_some] <;> rfl), bB⟩
end Go.Proofs.Ytjofkebiacaciaa.PAll
end
section
namespace Go.Proofs.Ytjofkebiacaciaa.PAll
open Go.RowKit Go.Proofs.YtjofkebiacaciaaW.PrintWords Go.Proofs.YtjofkebiacaciaaW.PrintLast Go.Proofs.YtjofkebiacaciaaW.PrintMore
attribute [local go_sem] max2_int min2_int max_two min_two max_three min_three max_four min_four
set_option linter.unusedVariables false
set_option linter.unusedSimpArgs false
def expr_valid.f (k : Nat) (a0_0 : Int) (a0_1 : Int) (l0_2 : List (S24)) : Option (Bool) := (expr_Validate.f k a0_0 a0_1 l0_2 6).bind fun t123 => (some (t123 == 0))
theorem expr_valid.mono : ∀ a0 a1 a2 k, LeO (expr_valid.f k a0 a1 a2) (expr_valid.f (k + 1) a0 a1 a2) := by
 intro a0 a1 a2 k
 unfold expr_valid.f
 repeat' first
   | (with_reducible exact expr_Validate.mono _ _ _ _ _)
   | (with_reducible exact LeO.refl _)
   | (with_reducible exact LeO.none _)
   | (with_reducible refine LeO.ite ?_ ?_)
   | (with_reducible refine LeO.bind ?_ (fun _ => ?_))
   | exact expr_Validate.mono _ _ _ _ _
   | exact LeO.none _
   | refine LeO.ite ?_ ?_
   | refine LeO.bind ?_ (fun _ => ?_)
set_option maxHeartbeats 8000000 in
set_option maxRecDepth 100000 in
theorem expr_valid.calls (k : Nat) (a0_0 : Int) (a0_1 : Int) (A0_2 : Option Addr) (c0_2 : Nat) (l0_2 : List (S24)) (r : Bool) (w : World) (hr0_2 : Kd.C k24 w A0_2 l0_2.length l0_2) (hc0_2 : l0_2.length ≤ c0_2) (h : expr_valid.f k a0_0 a0_1 l0_2 = some r) :
  Calls Try.prog 46 #[.agg #[.int .i64 a0_0, .int .i64 a0_1, .slice A0_2 l0_2.length c0_2]] w fun e w' => e = .returned (.bool r) ∧ Below w.heap.size w w' := by
 have hu24 := Try.underlying24
 have HR0_2 := Aside0.mk hr0_2
 have HC0_2 := Aside0.mk hc0_2
 clear hr0_2 hc0_2
 have HB := Aside0.mk (Below.refl w.heap.size w)
 have H : ((expr_Validate.f k a0_0 a0_1 l0_2 6).bind fun t123 => (some (t123 == 0))) = some r := h
 clear h
 replace H := Option.bind_eq_some_iff.mp H
 obtain ⟨t123, A20, H⟩ := H
 replace H : (some (t123 == 0)) = some r := H
 have A2 := Aside0.mk A20
 clear A20
 obtain rfl := Option.some.inj H
 go_enter Try.func46, Try.ntmps46
 go_wp2_with (first | ((with_reducible refine gate_dst (N := 1) rfl ?_); refine box_event ?hg (N := 1) ?hd (cs := #[.int .i64 a0_0, .int .i64 a0_1, .slice A0_2 l0_2.length c0_2]) (t := 24) ?hr ?_; (case hd => rfl); (case hg => rfl); (case hr => first | (go_simp; done) | (go_simp; rfl)); intro gb122 hg w3 hbox hb; have n0_ := Aside0.mk (below_step (bB) hb); have n1_ := Aside0.mk (hbox); have n2_ := Aside0.mk ((by rw [hg]; exact (below_size (bB)) : w.heap.size ≤ gb122)); have n3_ := Aside0.mk ((by rw [hg]; exact (below_size (bB)) : w.heap.size ≤ gb122)); clear HB; have HB := n0_; have BK122 := n1_; have GW122 := n2_; have GE122 := n3_; clear n0_ n1_ n2_ n3_; clear hb hbox hg; have hcz4_0 : w3.cell? ⟨gb122, 0, none⟩ = some (.int .i64 a0_0) := (blk_cell BK122.out 0).trans rfl; have hcz4_1 : w3.cell? ⟨gb122, 1, none⟩ = some (.int .i64 a0_1) := (blk_cell BK122.out 1).trans rfl; have hcz4_2 : w3.cell? ⟨gb122, 2, none⟩ = some (.slice A0_2 l0_2.length c0_2) := (blk_cell BK122.out 2).trans rfl; have hfz4_0 := blk_frozen BK122.out 0; have hfz4_1 := blk_frozen BK122.out 1; have hfz4_2 := blk_frozen BK122.out 2) | ((with_reducible refine gate_callee (f := 15) rfl ?_); refine goesL_ (some 4) rfl rfl Try.func15 (by kernel_rfl) rfl #[.agg #[.int .i64 a0_0, .int .i64 a0_1, .slice A0_2 l0_2.length c0_2], .int .i64 6] rfl (by (try simp only [List.map_toArray, List.map_cons, List.map_nil]); first | done | rfl | (simp only [List.length_drop, List.length_take]; rfl) | (simp only [Int.ofNat_lt, Int.ofNat_le]; rfl)) ?_; (with_reducible refine (expr_Validate.calls k a0_0 a0_1 _ _ l0_2 6 t123 _ ?side1 ?side2 A2.out).mono ?_); (case side1 => repeat (first | exact (Kd.C_below HR0_2.out HB.out) | (with_reducible refine Kd.C_alloc ?_ _) | (with_reducible refine Kd.C_drewN ?_ _) | (with_reducible refine Kd.C_drew ?_))); (case side2 => exact HC0_2.out); rintro e w5 ⟨rfl, hb⟩; refine ⟨_, rfl, ?_⟩; have n0_ := Aside0.mk (blk_below (g := gb122) (o := .cells #[.int .i64 a0_0, .int .i64 a0_1, .slice A0_2 l0_2.length c0_2] 24 (0, 0)) (bK) hb); have n1_ := Aside0.mk (below_step (bB) hb); clear BK122; clear HB; have BK122 := n0_; have HB := n1_; clear n0_ n1_; (try clear hb); (try clear hb2); (try clear hk); (try clear hi)))
 go_ret
 exact ⟨by first | rfl | (simp [errW_none, errW_some] <;> rfl) | (simp [*, errW_none, errW_some] <;> rfl), bB⟩
end Go.Proofs.Ytjofkebiacaciaa.PAll
end
section
namespace Go.Proofs.Ytjofkebiacaciaa.PAll
open Go.RowKit Go.Proofs.YtjofkebiacaciaaW.PrintWords Go.Proofs.YtjofkebiacaciaaW.PrintLast Go.Proofs.YtjofkebiacaciaaW.PrintMore
attribute [local go_sem] max2_int min2_int max_two min_two max_three min_three max_four min_four
set_option linter.unusedVariables false
set_option linter.unusedSimpArgs false
def expr_level.f (a0 : Int) : Option (Int) := if a0 = 4 then (some 1) else (if a0 = 6 then (some 2) else (if a0 = 5 then (some 3) else (if a0 = 8 then (some 4) else (if a0 = 7 then (some 5) else (some 6)))))
set_option maxHeartbeats 8000000 in
set_option maxRecDepth 100000 in
theorem expr_level.calls (a0 : Int) (r : Int) (w : World) (h : expr_level.f a0 = some r) :
  Calls Try.prog 69 #[.int .i64 a0] w fun e w' => e = .returned (.int .i64 r) ∧ Drawn0 w w' := by
 have H : (if a0 = 4 then (some 1) else (if a0 = 6 then (some 2) else (if a0 = 5 then (some 3) else (if a0 = 8 then (some 4) else (if a0 = 7 then (some 5) else (some 6)))))) = some r := h
 clear h
 by_cases c2 : a0 = 4
 ·rw [if_pos c2] at H
  have c2b0 : (a0 == 4) = true := beq_iff_eq.mpr c2
  have c2b1 : (a0 != 4) = false := bne_eq_false_iff_eq.mpr c2
  clear c2
  obtain rfl := Option.some.inj H
  go_enter Try.func69, Try.ntmps69
  go_wp2
  go_ret
  exact ⟨by first | rfl | (simp; done) | (simp [*]; done), by repeat (first | exact Drawn0.refl _ | apply Drawn0.step)⟩
 ·rw [if_neg c2] at H
  have c2b0 : (a0 == 4) = false := beq_eq_false_iff_ne.mpr c2
  have c2b1 : (a0 != 4) = true := bne_iff_ne.mpr c2
  by_cases c3 : a0 = 6
  ·rw [if_pos c3] at H
   have c3b0 : (a0 == 6) = true := beq_iff_eq.mpr c3
   have c3b1 : (a0 != 6) = false := bne_eq_false_iff_eq.mpr c3
   clear c3
   obtain rfl := Option.some.inj H
   go_enter Try.func69, Try.ntmps69
   go_wp2
   go_ret
   exact ⟨by first | rfl | (simp; done) | (simp [*]; done), by repeat (first | exact Drawn0.refl _ | apply Drawn0.step)⟩
  ·rw [if_neg c3] at H
   have c3b0 : (a0 == 6) = false := beq_eq_false_iff_ne.mpr c3
   have c3b1 : (a0 != 6) = true := bne_iff_ne.mpr c3
   by_cases c4 : a0 = 5
   ·rw [if_pos c4] at H
    have c4b0 : (a0 == 5) = true := beq_iff_eq.mpr c4
    have c4b1 : (a0 != 5) = false := bne_eq_false_iff_eq.mpr c4
    clear c4
    obtain rfl := Option.some.inj H
    go_enter Try.func69, Try.ntmps69
    go_wp2
    go_ret
    exact ⟨by first | rfl | (simp; done) | (simp [*]; done), by repeat (first | exact Drawn0.refl _ | apply Drawn0.step)⟩
   ·rw [if_neg c4] at H
    have c4b0 : (a0 == 5) = false := beq_eq_false_iff_ne.mpr c4
    have c4b1 : (a0 != 5) = true := bne_iff_ne.mpr c4
    by_cases c5 : a0 = 8
    ·rw [if_pos c5] at H
     have c5b0 : (a0 == 8) = true := beq_iff_eq.mpr c5
     have c5b1 : (a0 != 8) = false := bne_eq_false_iff_eq.mpr c5
     clear c5
     obtain rfl := Option.some.inj H
     go_enter Try.func69, Try.ntmps69
     go_wp2
     go_ret
     exact ⟨by first | rfl | (simp; done) | (simp [*]; done), by repeat (first | exact Drawn0.refl _ | apply Drawn0.step)⟩
    ·rw [if_neg c5] at H
     have c5b0 : (a0 == 8) = false := beq_eq_false_iff_ne.mpr c5
     have c5b1 : (a0 != 8) = true := bne_iff_ne.mpr c5
     by_cases c6 : a0 = 7
     ·rw [if_pos c6] at H
      have c6b0 : (a0 == 7) = true := beq_iff_eq.mpr c6
      have c6b1 : (a0 != 7) = false := bne_eq_false_iff_eq.mpr c6
      clear c6
      obtain rfl := Option.some.inj H
      go_enter Try.func69, Try.ntmps69
      go_wp2
      go_ret
      exact ⟨by first | rfl | (simp; done) | (simp [*]; done), by repeat (first | exact Drawn0.refl _ | apply Drawn0.step)⟩
     ·rw [if_neg c6] at H
      have c6b0 : (a0 == 7) = false := beq_eq_false_iff_ne.mpr c6
      have c6b1 : (a0 != 7) = true := bne_iff_ne.mpr c6
      obtain rfl := Option.some.inj H
      go_enter Try.func69, Try.ntmps69
      go_wp2
      go_ret
      exact ⟨by first | rfl | (simp; done) | (simp [*]; done), by repeat (first | exact Drawn0.refl _ | apply Drawn0.step)⟩
end Go.Proofs.Ytjofkebiacaciaa.PAll
end
section
namespace Go.Proofs.YtjofkebiacaciaaW.PrintWords.FootX
open Go.RowKit Go.Proofs.YtjofkebiacaciaaW.PrintWords Go.Proofs.YtjofkebiacaciaaW.PrintWords.Kd
set_option linter.all false
theorem cellS {α : Type} {d : Kd α} {w W W' : World} {S : Nat → Prop} {n : Nat} {ad : Addr} {xs : List α} (F : ∀ W', Kept w W' S → d.C W' (some ad) n xs) (hn : 0 < n) (hs : 0 < d.sz)
  (hk : Kept w W S) {a : Addr} (ha : a.block = ad.block) {v : Value} (hx : W.cell? a = some v) (hk' : Kept w W' S) : W'.cell? a = some v := by
 have hb := foot_neS F hn hs
 have hl := foot_ltS F hn hs
 rw [← ha] at hb hl
 have e1 := hk.2 a.block hl hb
 have e2 := hk'.2 a.block hl hb
 simpa [World.cell?, e1, e2] using hx
theorem cell {α : Type} {d : Kd α} {w W W' : World} {g : Nat} {n : Nat} {ad : Addr} {xs : List α} (F : ∀ W', KeepBut w W' g none → d.C W' (some ad) n xs) (hn : 0 < n) (hs : 0 < d.sz)
  (hk : KeepBut w W g none) {a : Addr} (ha : a.block = ad.block) {v : Value} (hx : W.cell? a = some v) (hk' : KeepBut w W' g none) : W'.cell? a = some v := by
 have hb := foot_ne F hn hs
 have hl := foot_lt F hn hs
 rw [← ha] at hb hl
 have e1 := hk.2 a.block hl hb (by simp)
 have e2 := hk'.2 a.block hl hb (by simp)
 simpa [World.cell?, e1, e2] using hx
end Go.Proofs.YtjofkebiacaciaaW.PrintWords.FootX
end
section
namespace Go.Proofs.Ytjofkebiacaciaa.PAll
open Go.RowKit Go.Proofs.YtjofkebiacaciaaW.PrintWords Go.Proofs.YtjofkebiacaciaaW.PrintLast Go.Proofs.YtjofkebiacaciaaW.PrintMore
attribute [local go_sem] max2_int min2_int max_two min_two max_three min_three max_four min_four
set_option linter.unusedVariables false
set_option linter.unusedSimpArgs false
mutual
def expr_text.j0 : Nat → List Int → Int → Int → Int → List (S24) → Option (List Int)
 | 0, _, _, _, _, _ => none
 | k + 1, x0, x7, x125000, x125001, x125002 => expr_text.l0 k x0 x7 x125002 (x125002.length : Int) 0 x125000 x125001 x125002
def expr_text.l0 : Nat → List Int → Int → List (S24) → Int → Int → Int → Int → List (S24) → Option (List Int)
 | 0, _, _, _, _, _, _, _, _ => none
 | k + 1, x0, x7, x68, x69, x70, x125000, x125001, x125002 => if x70 < x69 then (if 0 ≤ x70 then (if x70 < (x68.length : Int) then (if x70 > 0 then (expr_text.j2 k x0 x7 x68 x69 x70 (x7 != 0) x125000 x125001 x125002 ((rd_T24 x68 x70).f0) ((rd_T24 x68 x70).f1) ((rd_T24 x68 x70).f2)) else (expr_text.j2 k x0 x7 x68 x69 x70 false x125000 x125001 x125002 ((rd_T24 x68 x70).f0) ((rd_T24 x68 x70).f1) ((rd_T24 x68 x70).f2))) else (none)) else (none)) else (some x0)
def expr_text.j2 : Nat → List Int → Int → List (S24) → Int → Int → Bool → Int → Int → List (S24) → Int → Int → List (S24) → Option (List Int)
 | 0, _, _, _, _, _, _, _, _, _, _, _, _ => none
 | k + 1, x0, x7, x68, x69, x70, x80, x125000, x125001, x125002, x181000, x181001, x181002 => if x80 = true then ((some (([x7] : List Int) : List Int)).bind fun y181 => (if x0.length + y181.length < 140737488355328 then ((expr_level.f x125000).bind fun t187 => ((expr_text.f k (x0 ++ y181) x181000 x181001 x181002 (wrap64 (t187 + 1))).bind fun t188 => (expr_text.l0 k t188 x7 x68 x69 (wrap64 (x70 + 1)) x125000 x125001 x125002))) else (none))) else ((expr_level.f x125000).bind fun t191 => ((expr_text.f k x0 x181000 x181001 x181002 (wrap64 (t191 + 1))).bind fun t192 => (expr_text.l0 k t192 x7 x68 x69 (wrap64 (x70 + 1)) x125000 x125001 x125002)))
def expr_text.f : Nat → List Int → Int → Int → List (S24) → Int → Option (List Int)
 | 0, _, _, _, _, _ => none
 | k + 1, l0, a1_0, a1_1, l1_2, a2 => (expr_level.f a1_0).bind fun t125 => (if t125 < a2 then ((some (([40] : List Int) : List Int)).bind fun y126 => (if l0.length + y126.length < 140737488355328 then ((expr_text.f k (l0 ++ y126) a1_0 a1_1 l1_2 0).bind fun t132 => ((some (([41] : List Int) : List Int)).bind fun y135 => (if t132.length + y135.length < 140737488355328 then (some (t132 ++ y135)) else (none)))) else (none))) else (if a1_0 = 1 then ((some (([48] : List Int) : List Int)).bind fun y141 => (if l0.length + y141.length < 140737488355328 then (some (l0 ++ y141)) else (none))) else (if a1_0 = 2 then ((some (([49] : List Int) : List Int)).bind fun y147 => (if l0.length + y147.length < 140737488355328 then (some (l0 ++ y147)) else (none))) else (if a1_0 = 3 then ((some (([(97 + ((a1_1) % 256)) % 256] : List Int) : List Int)).bind fun y153 => (if l0.length + y153.length < 140737488355328 then (some (l0 ++ y153)) else (none))) else (if a1_0 = 8 then ((some (([33] : List Int) : List Int)).bind fun y159 => (if l0.length + y159.length < 140737488355328 then (if 0 < (l1_2.length : Int) then ((expr_text.f k (l0 ++ y159) ((rd_T24 l1_2 0).f0) ((rd_T24 l1_2 0).f1) ((rd_T24 l1_2 0).f2) 4).bind fun t166 => (some t166)) else (none)) else (none))) else (if a1_0 = 7 then (if 0 < (l1_2.length : Int) then ((expr_text.f k l0 ((rd_T24 l1_2 0).f0) ((rd_T24 l1_2 0).f1) ((rd_T24 l1_2 0).f2) 5).bind fun t170 => ((some (([42] : List Int) : List Int)).bind fun y173 => (if t170.length + y173.length < 140737488355328 then (some (t170 ++ y173)) else (none)))) else (none)) else (if a1_0 = 4 then (expr_text.j0 k l0 124 a1_0 a1_1 l1_2) else (if a1_0 = 6 then (expr_text.j0 k l0 38 a1_0 a1_1 l1_2) else (expr_text.j0 k l0 0 a1_0 a1_1 l1_2)))))))))
end
theorem expr_text.mono_l : ∀ k, (∀ y0 y1 y2 y3 y4, LeO (expr_text.f k y0 y1 y2 y3 y4) (expr_text.f (k + 1) y0 y1 y2 y3 y4)) ∧ (∀ y0 y1 y2 y3 y4, LeO (expr_text.j0 k y0 y1 y2 y3 y4) (expr_text.j0 (k + 1) y0 y1 y2 y3 y4)) ∧ (∀ y0 y1 y2 y3 y4 y5 y6 y7, LeO (expr_text.l0 k y0 y1 y2 y3 y4 y5 y6 y7) (expr_text.l0 (k + 1) y0 y1 y2 y3 y4 y5 y6 y7)) ∧ (∀ y0 y1 y2 y3 y4 y5 y6 y7 y8 y9 y10 y11, LeO (expr_text.j2 k y0 y1 y2 y3 y4 y5 y6 y7 y8 y9 y10 y11) (expr_text.j2 (k + 1) y0 y1 y2 y3 y4 y5 y6 y7 y8 y9 y10 y11))
 | 0 => ⟨fun _ _ _ _ _ r h => by simp [expr_text.f] at h, fun _ _ _ _ _ r h => by simp [expr_text.j0] at h, fun _ _ _ _ _ _ _ _ r h => by simp [expr_text.l0] at h, fun _ _ _ _ _ _ _ _ _ _ _ _ r h => by simp [expr_text.j2] at h⟩
 | k + 1 => by
  obtain ⟨ih0, ih1, ih2, ih3⟩ := expr_text.mono_l k
  refine ⟨?_, ?_, ?_, ?_⟩
  ·intro y0 y1 y2 y3 y4
   unfold expr_text.f
   repeat' first
   | (with_reducible exact ih0 _ _ _ _ _)
   | (with_reducible exact ih1 _ _ _ _ _)
   | (with_reducible exact ih2 _ _ _ _ _ _ _ _)
   | (with_reducible exact ih3 _ _ _ _ _ _ _ _ _ _ _ _)
   | (with_reducible exact LeO.refl _)
   | (with_reducible exact LeO.none _)
   | (with_reducible refine LeO.ite ?_ ?_)
   | (with_reducible refine LeO.bind ?_ (fun _ => ?_))
   | exact ih0 _ _ _ _ _
   | exact ih1 _ _ _ _ _
   | exact ih2 _ _ _ _ _ _ _ _
   | exact ih3 _ _ _ _ _ _ _ _ _ _ _ _
   | exact LeO.none _
   | refine LeO.ite ?_ ?_
   | refine LeO.bind ?_ (fun _ => ?_)
  ·intro y0 y1 y2 y3 y4
   unfold expr_text.j0
   repeat' first
   | (with_reducible exact ih0 _ _ _ _ _)
   | (with_reducible exact ih1 _ _ _ _ _)
   | (with_reducible exact ih2 _ _ _ _ _ _ _ _)
   | (with_reducible exact ih3 _ _ _ _ _ _ _ _ _ _ _ _)
   | (with_reducible exact LeO.refl _)
   | (with_reducible exact LeO.none _)
   | (with_reducible refine LeO.ite ?_ ?_)
   | (with_reducible refine LeO.bind ?_ (fun _ => ?_))
   | exact ih0 _ _ _ _ _
   | exact ih1 _ _ _ _ _
   | exact ih2 _ _ _ _ _ _ _ _
   | exact ih3 _ _ _ _ _ _ _ _ _ _ _ _
   | exact LeO.none _
   | refine LeO.ite ?_ ?_
   | refine LeO.bind ?_ (fun _ => ?_)
  ·intro y0 y1 y2 y3 y4 y5 y6 y7
   unfold expr_text.l0
   repeat' first
   | (with_reducible exact ih0 _ _ _ _ _)
   | (with_reducible exact ih1 _ _ _ _ _)
   | (with_reducible exact ih2 _ _ _ _ _ _ _ _)
   | (with_reducible exact ih3 _ _ _ _ _ _ _ _ _ _ _ _)
   | (with_reducible exact LeO.refl _)
   | (with_reducible exact LeO.none _)
   | (with_reducible refine LeO.ite ?_ ?_)
   | (with_reducible refine LeO.bind ?_ (fun _ => ?_))
   | exact ih0 _ _ _ _ _
   | exact ih1 _ _ _ _ _
   | exact ih2 _ _ _ _ _ _ _ _
   | exact ih3 _ _ _ _ _ _ _ _ _ _ _ _
   | exact LeO.none _
   | refine LeO.ite ?_ ?_
   | refine LeO.bind ?_ (fun _ => ?_)
  ·intro y0 y1 y2 y3 y4 y5 y6 y7 y8 y9 y10 y11
   unfold expr_text.j2
   repeat' first
   | (with_reducible exact ih0 _ _ _ _ _)
   | (with_reducible exact ih1 _ _ _ _ _)
   | (with_reducible exact ih2 _ _ _ _ _ _ _ _)
   | (with_reducible exact ih3 _ _ _ _ _ _ _ _ _ _ _ _)
   | (with_reducible exact LeO.refl _)
   | (with_reducible exact LeO.none _)
   | (with_reducible refine LeO.ite ?_ ?_)
   | (with_reducible refine LeO.bind ?_ (fun _ => ?_))
   | exact ih0 _ _ _ _ _
   | exact ih1 _ _ _ _ _
   | exact ih2 _ _ _ _ _ _ _ _
   | exact ih3 _ _ _ _ _ _ _ _ _ _ _ _
   | exact LeO.none _
   | refine LeO.ite ?_ ?_
   | refine LeO.bind ?_ (fun _ => ?_)
theorem expr_text.mono : ∀ a0 a1 a2 a3 a4 k, LeO (expr_text.f k a0 a1 a2 a3 a4) (expr_text.f (k + 1) a0 a1 a2 a3 a4) := by
 intro a0 a1 a2 a3 a4 k
 obtain ⟨ih0, ih1, ih2, ih3⟩ := expr_text.mono_l k
 exact ih0 a0 a1 a2 a3 a4
def expr_text.T2 : Bool × List (List Nat × List Nat) := (true, [([], []), ([], []), ([0, 1], [0, 1]), ([], []), ([2, 3, 2], [2, 3]), ([], []), ([4, 5, 4], [4, 5]), ([6, 6, 0, 1, 2, 3, 4, 5, 6], [6])])
def expr_text.B2 : List Nat := [0, 0, 3, 0, 15, 0, 63, 127]
theorem expr_text.tab2 : rtab .any (opsOf Try.f47 2) = expr_text.T2 := by kernel_rfl
theorem expr_text.bits2 : waitsOk expr_text.T2.2 expr_text.B2 = true := by kernel_rfl
def expr_text.T12 : Bool × List (List Nat × List Nat) := (true, [([], []), ([], []), ([0, 1], [0, 1]), ([], []), ([3], [3]), ([4], [4]), ([5], [5]), ([2, 6, 2], [2, 6]), ([7, 7, 0, 1, 2, 3, 4, 5, 6, 7], [7])])
def expr_text.B12 : List Nat := [0, 0, 3, 0, 8, 24, 56, 127, 255]
theorem expr_text.tab12 : rtab .any (opsOf Try.f47 12) = expr_text.T12 := by kernel_rfl
theorem expr_text.bits12 : waitsOk expr_text.T12.2 expr_text.B12 = true := by kernel_rfl
def expr_text.T24 : Bool × List (List Nat × List Nat) := (true, [([], []), ([], []), ([], []), ([2], [2]), ([3], [3]), ([4], [4]), ([0, 1, 5, 4], [0, 1, 5]), ([6, 6, 0, 1, 2, 3, 4, 5, 6], [0, 6])])
def expr_text.B24 : List Nat := [0, 0, 0, 4, 12, 28, 63, 127]
theorem expr_text.tab24 : rtab .any (opsOf Try.f47 24) = expr_text.T24 := by kernel_rfl
theorem expr_text.bits24 : waitsOk expr_text.T24.2 expr_text.B24 = true := by kernel_rfl
set_option maxHeartbeats 8000000 in
set_option maxRecDepth 100000 in
theorem expr_text.calls (k : Nat) : ∀ (P0_ : Nat → Prop) (u9000_ : Value) (l0 : List Int) (a1_0 : Int) (a1_1 : Int) (A1_2 : Option Addr) (c1_2 : Nat) (l1_2 : List (S24)) (a2 : Int) (r : List Int) (w0 w : World) (hB : Below w0.heap.size w0 w) (ho0 : Kd.R (Kd.int .u8) 5 w w0.heap.size P0_ u9000_ l0) (hr1_2 : ∀ W_, Kept w W_ (fun k_ => P0_ k_) → Kd.C k24 W_ A1_2 l1_2.length l1_2) (hc1_2 : l1_2.length ≤ c1_2) (h : expr_text.f k l0 a1_0 a1_1 l1_2 a2 = some r),
  Calls Try.prog 47 #[u9000_, .agg #[.int .i64 a1_0, .int .i64 a1_1, .slice A1_2 l1_2.length c1_2], .int .i64 a2] w fun e w' => ∃ v0_ : Value, e = .returned (v0_) ∧ Kd.R (Kd.int .u8) 5 w' w0.heap.size (fun k_ => (P0_ k_ ∨ w.heap.size ≤ k_)) v0_ r ∧ Below w0.heap.size w0 w' ∧ Kept w w' (fun k_ => P0_ k_) := by
 induction k using Nat.strongRecOn with
 | _ k ih =>
 intro P0_ u9000_ l0 a1_0 a1_1 A1_2 c1_2 l1_2 a2 r w0 w hB ho0 hr1_2 hc1_2 h
 cases k with
 | zero => exact absurd h (by simp [expr_text.f])
 | succ k =>
 simp only [expr_text.f] at h
 have hu24 := Try.underlying24
 have HO0 := Aside0.mk (show Kd.R (Kd.int .u8) 5 w w0.heap.size (fun k_ => (P0_ k_ ∨ w.heap.size ≤ k_)) u9000_ l0 from Kd.R_mono ho0 (fun k_ hk => (.inl hk)))
 have HR1_2 := Aside0.mk hr1_2
 have HC1_2 := Aside0.mk hc1_2
 clear hr1_2 hc1_2
 have HK := Aside0.mk (Kept.refl w (fun k_ => P0_ k_))
 have HW0 := Aside0.mk hB.size
 have HB := Aside0.mk hB
 clear hB
 have H : ((expr_level.f a1_0).bind fun t125 => (if t125 < a2 then ((some (([40] : List Int) : List Int)).bind fun y126 => (if l0.length + y126.length < 140737488355328 then ((expr_text.f k (l0 ++ y126) a1_0 a1_1 l1_2 0).bind fun t132 => ((some (([41] : List Int) : List Int)).bind fun y135 => (if t132.length + y135.length < 140737488355328 then (some (t132 ++ y135)) else (none)))) else (none))) else (if a1_0 = 1 then ((some (([48] : List Int) : List Int)).bind fun y141 => (if l0.length + y141.length < 140737488355328 then (some (l0 ++ y141)) else (none))) else (if a1_0 = 2 then ((some (([49] : List Int) : List Int)).bind fun y147 => (if l0.length + y147.length < 140737488355328 then (some (l0 ++ y147)) else (none))) else (if a1_0 = 3 then ((some (([(97 + ((a1_1) % 256)) % 256] : List Int) : List Int)).bind fun y153 => (if l0.length + y153.length < 140737488355328 then (some (l0 ++ y153)) else (none))) else (if a1_0 = 8 then ((some (([33] : List Int) : List Int)).bind fun y159 => (if l0.length + y159.length < 140737488355328 then (if 0 < (l1_2.length : Int) then ((expr_text.f k (l0 ++ y159) ((rd_T24 l1_2 0).f0) ((rd_T24 l1_2 0).f1) ((rd_T24 l1_2 0).f2) 4).bind fun t166 => (some t166)) else (none)) else (none))) else (if a1_0 = 7 then (if 0 < (l1_2.length : Int) then ((expr_text.f k l0 ((rd_T24 l1_2 0).f0) ((rd_T24 l1_2 0).f1) ((rd_T24 l1_2 0).f2) 5).bind fun t170 => ((some (([42] : List Int) : List Int)).bind fun y173 => (if t170.length + y173.length < 140737488355328 then (some (t170 ++ y173)) else (none)))) else (none)) else (if a1_0 = 4 then (expr_text.j0 k l0 124 a1_0 a1_1 l1_2) else (if a1_0 = 6 then (expr_text.j0 k l0 38 a1_0 a1_1 l1_2) else (expr_text.j0 k l0 0 a1_0 a1_1 l1_2)))))))))) = some r := h
 clear h
 replace H := Option.bind_eq_some_iff.mp H
 obtain ⟨t125, A40, H⟩ := H
 replace H : (if t125 < a2 then ((some (([40] : List Int) : List Int)).bind fun y126 => (if l0.length + y126.length < 140737488355328 then ((expr_text.f k (l0 ++ y126) a1_0 a1_1 l1_2 0).bind fun t132 => ((some (([41] : List Int) : List Int)).bind fun y135 => (if t132.length + y135.length < 140737488355328 then (some (t132 ++ y135)) else (none)))) else (none))) else (if a1_0 = 1 then ((some (([48] : List Int) : List Int)).bind fun y141 => (if l0.length + y141.length < 140737488355328 then (some (l0 ++ y141)) else (none))) else (if a1_0 = 2 then ((some (([49] : List Int) : List Int)).bind fun y147 => (if l0.length + y147.length < 140737488355328 then (some (l0 ++ y147)) else (none))) else (if a1_0 = 3 then ((some (([(97 + ((a1_1) % 256)) % 256] : List Int) : List Int)).bind fun y153 => (if l0.length + y153.length < 140737488355328 then (some (l0 ++ y153)) else (none))) else (if a1_0 = 8 then ((some (([33] : List Int) : List Int)).bind fun y159 => (if l0.length + y159.length < 140737488355328 then (if 0 < (l1_2.length : Int) then ((expr_text.f k (l0 ++ y159) ((rd_T24 l1_2 0).f0) ((rd_T24 l1_2 0).f1) ((rd_T24 l1_2 0).f2) 4).bind fun t166 => (some t166)) else (none)) else (none))) else (if a1_0 = 7 then (if 0 < (l1_2.length : Int) then ((expr_text.f k l0 ((rd_T24 l1_2 0).f0) ((rd_T24 l1_2 0).f1) ((rd_T24 l1_2 0).f2) 5).bind fun t170 => ((some (([42] : List Int) : List Int)).bind fun y173 => (if t170.length + y173.length < 140737488355328 then (some (t170 ++ y173)) else (none)))) else (none)) else (if a1_0 = 4 then (expr_text.j0 k l0 124 a1_0 a1_1 l1_2) else (if a1_0 = 6 then (expr_text.j0 k l0 38 a1_0 a1_1 l1_2) else (expr_text.j0 k l0 0 a1_0 a1_1 l1_2))))))))) = some r := H
 have A4 := Aside0.mk A40
 clear A40
 by_cases c5 : t125 < a2
 ·rw [if_pos c5] at H
  have c5b0 : decide (t125 < a2) = true := decide_eq_true c5
  clear c5
  obtain ⟨y126, hy126⟩ : ∃ y_ : List Int, y_ = (([40] : List Int)) := ⟨_, rfl⟩
  replace H : (if l0.length + y126.length < 140737488355328 then ((expr_text.f k (l0 ++ y126) a1_0 a1_1 l1_2 0).bind fun t132 => ((some (([41] : List Int) : List Int)).bind fun y135 => (if t132.length + y135.length < 140737488355328 then (some (t132 ++ y135)) else (none)))) else (none)) = some r := by first | (rw [hy126]; with_reducible exact H) | (have H2_ := (Option.bind_some _ _).symm.trans H; rw [hy126]; with_reducible exact H2_) | (have H2_ := (Option.bind_some _ _).symm.trans H; with_reducible exact H2_) | with_reducible exact H | (rw [hy126]; exact H) | exact H
  have Ny126 := Aside0.mk hy126
  clear hy126
  by_cases c6 : l0.length + y126.length < 140737488355328
  ·rw [if_pos c6] at H
   have LMc6 := Aside0.mk c6
   clear c6
   obtain ⟨y129, hy129⟩ : ∃ y_ : List Int, y_ = (l0 ++ y126) := ⟨_, rfl⟩
   replace H : ((expr_text.f k y129 a1_0 a1_1 l1_2 0).bind fun t132 => ((some (([41] : List Int) : List Int)).bind fun y135 => (if t132.length + y135.length < 140737488355328 then (some (t132 ++ y135)) else (none)))) = some r := by first | (rw [hy129]; with_reducible exact H) | (have H2_ := (Option.bind_some _ _).symm.trans H; rw [hy129]; with_reducible exact H2_) | (have H2_ := (Option.bind_some _ _).symm.trans H; with_reducible exact H2_) | with_reducible exact H | (rw [hy129]; exact H) | exact H
   have Ny129 := Aside0.mk hy129
   clear hy129
   replace H := Option.bind_eq_some_iff.mp H
   obtain ⟨t132, A70, H⟩ := H
   replace H : ((some (([41] : List Int) : List Int)).bind fun y135 => (if t132.length + y135.length < 140737488355328 then (some (t132 ++ y135)) else (none))) = some r := H
   have A7 := Aside0.mk A70
   clear A70
   obtain ⟨y135, hy135⟩ : ∃ y_ : List Int, y_ = (([41] : List Int)) := ⟨_, rfl⟩
   replace H : (if t132.length + y135.length < 140737488355328 then (some (t132 ++ y135)) else (none)) = some r := by first | (rw [hy135]; with_reducible exact H) | (have H2_ := (Option.bind_some _ _).symm.trans H; rw [hy135]; with_reducible exact H2_) | (have H2_ := (Option.bind_some _ _).symm.trans H; with_reducible exact H2_) | with_reducible exact H | (rw [hy135]; exact H) | exact H
   have Ny135 := Aside0.mk hy135
   clear hy135
   by_cases c8 : t132.length + y135.length < 140737488355328
   ·rw [if_pos c8] at H
    have LMc8 := Aside0.mk c8
    clear c8
    obtain ⟨y138, hy138⟩ : ∃ y_ : List Int, y_ = (t132 ++ y135) := ⟨_, rfl⟩
    replace H : (some y138) = some r := by first | (rw [hy138]; with_reducible exact H) | (have H2_ := (Option.bind_some _ _).symm.trans H; rw [hy138]; with_reducible exact H2_) | (have H2_ := (Option.bind_some _ _).symm.trans H; with_reducible exact H2_) | with_reducible exact H | (rw [hy138]; exact H) | exact H
    have Ny138 := Aside0.mk hy138
    clear hy138
    obtain rfl := Option.some.inj H
    go_enter Try.func47, Try.ntmps47
    try go_wp2_with (first | ((with_reducible refine gate_dst (N := 4) rfl ?_); refine box_event ?hg (N := 4) ?hd (cs := #[.int .i64 a1_0, .int .i64 a1_1, .slice A1_2 l1_2.length c1_2]) (t := 24) ?hr ?_; (case hd => rfl); (case hg => rfl); (case hr => first | (go_simp; done) | (go_simp; rfl)); intro gb124 hg w9 hbox hb; have n0_ := Aside0.mk (Kd.R_below (by (with_reducible repeat (first | apply Kd.R_alloc | apply Kd.R_drewN | apply Kd.R_drew)); exact HO0.out) hb); have n1_ := Aside0.mk (Kept.below (S := (fun k_ => P0_ k_)) (kP) hb); have n2_ := Aside0.mk (below_step (bB) hb); have n3_ := Aside0.mk (hbox); have n4_ := Aside0.mk ((by rw [hg]; exact (by first | exact HK.out.1 | exact (show Kept w _ (fun k_ => P0_ k_) from kP).1) : w.heap.size ≤ gb124)); have n5_ := Aside0.mk ((by rw [hg]; exact (below_size (bB)) : w0.heap.size ≤ gb124)); clear HO0; clear HK; clear HB; have HO0 := n0_; have HK := n1_; have HB := n2_; have BK124 := n3_; have GW124 := n4_; have GE124 := n5_; clear n0_ n1_ n2_ n3_ n4_ n5_; clear hb hbox hg; have hcz10_0 : w9.cell? ⟨gb124, 0, none⟩ = some (.int .i64 a1_0) := (blk_cell BK124.out 0).trans rfl; have hcz10_1 : w9.cell? ⟨gb124, 1, none⟩ = some (.int .i64 a1_1) := (blk_cell BK124.out 1).trans rfl; have hcz10_2 : w9.cell? ⟨gb124, 2, none⟩ = some (.slice A1_2 l1_2.length c1_2) := (blk_cell BK124.out 2).trans rfl; have hfz10_0 := blk_frozen BK124.out 0; have hfz10_1 := blk_frozen BK124.out 1; have hfz10_2 := blk_frozen BK124.out 2) | ((with_reducible refine gate_callee (f := 69) rfl ?_); refine goesL_ (some 12) rfl rfl Try.func69 (by kernel_rfl) rfl #[.int .i64 a1_0] rfl (by (try simp only [List.map_toArray, List.map_cons, List.map_nil]); first | done | rfl | (simp only [List.length_drop, List.length_take]; rfl) | (simp only [Int.ofNat_lt, Int.ofNat_le]; rfl)) ?_; (with_reducible refine (expr_level.calls a1_0 t125 _ A4.out).mono ?_); rintro e w' ⟨rfl, ⟨nd, rfl⟩⟩; refine ⟨_, rfl, ?_⟩; obtain ⟨Ao11, co11, eo11⟩ := Kd.R_slice HO0.out; subst eo11))
    (try (rw [drewN_self w9]; generalize hq_ : World.drewN w9 _ = w9; have n0_ : Aside0 (Kd.R (Kd.int .u8) 5 w9 w0.heap.size (fun k_ => (P0_ k_ ∨ w.heap.size ≤ k_)) (.slice Ao11 l0.length co11) l0) := ⟨by rw [← hq_]; exact (by (with_reducible repeat (first | apply Kd.R_alloc | apply Kd.R_drewN | apply Kd.R_drew)); exact HO0.out)⟩; have n1_ : Aside0 (w9.heap[gb124]? = some (.cells #[.int .i64 a1_0, .int .i64 a1_1, .slice A1_2 l1_2.length c1_2] 24 (0, 0))) := ⟨by rw [← hq_]; exact (bK)⟩; have n2_ : Aside0 (Kept w w9 (fun k_ => P0_ k_)) := ⟨by rw [← hq_]; exact (kP)⟩; have n3_ : Aside0 (Below w0.heap.size w0 w9) := ⟨by rw [← hq_]; exact (bB)⟩; clear HO0 BK124 HK HB hq_; have HO0 := n0_; have BK124 := n1_; have HK := n2_; have HB := n3_; clear n0_ n1_ n2_ n3_))
    have n0_ := Aside0.mk (Kd.R_drew HO0.out)
    have n1_ := Aside0.mk (blk_drew BK124.out)
    have n2_ := Aside0.mk (Kept.drew HK.out)
    have n3_ := Aside0.mk (below_drew1 HB.out)
    clear HO0
    clear BK124
    clear HK
    clear HB
    have HO0 := n0_
    have BK124 := n1_
    have HK := n2_
    have HB := n3_
    clear n0_ n1_ n2_ n3_
    refine start_ (n := 8) (S := fun w' => w'.cell? ⟨gb124, 0, none⟩ = some (.int .i64 a1_0) ∧ w'.cell? ⟨gb124, 1, none⟩ = some (.int .i64 a1_1) ∧ w'.cell? ⟨gb124, 2, none⟩ = some (.slice A1_2 l1_2.length c1_2)) (ds := []) #[false, false, false, false, false, false, false, false] (by kernel_rfl) rfl rfl ⟨(blk_cell BK124.out 0).trans rfl, (blk_cell BK124.out 1).trans rfl, (blk_cell BK124.out 2).trans rfl⟩ (fun hHeld => ?_); refine with_tabW expr_text.tab2 expr_text.bits2 (fun HT_ HW_ => ?_)
    generalize w9.drew = w12 at HO0 BK124 HK HB hHeld ⊢
    refine pure_ (i := 0) (N := some 15) (v := ?_) (a' := ?_) #[true, false, false, false, false, false, false, false] rfl rfl (any_of HT_.out (by kernel_rfl)) (fun _ _ _ h => h) (Or.inl ⟨by rfl, ?_⟩) ?_ ?_
    rotate_left
    ·intro w'
     go_simp
     with_reducible rfl
    rotate_left
    ·simp only [Act.put, List.setIfInBounds_toArray, List.set_cons_zero, List.set_cons_succ, i64_w, i32_w]
     rfl
    refine take_ (i := 3) (N := some 18) (v := ?_) (a' := ?_) #[true, false, false, true, false, false, false, false] rfl rfl (take_ofW HT_.out HW_.out (by kernel_rfl)) (fun _ _ _ h => h) (Or.inl ⟨by rfl, ?_⟩) hHeld ?_ ?_
    rotate_left
    ·rintro w' ⟨s0, s1, s2⟩
     go_simp
     with_reducible rfl
    rotate_left
    ·simp only [Act.put, List.setIfInBounds_toArray, List.set_cons_zero, List.set_cons_succ, i64_w, i32_w]
     rfl
    refine join_ (σ := Value × Value × Value × Value) 2 #[true, true, true, true, true, true, false, false] (fun s_ => [(16, s_.1), (17, s_.2.1), (19, s_.2.2.1), (20, s_.2.2.2)]) (fun s_ w' => (w'.cell? ⟨gb124, 0, none⟩ = some (.int .i64 a1_0) ∧ w'.cell? ⟨gb124, 1, none⟩ = some (.int .i64 a1_1) ∧ w'.cell? ⟨gb124, 2, none⟩ = some (.slice A1_2 l1_2.length c1_2)) ∧ (Kd.R (Kd.int .u8) 5 w' w0.heap.size (fun k_ => (P0_ k_ ∨ w.heap.size ≤ k_) ∧ some k_ ≠ (s_.2.2.1 : Value).ownBlock ∧ some k_ ≠ (s_.2.2.2 : Value).ownBlock) s_.1 y126) ∧ (Kd.R (Kd.int .u8) 5 w' w0.heap.size (fun k_ => (P0_ k_ ∨ w.heap.size ≤ k_) ∧ some k_ ≠ (s_.1 : Value).ownBlock ∧ some k_ ≠ (s_.2.2.2 : Value).ownBlock) s_.2.2.1 t132) ∧ (Kd.R (Kd.int .u8) 5 w' w0.heap.size (fun k_ => (P0_ k_ ∨ w.heap.size ≤ k_) ∧ some k_ ≠ (s_.1 : Value).ownBlock ∧ some k_ ≠ (s_.2.2.1 : Value).ownBlock) s_.2.2.2 y135) ∧ (w'.heap[gb124]? = some (.cells #[.int .i64 a1_0, .int .i64 a1_1, .slice A1_2 l1_2.length c1_2] 24 (0, 0))) ∧ (Kept w w' (fun k_ => P0_ k_)) ∧ (Below w0.heap.size w0 w')) ?_ ?_
    rotate_left
    ·intro hCont
     refine two_ (i := 1) (j := 5) (Ni := some 16) (Nj := some 20) #[true, true, false, true, false, false, false, false] #[true, false, false, true, false, true, false, false] rfl rfl rfl rfl (two_of HT_.out (by kernel_rfl)) (by decide) (by decide) (fun K hK => ?_) (fun K hK => ?_)
     ·skip
      refine Kd.R_lit_step (Kd.int .u8) _ 5 ?hg (N := 16) ?hd (xs := ([40] : List Int)) (inner := [.int .u8 40]) (ok := fun _ => True) (okp := fun _ => True) ?hr ?hp (fun _ hk => hk) trivial (Below.refl _ _) (Nat.le_refl _) (by simp) ?_; (case hd => rfl); (case hg => rfl); (case hr => first | (go_simp; done) | (go_simp; rfl)); (case hp => exact (Reps.one (show Kd.M (Kd.int .u8) _ _ _ 40 [.int .u8 40] from rfl) (Reps.none _ _)))
      intro v127 w13 ho14 hb hg_ hnew_
      clear hg_ hnew_
      (first | rw [← Ny126.out] at ho14 | (simp only [Int.reduceToNat] at ho14; rw [← Ny126.out] at ho14))
      have n0_ := Aside0.mk (Kd.R_elder' (by (with_reducible repeat (first | apply Kd.R_alloc | apply Kd.R_drewN | apply Kd.R_drew)); exact HO0.out) (Kd.R_base ho14) hb)
      have n1_ := Aside0.mk (Kd.R_lower (Kd.R_new' (Kd.R_newM (M := fun k_ => (P0_ k_ ∨ w.heap.size ≤ k_)) ho14 (by first | exact HK.out.1 | exact (show Kept w _ (fun k_ => P0_ k_) from kP).1) (fun k_ h_ => .inr h_)) (Kd.R_lt (by (with_reducible repeat (first | apply Kd.R_alloc | apply Kd.R_drewN | apply Kd.R_drew)); exact HO0.out))) (below_size (bB)))
      have n2_ := Aside0.mk (blk_below (g := gb124) (o := .cells #[.int .i64 a1_0, .int .i64 a1_1, .slice A1_2 l1_2.length c1_2] 24 (0, 0)) (bK) hb)
      have n3_ := Aside0.mk (Kept.below (S := (fun k_ => P0_ k_)) (kP) hb)
      have n4_ := Aside0.mk (below_step (bB) hb)
      clear HO0
      clear BK124
      clear HK
      clear HB
      have HO0 := n0_
      have HO128 := n1_
      have BK124 := n2_
      have HK := n3_
      have HB := n4_
      clear n0_ n1_ n2_ n3_ n4_
      clear hb ho14
      obtain ⟨Ao16, co16, eo16⟩ := Kd.R_slice HO128.out
      (first | subst eo16 | (injection eo16 with f1_ f2_ f3_; have f4_ := f1_.symm; have f5_ := f3_.symm; clear f1_ f2_ f3_; subst f4_; subst f5_))
      refine hK.out _ _ ⟨(blk_cell BK124.out 0).trans rfl, (blk_cell BK124.out 1).trans rfl, (blk_cell BK124.out 2).trans rfl⟩ (fun hHeld => ?_)
      clear hK K
      refine norm_ (a' := ?_) ?_ ?_
      rotate_left
      ·show Act.put _ (some 16) _ = _
       simp only [Act.put, List.setIfInBounds_toArray, List.set_cons_zero, List.set_cons_succ, i64_w, i32_w]
       rfl
      refine two_ (i := 2) (j := 5) (Ni := some 17) (Nj := some 20) #[true, true, true, true, false, false, false, false] #[true, true, false, true, false, true, false, false] rfl rfl rfl rfl (two_of HT_.out (by kernel_rfl)) (by decide) (by decide) (fun K hK => ?_) (fun K hK => ?_)
      ·skip
       refine Kd.R_append_rows_step (Kd.int .u8) (w0 := w0) w0.heap.size (by rfl) (.tmp 15) (.tmp 16) 43 5 (.int .u8 0) 1 rfl Try.underlying43 info5 rfl (by decide) (by omega) (.slice Ao11 l0.length co11) l0 y126 _ _ _ (fun k_ => (P0_ k_ ∨ w.heap.size ≤ k_) ∧ some k_ ≠ (.slice Ao16 y126.length co16 : Value).ownBlock) (fun _ => False) rfl rfl ?aO ?aR (fun _ _ h => h) (fun _ h => h.elim) ?aF ?aB ?aS ?aL ?_
       (case aR => repeat (first | exact (Kd.R_reads' HO128.out).2.2 | (with_reducible refine Kd.C_alloc ?_ _) | (with_reducible refine Kd.C_drewN ?_ _) | (with_reducible refine Kd.C_drew ?_)))
       (case aB => exact (bB))
       (case aF => exact (fun k_ hk => ⟨(.inr (Nat.le_trans (by first | exact HK.out.1 | exact (show Kept w _ (fun k_ => P0_ k_) from kP).1) hk)), Kd.fresh' (Kd.R_lt (by (with_reducible repeat (first | apply Kd.R_alloc | apply Kd.R_drewN | apply Kd.R_drew)); exact HO128.out)) k_ hk⟩))
       (case aO => exact (by (with_reducible repeat (first | apply Kd.R_alloc | apply Kd.R_drewN | apply Kd.R_drew)); exact HO0.out))
       (case aS => exact (below_size (bB)))
       (case aL => have := LMc6.out; omega)
       intro v130 w15 ho hb hg hat
       rw [← Ny129.out] at ho
       have n0_ := Aside0.mk (blk_grown (g := gb124) (o := .cells #[.int .i64 a1_0, .int .i64 a1_1, .slice A1_2 l1_2.length c1_2] 24 (0, 0)) (bK) hg (Kd.R_ne HO0.out BK124.out (by decide)))
       have n1_ := Aside0.mk (Kd.R_after (ok := (fun k_ => (P0_ k_ ∨ w.heap.size ≤ k_))) (by (with_reducible repeat (first | apply Kd.R_alloc | apply Kd.R_drewN | apply Kd.R_drew)); exact Kd.R_mono HO128.out (fun _ hk => ⟨hk.1.1, hk.2⟩)) hg hat)
       have n2_ := Aside0.mk (hb)
       have n3_ := Aside0.mk (Kept.of_grown (S := (fun k_ => P0_ k_)) hg (kP) (fun k_ e_ => (HO0.out.1 k_ e_).1))
       have n4_ := Aside0.mk (ho)
       clear BK124
       clear HO128
       clear HB
       clear HK
       clear HO0
       have BK124 := n0_
       have HO128 := n1_
       have HB := n2_
       have HK := n3_
       have HO131 := n4_
       clear n0_ n1_ n2_ n3_ n4_
       clear ho hb hg hat
       obtain ⟨Ao17, co17, eo17⟩ := Kd.R_slice HO131.out
       (first | subst eo17 | (injection eo17 with f1_ f2_ f3_; have f4_ := f1_.symm; have f5_ := f3_.symm; clear f1_ f2_ f3_; subst f4_; subst f5_))
       refine hK.out _ _ ⟨(blk_cell BK124.out 0).trans rfl, (blk_cell BK124.out 1).trans rfl, (blk_cell BK124.out 2).trans rfl⟩ (fun hHeld => ?_)
       clear hK K
       refine norm_ (a' := ?_) ?_ ?_
       rotate_left
       ·show Act.put _ (some 17) _ = _
        simp only [Act.put, List.setIfInBounds_toArray, List.set_cons_zero, List.set_cons_succ, i64_w, i32_w]
        rfl
       refine two_ (i := 4) (j := 5) (Ni := some 19) (Nj := some 20) #[true, true, true, true, true, false, false, false] #[true, true, true, true, false, true, false, false] rfl rfl rfl rfl (two_of HT_.out (by kernel_rfl)) (by decide) (by decide) (fun K hK => ?_) (fun K hK => ?_)
       ·skip
        refine goes_ Try.func47 (by kernel_rfl) rfl #[.slice Ao17 y129.length co17, .agg #[.int .i64 a1_0, .int .i64 a1_1, .slice A1_2 l1_2.length c1_2], .int .i64 0] (by rfl) rfl rfl (by (try simp only [List.map_toArray, List.map_cons, List.map_nil]); first | done | rfl | (simp only [List.length_drop, List.length_take]; rfl)) ?_
        with_reducible refine (ih k (by omega) (fun k_ => some k_ = (.slice Ao17 y129.length co17 : Value).ownBlock) (.slice Ao17 y129.length co17) y129 a1_0 a1_1 _ _ l1_2 0 t132 w0 _ ?side1 ?side2 ?side3 ?side4 A7.out).mono ?_
        (case side1 => repeat (first | (with_reducible first | exact HB.out | apply below_alloc | apply pw_below_drewN | apply below_drew1 | refine below_set ?_ GE124.out) | exact HB.out))
        (case side2 => exact Kd.R_tight rfl HO131.out)
        (case side3 => exact Kd.C_kept_call HR1_2.out (kP) (fun k_ hs_ => (fun e_ => (HO131.out.1 k_ e_.symm).1) hs_))
        (case side4 => exact HC1_2.out)
        rintro e w18 ⟨v133, rfl, ho0, hb, hkp⟩
        refine ⟨_, rfl, ?_⟩
        have n0_ := Aside0.mk (blk_kept (bK) hkp (fun hs_ => (fun e_ => (Kd.R_ne HO131.out BK124.out (by decide)) e_) hs_))
        have n1_ := Aside0.mk (Kd.R_mono (ok' := fun k_ => (P0_ k_ ∨ w.heap.size ≤ k_) ∧ some k_ ≠ (v133 : Value).ownBlock) (Kd.R_keptB (HO128.out) hkp (fun k_ hk_ hs_ => (hk_.2) hs_)) (fun k_ hk_ => ⟨hk_.1.1, fun e_ => Or.elim (ho0.1 k_ e_.symm) (fun hs_ => hk_.2.1 hs_) (fun hn_ => Nat.not_le.2 hk_.2.2 hn_)⟩))
        have n2_ := Aside0.mk (Kd.R_mono (ok' := fun k_ => (P0_ k_ ∨ w.heap.size ≤ k_) ∧ some k_ ≠ (.slice Ao16 y126.length co16 : Value).ownBlock) ho0 (fun k_ hk_ => ⟨Or.elim hk_ (fun hs_ => (HO131.out.1 k_ (hs_).symm).1) (fun hn_ => (.inr (Nat.le_trans (by first | exact HK.out.1 | exact (show Kept w _ (fun k_ => P0_ k_) from kP).1) hn_))), Or.elim hk_ (fun hs_ => fun e_ => (((HO128.out).1 k_ e_.symm).2) hs_) (fun hn_ => (Kd.fresh' (Kd.R_lt (by (with_reducible repeat (first | apply Kd.R_alloc | apply Kd.R_drewN | apply Kd.R_drew)); exact HO128.out)) k_ hn_))⟩))
        have n3_ := Aside0.mk (Kept.then_ (S := (fun k_ => P0_ k_)) (kP) hkp (fun k_ hs_ => (fun e_ => (HO131.out.1 k_ e_.symm).1) hs_))
        have n4_ := Aside0.mk (hb)
        clear BK124
        clear HO128
        clear HK
        clear HB
        clear HO131
        have BK124 := n0_
        have HO128 := n1_
        have HO134 := n2_
        have HK := n3_
        have HB := n4_
        clear n0_ n1_ n2_ n3_ n4_
        (try clear hb)
        (try clear hkp)
        (try clear ho0)
        refine hK.out _ _ ⟨(blk_cell BK124.out 0).trans rfl, (blk_cell BK124.out 1).trans rfl, (blk_cell BK124.out 2).trans rfl⟩ (fun hHeld => ?_)
        clear hK K
        refine norm_ (a' := ?_) ?_ ?_
        rotate_left
        ·show Act.put _ (some 19) _ = _
         simp only [Act.put, List.setIfInBounds_toArray, List.set_cons_zero, List.set_cons_succ, i64_w, i32_w]
         rfl
        refine one_ (i := 5) (N := some 20) #[true, true, true, true, true, true, false, false] rfl rfl (one_of HT_.out (by kernel_rfl)) (by decide) (fun K hK => ?_)
        refine Kd.R_lit_step (Kd.int .u8) _ 5 ?hg (N := 20) ?hd (xs := ([41] : List Int)) (inner := [.int .u8 41]) (ok := fun _ => True) (okp := fun _ => True) ?hr ?hp (fun _ hk => hk) trivial (Below.refl _ _) (Nat.le_refl _) (by simp) ?_; (case hd => rfl); (case hg => rfl); (case hr => first | (go_simp; done) | (go_simp; rfl)); (case hp => exact (Reps.one (show Kd.M (Kd.int .u8) _ _ _ 41 [.int .u8 41] from rfl) (Reps.none _ _)))
        intro v136 w19 ho20 hb hg_ hnew_
        clear hg_ hnew_
        (first | rw [← Ny135.out] at ho20 | (simp only [Int.reduceToNat] at ho20; rw [← Ny135.out] at ho20))
        have n0_ := Aside0.mk (Kd.R_elder' (by (with_reducible repeat (first | apply Kd.R_alloc | apply Kd.R_drewN | apply Kd.R_drew)); exact HO128.out) (Kd.R_base ho20) hb)
        have n1_ := Aside0.mk (Kd.R_elder' (by (with_reducible repeat (first | apply Kd.R_alloc | apply Kd.R_drewN | apply Kd.R_drew)); exact HO134.out) (Kd.R_base ho20) hb)
        have n2_ := Aside0.mk (Kd.R_lower (Kd.R_new' (Kd.R_new' (Kd.R_newM (M := fun k_ => (P0_ k_ ∨ w.heap.size ≤ k_)) ho20 (by first | exact HK.out.1 | exact (show Kept w _ (fun k_ => P0_ k_) from kP).1) (fun k_ h_ => .inr h_)) (Kd.R_lt (by (with_reducible repeat (first | apply Kd.R_alloc | apply Kd.R_drewN | apply Kd.R_drew)); exact HO128.out))) (Kd.R_lt (by (with_reducible repeat (first | apply Kd.R_alloc | apply Kd.R_drewN | apply Kd.R_drew)); exact HO134.out))) (below_size (bB)))
        have n3_ := Aside0.mk (blk_below (g := gb124) (o := .cells #[.int .i64 a1_0, .int .i64 a1_1, .slice A1_2 l1_2.length c1_2] 24 (0, 0)) (bK) hb)
        have n4_ := Aside0.mk (Kept.below (S := (fun k_ => P0_ k_)) (kP) hb)
        have n5_ := Aside0.mk (below_step (bB) hb)
        clear HO128
        clear HO134
        clear BK124
        clear HK
        clear HB
        have HO128 := n0_
        have HO134 := n1_
        have HO137 := n2_
        have BK124 := n3_
        have HK := n4_
        have HB := n5_
        clear n0_ n1_ n2_ n3_ n4_ n5_
        clear hb ho20
        refine hK.out _ _ ⟨(blk_cell BK124.out 0).trans rfl, (blk_cell BK124.out 1).trans rfl, (blk_cell BK124.out 2).trans rfl⟩ (fun hHeld => ?_)
        clear hK K
        refine norm_ (a' := ?_) ?_ ?_
        rotate_left
        ·show Act.put _ (some 20) _ = _
         simp only [Act.put, List.setIfInBounds_toArray, List.set_cons_zero, List.set_cons_succ, i64_w, i32_w]
         rfl
        exact norm_ (by simp only [putAll, Act.put, List.setIfInBounds_toArray, List.set_cons_zero, List.set_cons_succ]) (hCont (.slice Ao16 y126.length co16, .slice Ao17 y129.length co17, v133, v136) _ ⟨hHeld, (by (with_reducible repeat (first | apply Kd.R_alloc | apply Kd.R_drewN | apply Kd.R_drew)); exact Kd.R_mono HO128.out (fun _ hk => ⟨hk.1.1, ⟨hk.1.2, hk.2⟩⟩)), (by (with_reducible repeat (first | apply Kd.R_alloc | apply Kd.R_drewN | apply Kd.R_drew)); exact Kd.R_mono HO134.out (fun _ hk => ⟨hk.1.1, ⟨hk.1.2, hk.2⟩⟩)), (by (with_reducible repeat (first | apply Kd.R_alloc | apply Kd.R_drewN | apply Kd.R_drew)); exact Kd.R_mono HO137.out (fun _ hk => ⟨hk.1.1.1, ⟨hk.1.2, hk.2⟩⟩)), (bK), (kP), (bB)⟩)
       ·skip
        refine Kd.R_lit_step (Kd.int .u8) _ 5 ?hg (N := 20) ?hd (xs := ([41] : List Int)) (inner := [.int .u8 41]) (ok := fun _ => True) (okp := fun _ => True) ?hr ?hp (fun _ hk => hk) trivial (Below.refl _ _) (Nat.le_refl _) (by simp) ?_; (case hd => rfl); (case hg => rfl); (case hr => first | (go_simp; done) | (go_simp; rfl)); (case hp => exact (Reps.one (show Kd.M (Kd.int .u8) _ _ _ 41 [.int .u8 41] from rfl) (Reps.none _ _)))
        intro v136 w17 ho18 hb hg_ hnew_
        clear hg_ hnew_
        (first | rw [← Ny135.out] at ho18 | (simp only [Int.reduceToNat] at ho18; rw [← Ny135.out] at ho18))
        have n0_ := Aside0.mk (Kd.R_elder' (by (with_reducible repeat (first | apply Kd.R_alloc | apply Kd.R_drewN | apply Kd.R_drew)); exact HO128.out) (Kd.R_base ho18) hb)
        have n1_ := Aside0.mk (Kd.R_elder' (by (with_reducible repeat (first | apply Kd.R_alloc | apply Kd.R_drewN | apply Kd.R_drew)); exact HO131.out) (Kd.R_base ho18) hb)
        have n2_ := Aside0.mk (Kd.R_lower (Kd.R_new' (Kd.R_new' (Kd.R_newM (M := fun k_ => (P0_ k_ ∨ w.heap.size ≤ k_)) ho18 (by first | exact HK.out.1 | exact (show Kept w _ (fun k_ => P0_ k_) from kP).1) (fun k_ h_ => .inr h_)) (Kd.R_lt (by (with_reducible repeat (first | apply Kd.R_alloc | apply Kd.R_drewN | apply Kd.R_drew)); exact HO128.out))) (Kd.R_lt (by (with_reducible repeat (first | apply Kd.R_alloc | apply Kd.R_drewN | apply Kd.R_drew)); exact HO131.out))) (below_size (bB)))
        have n3_ := Aside0.mk (blk_below (g := gb124) (o := .cells #[.int .i64 a1_0, .int .i64 a1_1, .slice A1_2 l1_2.length c1_2] 24 (0, 0)) (bK) hb)
        have n4_ := Aside0.mk (Kept.below (S := (fun k_ => P0_ k_)) (kP) hb)
        have n5_ := Aside0.mk (below_step (bB) hb)
        clear HO128
        clear HO131
        clear BK124
        clear HK
        clear HB
        have HO128 := n0_
        have HO131 := n1_
        have HO137 := n2_
        have BK124 := n3_
        have HK := n4_
        have HB := n5_
        clear n0_ n1_ n2_ n3_ n4_ n5_
        clear hb ho18
        obtain ⟨Ao19, co19, eo19⟩ := Kd.R_slice HO131.out
        (first | subst eo19 | (injection eo19 with f1_ f2_ f3_; have f4_ := f1_.symm; have f5_ := f3_.symm; clear f1_ f2_ f3_; subst f4_; subst f5_))
        refine hK.out _ _ ⟨(blk_cell BK124.out 0).trans rfl, (blk_cell BK124.out 1).trans rfl, (blk_cell BK124.out 2).trans rfl⟩ (fun hHeld => ?_)
        clear hK K
        refine norm_ (a' := ?_) ?_ ?_
        rotate_left
        ·show Act.put _ (some 20) _ = _
         simp only [Act.put, List.setIfInBounds_toArray, List.set_cons_zero, List.set_cons_succ, i64_w, i32_w]
         rfl
        refine one_ (i := 4) (N := some 19) #[true, true, true, true, true, true, false, false] rfl rfl (one_of HT_.out (by kernel_rfl)) (by decide) (fun K hK => ?_)
        refine goes_ Try.func47 (by kernel_rfl) rfl #[.slice Ao19 y129.length co19, .agg #[.int .i64 a1_0, .int .i64 a1_1, .slice A1_2 l1_2.length c1_2], .int .i64 0] (by rfl) rfl rfl (by (try simp only [List.map_toArray, List.map_cons, List.map_nil]); first | done | rfl | (simp only [List.length_drop, List.length_take]; rfl)) ?_
        with_reducible refine (ih k (by omega) (fun k_ => some k_ = (.slice Ao19 y129.length co19 : Value).ownBlock) (.slice Ao19 y129.length co19) y129 a1_0 a1_1 _ _ l1_2 0 t132 w0 _ ?side1 ?side2 ?side3 ?side4 A7.out).mono ?_
        (case side1 => repeat (first | (with_reducible first | exact HB.out | apply below_alloc | apply pw_below_drewN | apply below_drew1 | refine below_set ?_ GE124.out) | exact HB.out))
        (case side2 => exact Kd.R_tight rfl HO131.out)
        (case side3 => exact Kd.C_kept_call HR1_2.out (kP) (fun k_ hs_ => (fun e_ => (HO131.out.1 k_ e_.symm).1.1) hs_))
        (case side4 => exact HC1_2.out)
        rintro e w20 ⟨v133, rfl, ho0, hb, hkp⟩
        refine ⟨_, rfl, ?_⟩
        have n0_ := Aside0.mk (blk_kept (bK) hkp (fun hs_ => (fun e_ => (Kd.R_ne HO131.out BK124.out (by decide)) e_) hs_))
        have n1_ := Aside0.mk (Kd.R_mono (ok' := fun k_ => (P0_ k_ ∨ w.heap.size ≤ k_) ∧ some k_ ≠ (v136 : Value).ownBlock ∧ some k_ ≠ (v133 : Value).ownBlock) (Kd.R_keptB (HO128.out) hkp (fun k_ hk_ hs_ => (hk_.1.2) hs_)) (fun k_ hk_ => ⟨hk_.1.1.1, hk_.1.2, fun e_ => Or.elim (ho0.1 k_ e_.symm) (fun hs_ => hk_.2.1 hs_) (fun hn_ => Nat.not_le.2 hk_.2.2 hn_)⟩))
        have n2_ := Aside0.mk (Kd.R_mono (ok' := fun k_ => (P0_ k_ ∨ w.heap.size ≤ k_) ∧ some k_ ≠ (.slice Ao16 y126.length co16 : Value).ownBlock ∧ some k_ ≠ (v133 : Value).ownBlock) (Kd.R_keptB (HO137.out) hkp (fun k_ hk_ hs_ => (hk_.2) hs_)) (fun k_ hk_ => ⟨hk_.1.1.1.1, hk_.1.1.2, fun e_ => Or.elim (ho0.1 k_ e_.symm) (fun hs_ => hk_.2.1 hs_) (fun hn_ => Nat.not_le.2 hk_.2.2 hn_)⟩))
        have n3_ := Aside0.mk (Kd.R_mono (ok' := fun k_ => (P0_ k_ ∨ w.heap.size ≤ k_) ∧ some k_ ≠ (.slice Ao16 y126.length co16 : Value).ownBlock ∧ some k_ ≠ (v136 : Value).ownBlock) ho0 (fun k_ hk_ => ⟨Or.elim hk_ (fun hs_ => (HO131.out.1 k_ (hs_).symm).1.1) (fun hn_ => (.inr (Nat.le_trans (by first | exact HK.out.1 | exact (show Kept w _ (fun k_ => P0_ k_) from kP).1) hn_))), Or.elim hk_ (fun hs_ => fun e_ => (((HO128.out).1 k_ e_.symm).1.2) hs_) (fun hn_ => (Kd.fresh' (Kd.R_lt (by (with_reducible repeat (first | apply Kd.R_alloc | apply Kd.R_drewN | apply Kd.R_drew)); exact HO128.out)) k_ hn_)), Or.elim hk_ (fun hs_ => fun e_ => (((HO137.out).1 k_ e_.symm).2) hs_) (fun hn_ => (Kd.fresh' (Kd.R_lt (by (with_reducible repeat (first | apply Kd.R_alloc | apply Kd.R_drewN | apply Kd.R_drew)); exact HO137.out)) k_ hn_))⟩))
        have n4_ := Aside0.mk (Kept.then_ (S := (fun k_ => P0_ k_)) (kP) hkp (fun k_ hs_ => (fun e_ => (HO131.out.1 k_ e_.symm).1.1) hs_))
        have n5_ := Aside0.mk (hb)
        clear BK124
        clear HO128
        clear HO137
        clear HK
        clear HB
        clear HO131
        have BK124 := n0_
        have HO128 := n1_
        have HO137 := n2_
        have HO134 := n3_
        have HK := n4_
        have HB := n5_
        clear n0_ n1_ n2_ n3_ n4_ n5_
        (try clear hb)
        (try clear hkp)
        (try clear ho0)
        refine hK.out _ _ ⟨(blk_cell BK124.out 0).trans rfl, (blk_cell BK124.out 1).trans rfl, (blk_cell BK124.out 2).trans rfl⟩ (fun hHeld => ?_)
        clear hK K
        refine norm_ (a' := ?_) ?_ ?_
        rotate_left
        ·show Act.put _ (some 19) _ = _
         simp only [Act.put, List.setIfInBounds_toArray, List.set_cons_zero, List.set_cons_succ, i64_w, i32_w]
         rfl
        exact norm_ (by simp only [putAll, Act.put, List.setIfInBounds_toArray, List.set_cons_zero, List.set_cons_succ]) (hCont (.slice Ao16 y126.length co16, .slice Ao19 y129.length co19, v133, v136) _ ⟨hHeld, (by (with_reducible repeat (first | apply Kd.R_alloc | apply Kd.R_drewN | apply Kd.R_drew)); exact Kd.R_mono HO128.out (fun _ hk => ⟨hk.1, ⟨hk.2.2, hk.2.1⟩⟩)), (by (with_reducible repeat (first | apply Kd.R_alloc | apply Kd.R_drewN | apply Kd.R_drew)); exact HO134.out), (by (with_reducible repeat (first | apply Kd.R_alloc | apply Kd.R_drewN | apply Kd.R_drew)); exact HO137.out), (bK), (kP), (bB)⟩)
      ·skip
       refine Kd.R_lit_step (Kd.int .u8) _ 5 ?hg (N := 20) ?hd (xs := ([41] : List Int)) (inner := [.int .u8 41]) (ok := fun _ => True) (okp := fun _ => True) ?hr ?hp (fun _ hk => hk) trivial (Below.refl _ _) (Nat.le_refl _) (by simp) ?_; (case hd => rfl); (case hg => rfl); (case hr => first | (go_simp; done) | (go_simp; rfl)); (case hp => exact (Reps.one (show Kd.M (Kd.int .u8) _ _ _ 41 [.int .u8 41] from rfl) (Reps.none _ _)))
       intro v136 w15 ho16 hb hg_ hnew_
       clear hg_ hnew_
       (first | rw [← Ny135.out] at ho16 | (simp only [Int.reduceToNat] at ho16; rw [← Ny135.out] at ho16))
       have n0_ := Aside0.mk (Kd.R_elder' (by (with_reducible repeat (first | apply Kd.R_alloc | apply Kd.R_drewN | apply Kd.R_drew)); exact HO0.out) (Kd.R_base ho16) hb)
       have n1_ := Aside0.mk (Kd.R_elder' (by (with_reducible repeat (first | apply Kd.R_alloc | apply Kd.R_drewN | apply Kd.R_drew)); exact HO128.out) (Kd.R_base ho16) hb)
       have n2_ := Aside0.mk (Kd.R_lower (Kd.R_new' (Kd.R_new' (Kd.R_newM (M := fun k_ => (P0_ k_ ∨ w.heap.size ≤ k_)) ho16 (by first | exact HK.out.1 | exact (show Kept w _ (fun k_ => P0_ k_) from kP).1) (fun k_ h_ => .inr h_)) (Kd.R_lt (by (with_reducible repeat (first | apply Kd.R_alloc | apply Kd.R_drewN | apply Kd.R_drew)); exact HO0.out))) (Kd.R_lt (by (with_reducible repeat (first | apply Kd.R_alloc | apply Kd.R_drewN | apply Kd.R_drew)); exact HO128.out))) (below_size (bB)))
       have n3_ := Aside0.mk (blk_below (g := gb124) (o := .cells #[.int .i64 a1_0, .int .i64 a1_1, .slice A1_2 l1_2.length c1_2] 24 (0, 0)) (bK) hb)
       have n4_ := Aside0.mk (Kept.below (S := (fun k_ => P0_ k_)) (kP) hb)
       have n5_ := Aside0.mk (below_step (bB) hb)
       clear HO0
       clear HO128
       clear BK124
       clear HK
       clear HB
       have HO0 := n0_
       have HO128 := n1_
       have HO137 := n2_
       have BK124 := n3_
       have HK := n4_
       have HB := n5_
       clear n0_ n1_ n2_ n3_ n4_ n5_
       clear hb ho16
       obtain ⟨Ao18, co18, eo18⟩ := Kd.R_slice HO128.out
       (first | subst eo18 | (injection eo18 with f1_ f2_ f3_; have f4_ := f1_.symm; have f5_ := f3_.symm; clear f1_ f2_ f3_; subst f4_; subst f5_))
       refine hK.out _ _ ⟨(blk_cell BK124.out 0).trans rfl, (blk_cell BK124.out 1).trans rfl, (blk_cell BK124.out 2).trans rfl⟩ (fun hHeld => ?_)
       clear hK K
       refine norm_ (a' := ?_) ?_ ?_
       rotate_left
       ·show Act.put _ (some 20) _ = _
        simp only [Act.put, List.setIfInBounds_toArray, List.set_cons_zero, List.set_cons_succ, i64_w, i32_w]
        rfl
       refine one_ (i := 2) (N := some 17) #[true, true, true, true, false, true, false, false] rfl rfl (one_of HT_.out (by kernel_rfl)) (by decide) (fun K hK => ?_)
       refine Kd.R_append_rows_step (Kd.int .u8) (w0 := w0) w0.heap.size (by rfl) (.tmp 15) (.tmp 16) 43 5 (.int .u8 0) 1 rfl Try.underlying43 info5 rfl (by decide) (by omega) (.slice Ao11 l0.length co11) l0 y126 _ _ _ (fun k_ => (P0_ k_ ∨ w.heap.size ≤ k_) ∧ some k_ ≠ (.slice Ao18 y126.length co18 : Value).ownBlock ∧ some k_ ≠ (v136 : Value).ownBlock) (fun _ => False) rfl rfl ?aO ?aR (fun _ _ h => h) (fun _ h => h.elim) ?aF ?aB ?aS ?aL ?_
       (case aR => repeat (first | exact (Kd.R_reads' HO128.out).2.2 | (with_reducible refine Kd.C_alloc ?_ _) | (with_reducible refine Kd.C_drewN ?_ _) | (with_reducible refine Kd.C_drew ?_)))
       (case aB => exact (bB))
       (case aF => exact (fun k_ hk => ⟨(.inr (Nat.le_trans (by first | exact HK.out.1 | exact (show Kept w _ (fun k_ => P0_ k_) from kP).1) hk)), Kd.fresh' (Kd.R_lt (by (with_reducible repeat (first | apply Kd.R_alloc | apply Kd.R_drewN | apply Kd.R_drew)); exact HO128.out)) k_ hk, Kd.fresh' (Kd.R_lt (by (with_reducible repeat (first | apply Kd.R_alloc | apply Kd.R_drewN | apply Kd.R_drew)); exact HO137.out)) k_ hk⟩))
       (case aO => exact (by (with_reducible repeat (first | apply Kd.R_alloc | apply Kd.R_drewN | apply Kd.R_drew)); exact Kd.R_mono HO0.out (fun _ hk => ⟨hk.1.1, ⟨hk.1.2, hk.2⟩⟩)))
       (case aS => exact (below_size (bB)))
       (case aL => have := LMc6.out; omega)
       intro v130 w17 ho hb hg hat
       rw [← Ny129.out] at ho
       have n0_ := Aside0.mk (blk_grown (g := gb124) (o := .cells #[.int .i64 a1_0, .int .i64 a1_1, .slice A1_2 l1_2.length c1_2] 24 (0, 0)) (bK) hg (Kd.R_ne HO0.out BK124.out (by decide)))
       have n1_ := Aside0.mk (Kd.R_after (ok := (fun k_ => (P0_ k_ ∨ w.heap.size ≤ k_) ∧ some k_ ≠ (v136 : Value).ownBlock)) (by (with_reducible repeat (first | apply Kd.R_alloc | apply Kd.R_drewN | apply Kd.R_drew)); exact Kd.R_mono HO128.out (fun _ hk => ⟨⟨hk.1.1.1, hk.2⟩, hk.1.2⟩)) hg hat)
       have n2_ := Aside0.mk (Kd.R_after (ok := (fun k_ => (P0_ k_ ∨ w.heap.size ≤ k_) ∧ some k_ ≠ (.slice Ao18 y126.length co18 : Value).ownBlock)) (by (with_reducible repeat (first | apply Kd.R_alloc | apply Kd.R_drewN | apply Kd.R_drew)); exact Kd.R_mono HO137.out (fun _ hk => ⟨⟨hk.1.1.1, hk.2⟩, hk.1.2⟩)) hg hat)
       have n3_ := Aside0.mk (hb)
       have n4_ := Aside0.mk (Kept.of_grown (S := (fun k_ => P0_ k_)) hg (kP) (fun k_ e_ => (HO0.out.1 k_ e_).1.1))
       have n5_ := Aside0.mk (ho)
       clear BK124
       clear HO128
       clear HO137
       clear HB
       clear HK
       clear HO0
       have BK124 := n0_
       have HO128 := n1_
       have HO137 := n2_
       have HB := n3_
       have HK := n4_
       have HO131 := n5_
       clear n0_ n1_ n2_ n3_ n4_ n5_
       clear ho hb hg hat
       obtain ⟨Ao19, co19, eo19⟩ := Kd.R_slice HO131.out
       (first | subst eo19 | (injection eo19 with f1_ f2_ f3_; have f4_ := f1_.symm; have f5_ := f3_.symm; clear f1_ f2_ f3_; subst f4_; subst f5_))
       refine hK.out _ _ ⟨(blk_cell BK124.out 0).trans rfl, (blk_cell BK124.out 1).trans rfl, (blk_cell BK124.out 2).trans rfl⟩ (fun hHeld => ?_)
       clear hK K
       refine norm_ (a' := ?_) ?_ ?_
       rotate_left
       ·show Act.put _ (some 17) _ = _
        simp only [Act.put, List.setIfInBounds_toArray, List.set_cons_zero, List.set_cons_succ, i64_w, i32_w]
        rfl
       refine one_ (i := 4) (N := some 19) #[true, true, true, true, true, true, false, false] rfl rfl (one_of HT_.out (by kernel_rfl)) (by decide) (fun K hK => ?_)
       refine goes_ Try.func47 (by kernel_rfl) rfl #[.slice Ao19 y129.length co19, .agg #[.int .i64 a1_0, .int .i64 a1_1, .slice A1_2 l1_2.length c1_2], .int .i64 0] (by rfl) rfl rfl (by (try simp only [List.map_toArray, List.map_cons, List.map_nil]); first | done | rfl | (simp only [List.length_drop, List.length_take]; rfl)) ?_
       with_reducible refine (ih k (by omega) (fun k_ => some k_ = (.slice Ao19 y129.length co19 : Value).ownBlock) (.slice Ao19 y129.length co19) y129 a1_0 a1_1 _ _ l1_2 0 t132 w0 _ ?side1 ?side2 ?side3 ?side4 A7.out).mono ?_
       (case side1 => repeat (first | (with_reducible first | exact HB.out | apply below_alloc | apply pw_below_drewN | apply below_drew1 | refine below_set ?_ GE124.out) | exact HB.out))
       (case side2 => exact Kd.R_tight rfl HO131.out)
       (case side3 => exact Kd.C_kept_call HR1_2.out (kP) (fun k_ hs_ => (fun e_ => (HO131.out.1 k_ e_.symm).1) hs_))
       (case side4 => exact HC1_2.out)
       rintro e w20 ⟨v133, rfl, ho0, hb, hkp⟩
       refine ⟨_, rfl, ?_⟩
       have n0_ := Aside0.mk (blk_kept (bK) hkp (fun hs_ => (fun e_ => (Kd.R_ne HO131.out BK124.out (by decide)) e_) hs_))
       have n1_ := Aside0.mk (Kd.R_mono (ok' := fun k_ => (P0_ k_ ∨ w.heap.size ≤ k_) ∧ some k_ ≠ (v136 : Value).ownBlock ∧ some k_ ≠ (v133 : Value).ownBlock) (Kd.R_keptB (HO128.out) hkp (fun k_ hk_ hs_ => (hk_.2) hs_)) (fun k_ hk_ => ⟨hk_.1.1.1, hk_.1.1.2, fun e_ => Or.elim (ho0.1 k_ e_.symm) (fun hs_ => hk_.2.1 hs_) (fun hn_ => Nat.not_le.2 hk_.2.2 hn_)⟩))
       have n2_ := Aside0.mk (Kd.R_mono (ok' := fun k_ => (P0_ k_ ∨ w.heap.size ≤ k_) ∧ some k_ ≠ (.slice Ao18 y126.length co18 : Value).ownBlock ∧ some k_ ≠ (v133 : Value).ownBlock) (Kd.R_keptB (HO137.out) hkp (fun k_ hk_ hs_ => (hk_.2) hs_)) (fun k_ hk_ => ⟨hk_.1.1.1, hk_.1.1.2, fun e_ => Or.elim (ho0.1 k_ e_.symm) (fun hs_ => hk_.2.1 hs_) (fun hn_ => Nat.not_le.2 hk_.2.2 hn_)⟩))
       have n3_ := Aside0.mk (Kd.R_mono (ok' := fun k_ => (P0_ k_ ∨ w.heap.size ≤ k_) ∧ some k_ ≠ (.slice Ao18 y126.length co18 : Value).ownBlock ∧ some k_ ≠ (v136 : Value).ownBlock) ho0 (fun k_ hk_ => ⟨Or.elim hk_ (fun hs_ => (HO131.out.1 k_ (hs_).symm).1) (fun hn_ => (.inr (Nat.le_trans (by first | exact HK.out.1 | exact (show Kept w _ (fun k_ => P0_ k_) from kP).1) hn_))), Or.elim hk_ (fun hs_ => fun e_ => (((HO128.out).1 k_ e_.symm).2) hs_) (fun hn_ => (Kd.fresh' (Kd.R_lt (by (with_reducible repeat (first | apply Kd.R_alloc | apply Kd.R_drewN | apply Kd.R_drew)); exact HO128.out)) k_ hn_)), Or.elim hk_ (fun hs_ => fun e_ => (((HO137.out).1 k_ e_.symm).2) hs_) (fun hn_ => (Kd.fresh' (Kd.R_lt (by (with_reducible repeat (first | apply Kd.R_alloc | apply Kd.R_drewN | apply Kd.R_drew)); exact HO137.out)) k_ hn_))⟩))
       have n4_ := Aside0.mk (Kept.then_ (S := (fun k_ => P0_ k_)) (kP) hkp (fun k_ hs_ => (fun e_ => (HO131.out.1 k_ e_.symm).1) hs_))
       have n5_ := Aside0.mk (hb)
       clear BK124
       clear HO128
       clear HO137
       clear HK
       clear HB
       clear HO131
       have BK124 := n0_
       have HO128 := n1_
       have HO137 := n2_
       have HO134 := n3_
       have HK := n4_
       have HB := n5_
       clear n0_ n1_ n2_ n3_ n4_ n5_
       (try clear hb)
       (try clear hkp)
       (try clear ho0)
       refine hK.out _ _ ⟨(blk_cell BK124.out 0).trans rfl, (blk_cell BK124.out 1).trans rfl, (blk_cell BK124.out 2).trans rfl⟩ (fun hHeld => ?_)
       clear hK K
       refine norm_ (a' := ?_) ?_ ?_
       rotate_left
       ·show Act.put _ (some 19) _ = _
        simp only [Act.put, List.setIfInBounds_toArray, List.set_cons_zero, List.set_cons_succ, i64_w, i32_w]
        rfl
       exact norm_ (by simp only [putAll, Act.put, List.setIfInBounds_toArray, List.set_cons_zero, List.set_cons_succ]) (hCont (.slice Ao18 y126.length co18, .slice Ao19 y129.length co19, v133, v136) _ ⟨hHeld, (by (with_reducible repeat (first | apply Kd.R_alloc | apply Kd.R_drewN | apply Kd.R_drew)); exact Kd.R_mono HO128.out (fun _ hk => ⟨hk.1, ⟨hk.2.2, hk.2.1⟩⟩)), (by (with_reducible repeat (first | apply Kd.R_alloc | apply Kd.R_drewN | apply Kd.R_drew)); exact HO134.out), (by (with_reducible repeat (first | apply Kd.R_alloc | apply Kd.R_drewN | apply Kd.R_drew)); exact HO137.out), (bK), (kP), (bB)⟩)
     ·skip
      refine Kd.R_lit_step (Kd.int .u8) _ 5 ?hg (N := 20) ?hd (xs := ([41] : List Int)) (inner := [.int .u8 41]) (ok := fun _ => True) (okp := fun _ => True) ?hr ?hp (fun _ hk => hk) trivial (Below.refl _ _) (Nat.le_refl _) (by simp) ?_; (case hd => rfl); (case hg => rfl); (case hr => first | (go_simp; done) | (go_simp; rfl)); (case hp => exact (Reps.one (show Kd.M (Kd.int .u8) _ _ _ 41 [.int .u8 41] from rfl) (Reps.none _ _)))
      intro v136 w13 ho14 hb hg_ hnew_
      clear hg_ hnew_
      (first | rw [← Ny135.out] at ho14 | (simp only [Int.reduceToNat] at ho14; rw [← Ny135.out] at ho14))
      have n0_ := Aside0.mk (Kd.R_elder' (by (with_reducible repeat (first | apply Kd.R_alloc | apply Kd.R_drewN | apply Kd.R_drew)); exact HO0.out) (Kd.R_base ho14) hb)
      have n1_ := Aside0.mk (Kd.R_lower (Kd.R_new' (Kd.R_newM (M := fun k_ => (P0_ k_ ∨ w.heap.size ≤ k_)) ho14 (by first | exact HK.out.1 | exact (show Kept w _ (fun k_ => P0_ k_) from kP).1) (fun k_ h_ => .inr h_)) (Kd.R_lt (by (with_reducible repeat (first | apply Kd.R_alloc | apply Kd.R_drewN | apply Kd.R_drew)); exact HO0.out))) (below_size (bB)))
      have n2_ := Aside0.mk (blk_below (g := gb124) (o := .cells #[.int .i64 a1_0, .int .i64 a1_1, .slice A1_2 l1_2.length c1_2] 24 (0, 0)) (bK) hb)
      have n3_ := Aside0.mk (Kept.below (S := (fun k_ => P0_ k_)) (kP) hb)
      have n4_ := Aside0.mk (below_step (bB) hb)
      clear HO0
      clear BK124
      clear HK
      clear HB
      have HO0 := n0_
      have HO137 := n1_
      have BK124 := n2_
      have HK := n3_
      have HB := n4_
      clear n0_ n1_ n2_ n3_ n4_
      clear hb ho14
      refine hK.out _ _ ⟨(blk_cell BK124.out 0).trans rfl, (blk_cell BK124.out 1).trans rfl, (blk_cell BK124.out 2).trans rfl⟩ (fun hHeld => ?_)
      clear hK K
      refine norm_ (a' := ?_) ?_ ?_
      rotate_left
      ·show Act.put _ (some 20) _ = _
       simp only [Act.put, List.setIfInBounds_toArray, List.set_cons_zero, List.set_cons_succ, i64_w, i32_w]
       rfl
      refine one_ (i := 1) (N := some 16) #[true, true, false, true, false, true, false, false] rfl rfl (one_of HT_.out (by kernel_rfl)) (by decide) (fun K hK => ?_)
      refine Kd.R_lit_step (Kd.int .u8) _ 5 ?hg (N := 16) ?hd (xs := ([40] : List Int)) (inner := [.int .u8 40]) (ok := fun _ => True) (okp := fun _ => True) ?hr ?hp (fun _ hk => hk) trivial (Below.refl _ _) (Nat.le_refl _) (by simp) ?_; (case hd => rfl); (case hg => rfl); (case hr => first | (go_simp; done) | (go_simp; rfl)); (case hp => exact (Reps.one (show Kd.M (Kd.int .u8) _ _ _ 40 [.int .u8 40] from rfl) (Reps.none _ _)))
      intro v127 w15 ho16 hb hg_ hnew_
      clear hg_ hnew_
      (first | rw [← Ny126.out] at ho16 | (simp only [Int.reduceToNat] at ho16; rw [← Ny126.out] at ho16))
      have n0_ := Aside0.mk (Kd.R_elder' (by (with_reducible repeat (first | apply Kd.R_alloc | apply Kd.R_drewN | apply Kd.R_drew)); exact HO0.out) (Kd.R_base ho16) hb)
      have n1_ := Aside0.mk (Kd.R_elder' (by (with_reducible repeat (first | apply Kd.R_alloc | apply Kd.R_drewN | apply Kd.R_drew)); exact HO137.out) (Kd.R_base ho16) hb)
      have n2_ := Aside0.mk (Kd.R_lower (Kd.R_new' (Kd.R_new' (Kd.R_newM (M := fun k_ => (P0_ k_ ∨ w.heap.size ≤ k_)) ho16 (by first | exact HK.out.1 | exact (show Kept w _ (fun k_ => P0_ k_) from kP).1) (fun k_ h_ => .inr h_)) (Kd.R_lt (by (with_reducible repeat (first | apply Kd.R_alloc | apply Kd.R_drewN | apply Kd.R_drew)); exact HO0.out))) (Kd.R_lt (by (with_reducible repeat (first | apply Kd.R_alloc | apply Kd.R_drewN | apply Kd.R_drew)); exact HO137.out))) (below_size (bB)))
      have n3_ := Aside0.mk (blk_below (g := gb124) (o := .cells #[.int .i64 a1_0, .int .i64 a1_1, .slice A1_2 l1_2.length c1_2] 24 (0, 0)) (bK) hb)
      have n4_ := Aside0.mk (Kept.below (S := (fun k_ => P0_ k_)) (kP) hb)
      have n5_ := Aside0.mk (below_step (bB) hb)
      clear HO0
      clear HO137
      clear BK124
      clear HK
      clear HB
      have HO0 := n0_
      have HO137 := n1_
      have HO128 := n2_
      have BK124 := n3_
      have HK := n4_
      have HB := n5_
      clear n0_ n1_ n2_ n3_ n4_ n5_
      clear hb ho16
      obtain ⟨Ao18, co18, eo18⟩ := Kd.R_slice HO128.out
      (first | subst eo18 | (injection eo18 with f1_ f2_ f3_; have f4_ := f1_.symm; have f5_ := f3_.symm; clear f1_ f2_ f3_; subst f4_; subst f5_))
      refine hK.out _ _ ⟨(blk_cell BK124.out 0).trans rfl, (blk_cell BK124.out 1).trans rfl, (blk_cell BK124.out 2).trans rfl⟩ (fun hHeld => ?_)
      clear hK K
      refine norm_ (a' := ?_) ?_ ?_
      rotate_left
      ·show Act.put _ (some 16) _ = _
       simp only [Act.put, List.setIfInBounds_toArray, List.set_cons_zero, List.set_cons_succ, i64_w, i32_w]
       rfl
      refine one_ (i := 2) (N := some 17) #[true, true, true, true, false, true, false, false] rfl rfl (one_of HT_.out (by kernel_rfl)) (by decide) (fun K hK => ?_)
      refine Kd.R_append_rows_step (Kd.int .u8) (w0 := w0) w0.heap.size (by rfl) (.tmp 15) (.tmp 16) 43 5 (.int .u8 0) 1 rfl Try.underlying43 info5 rfl (by decide) (by omega) (.slice Ao11 l0.length co11) l0 y126 _ _ _ (fun k_ => (P0_ k_ ∨ w.heap.size ≤ k_) ∧ some k_ ≠ (v136 : Value).ownBlock ∧ some k_ ≠ (.slice Ao18 y126.length co18 : Value).ownBlock) (fun _ => False) rfl rfl ?aO ?aR (fun _ _ h => h) (fun _ h => h.elim) ?aF ?aB ?aS ?aL ?_
      (case aR => repeat (first | exact (Kd.R_reads' HO128.out).2.2 | (with_reducible refine Kd.C_alloc ?_ _) | (with_reducible refine Kd.C_drewN ?_ _) | (with_reducible refine Kd.C_drew ?_)))
      (case aB => exact (bB))
      (case aF => exact (fun k_ hk => ⟨(.inr (Nat.le_trans (by first | exact HK.out.1 | exact (show Kept w _ (fun k_ => P0_ k_) from kP).1) hk)), Kd.fresh' (Kd.R_lt (by (with_reducible repeat (first | apply Kd.R_alloc | apply Kd.R_drewN | apply Kd.R_drew)); exact HO137.out)) k_ hk, Kd.fresh' (Kd.R_lt (by (with_reducible repeat (first | apply Kd.R_alloc | apply Kd.R_drewN | apply Kd.R_drew)); exact HO128.out)) k_ hk⟩))
      (case aO => exact (by (with_reducible repeat (first | apply Kd.R_alloc | apply Kd.R_drewN | apply Kd.R_drew)); exact Kd.R_mono HO0.out (fun _ hk => ⟨hk.1.1, ⟨hk.1.2, hk.2⟩⟩)))
      (case aS => exact (below_size (bB)))
      (case aL => have := LMc6.out; omega)
      intro v130 w17 ho hb hg hat
      rw [← Ny129.out] at ho
      have n0_ := Aside0.mk (blk_grown (g := gb124) (o := .cells #[.int .i64 a1_0, .int .i64 a1_1, .slice A1_2 l1_2.length c1_2] 24 (0, 0)) (bK) hg (Kd.R_ne HO0.out BK124.out (by decide)))
      have n1_ := Aside0.mk (Kd.R_after (ok := (fun k_ => (P0_ k_ ∨ w.heap.size ≤ k_) ∧ some k_ ≠ (.slice Ao18 y126.length co18 : Value).ownBlock)) (by (with_reducible repeat (first | apply Kd.R_alloc | apply Kd.R_drewN | apply Kd.R_drew)); exact Kd.R_mono HO137.out (fun _ hk => ⟨⟨hk.1.1.1, hk.2⟩, hk.1.2⟩)) hg hat)
      have n2_ := Aside0.mk (Kd.R_after (ok := (fun k_ => (P0_ k_ ∨ w.heap.size ≤ k_) ∧ some k_ ≠ (v136 : Value).ownBlock)) (by (with_reducible repeat (first | apply Kd.R_alloc | apply Kd.R_drewN | apply Kd.R_drew)); exact Kd.R_mono HO128.out (fun _ hk => ⟨⟨hk.1.1.1, hk.2⟩, hk.1.2⟩)) hg hat)
      have n3_ := Aside0.mk (hb)
      have n4_ := Aside0.mk (Kept.of_grown (S := (fun k_ => P0_ k_)) hg (kP) (fun k_ e_ => (HO0.out.1 k_ e_).1.1))
      have n5_ := Aside0.mk (ho)
      clear BK124
      clear HO137
      clear HO128
      clear HB
      clear HK
      clear HO0
      have BK124 := n0_
      have HO137 := n1_
      have HO128 := n2_
      have HB := n3_
      have HK := n4_
      have HO131 := n5_
      clear n0_ n1_ n2_ n3_ n4_ n5_
      clear ho hb hg hat
      obtain ⟨Ao19, co19, eo19⟩ := Kd.R_slice HO131.out
      (first | subst eo19 | (injection eo19 with f1_ f2_ f3_; have f4_ := f1_.symm; have f5_ := f3_.symm; clear f1_ f2_ f3_; subst f4_; subst f5_))
      refine hK.out _ _ ⟨(blk_cell BK124.out 0).trans rfl, (blk_cell BK124.out 1).trans rfl, (blk_cell BK124.out 2).trans rfl⟩ (fun hHeld => ?_)
      clear hK K
      refine norm_ (a' := ?_) ?_ ?_
      rotate_left
      ·show Act.put _ (some 17) _ = _
       simp only [Act.put, List.setIfInBounds_toArray, List.set_cons_zero, List.set_cons_succ, i64_w, i32_w]
       rfl
      refine one_ (i := 4) (N := some 19) #[true, true, true, true, true, true, false, false] rfl rfl (one_of HT_.out (by kernel_rfl)) (by decide) (fun K hK => ?_)
      refine goes_ Try.func47 (by kernel_rfl) rfl #[.slice Ao19 y129.length co19, .agg #[.int .i64 a1_0, .int .i64 a1_1, .slice A1_2 l1_2.length c1_2], .int .i64 0] (by rfl) rfl rfl (by (try simp only [List.map_toArray, List.map_cons, List.map_nil]); first | done | rfl | (simp only [List.length_drop, List.length_take]; rfl)) ?_
      with_reducible refine (ih k (by omega) (fun k_ => some k_ = (.slice Ao19 y129.length co19 : Value).ownBlock) (.slice Ao19 y129.length co19) y129 a1_0 a1_1 _ _ l1_2 0 t132 w0 _ ?side1 ?side2 ?side3 ?side4 A7.out).mono ?_
      (case side1 => repeat (first | (with_reducible first | exact HB.out | apply below_alloc | apply pw_below_drewN | apply below_drew1 | refine below_set ?_ GE124.out) | exact HB.out))
      (case side2 => exact Kd.R_tight rfl HO131.out)
      (case side3 => exact Kd.C_kept_call HR1_2.out (kP) (fun k_ hs_ => (fun e_ => (HO131.out.1 k_ e_.symm).1) hs_))
      (case side4 => exact HC1_2.out)
      rintro e w20 ⟨v133, rfl, ho0, hb, hkp⟩
      refine ⟨_, rfl, ?_⟩
      have n0_ := Aside0.mk (blk_kept (bK) hkp (fun hs_ => (fun e_ => (Kd.R_ne HO131.out BK124.out (by decide)) e_) hs_))
      have n1_ := Aside0.mk (Kd.R_mono (ok' := fun k_ => (P0_ k_ ∨ w.heap.size ≤ k_) ∧ some k_ ≠ (.slice Ao18 y126.length co18 : Value).ownBlock ∧ some k_ ≠ (v133 : Value).ownBlock) (Kd.R_keptB (HO137.out) hkp (fun k_ hk_ hs_ => (hk_.2) hs_)) (fun k_ hk_ => ⟨hk_.1.1.1, hk_.1.1.2, fun e_ => Or.elim (ho0.1 k_ e_.symm) (fun hs_ => hk_.2.1 hs_) (fun hn_ => Nat.not_le.2 hk_.2.2 hn_)⟩))
      have n2_ := Aside0.mk (Kd.R_mono (ok' := fun k_ => (P0_ k_ ∨ w.heap.size ≤ k_) ∧ some k_ ≠ (v136 : Value).ownBlock ∧ some k_ ≠ (v133 : Value).ownBlock) (Kd.R_keptB (HO128.out) hkp (fun k_ hk_ hs_ => (hk_.2) hs_)) (fun k_ hk_ => ⟨hk_.1.1.1, hk_.1.1.2, fun e_ => Or.elim (ho0.1 k_ e_.symm) (fun hs_ => hk_.2.1 hs_) (fun hn_ => Nat.not_le.2 hk_.2.2 hn_)⟩))
      have n3_ := Aside0.mk (Kd.R_mono (ok' := fun k_ => (P0_ k_ ∨ w.heap.size ≤ k_) ∧ some k_ ≠ (v136 : Value).ownBlock ∧ some k_ ≠ (.slice Ao18 y126.length co18 : Value).ownBlock) ho0 (fun k_ hk_ => ⟨Or.elim hk_ (fun hs_ => (HO131.out.1 k_ (hs_).symm).1) (fun hn_ => (.inr (Nat.le_trans (by first | exact HK.out.1 | exact (show Kept w _ (fun k_ => P0_ k_) from kP).1) hn_))), Or.elim hk_ (fun hs_ => fun e_ => (((HO137.out).1 k_ e_.symm).2) hs_) (fun hn_ => (Kd.fresh' (Kd.R_lt (by (with_reducible repeat (first | apply Kd.R_alloc | apply Kd.R_drewN | apply Kd.R_drew)); exact HO137.out)) k_ hn_)), Or.elim hk_ (fun hs_ => fun e_ => (((HO128.out).1 k_ e_.symm).2) hs_) (fun hn_ => (Kd.fresh' (Kd.R_lt (by (with_reducible repeat (first | apply Kd.R_alloc | apply Kd.R_drewN | apply Kd.R_drew)); exact HO128.out)) k_ hn_))⟩))
      have n4_ := Aside0.mk (Kept.then_ (S := (fun k_ => P0_ k_)) (kP) hkp (fun k_ hs_ => (fun e_ => (HO131.out.1 k_ e_.symm).1) hs_))
      have n5_ := Aside0.mk (hb)
      clear BK124
      clear HO137
      clear HO128
      clear HK
      clear HB
      clear HO131
      have BK124 := n0_
      have HO137 := n1_
      have HO128 := n2_
      have HO134 := n3_
      have HK := n4_
      have HB := n5_
      clear n0_ n1_ n2_ n3_ n4_ n5_
      (try clear hb)
      (try clear hkp)
      (try clear ho0)
      refine hK.out _ _ ⟨(blk_cell BK124.out 0).trans rfl, (blk_cell BK124.out 1).trans rfl, (blk_cell BK124.out 2).trans rfl⟩ (fun hHeld => ?_)
      clear hK K
      refine norm_ (a' := ?_) ?_ ?_
      rotate_left
      ·show Act.put _ (some 19) _ = _
       simp only [Act.put, List.setIfInBounds_toArray, List.set_cons_zero, List.set_cons_succ, i64_w, i32_w]
       rfl
      exact norm_ (by simp only [putAll, Act.put, List.setIfInBounds_toArray, List.set_cons_zero, List.set_cons_succ]) (hCont (.slice Ao18 y126.length co18, .slice Ao19 y129.length co19, v133, v136) _ ⟨hHeld, (by (with_reducible repeat (first | apply Kd.R_alloc | apply Kd.R_drewN | apply Kd.R_drew)); exact Kd.R_mono HO128.out (fun _ hk => ⟨hk.1, ⟨hk.2.2, hk.2.1⟩⟩)), (by (with_reducible repeat (first | apply Kd.R_alloc | apply Kd.R_drewN | apply Kd.R_drew)); exact Kd.R_mono HO134.out (fun _ hk => ⟨hk.1, ⟨hk.2.2, hk.2.1⟩⟩)), (by (with_reducible repeat (first | apply Kd.R_alloc | apply Kd.R_drewN | apply Kd.R_drew)); exact HO137.out), (bK), (kP), (bB)⟩)
    rintro ⟨v127, v130, v133, v136⟩ w21 ⟨hS_, h0_, h1_, h2_, h3_, h4_, h5_⟩
    have n0_ : Aside0 (Kd.R (Kd.int .u8) 5 w21 w0.heap.size (fun k_ => (P0_ k_ ∨ w.heap.size ≤ k_) ∧ some k_ ≠ (v133 : Value).ownBlock ∧ some k_ ≠ (v136 : Value).ownBlock) v127 y126) := ⟨h0_⟩
    have n1_ : Aside0 (Kd.R (Kd.int .u8) 5 w21 w0.heap.size (fun k_ => (P0_ k_ ∨ w.heap.size ≤ k_) ∧ some k_ ≠ (v127 : Value).ownBlock ∧ some k_ ≠ (v136 : Value).ownBlock) v133 t132) := ⟨h1_⟩
    have n2_ : Aside0 (Kd.R (Kd.int .u8) 5 w21 w0.heap.size (fun k_ => (P0_ k_ ∨ w.heap.size ≤ k_) ∧ some k_ ≠ (v127 : Value).ownBlock ∧ some k_ ≠ (v133 : Value).ownBlock) v136 y135) := ⟨h2_⟩
    have n3_ : Aside0 (w21.heap[gb124]? = some (.cells #[.int .i64 a1_0, .int .i64 a1_1, .slice A1_2 l1_2.length c1_2] 24 (0, 0))) := ⟨h3_⟩
    have n4_ : Aside0 (Kept w w21 (fun k_ => P0_ k_)) := ⟨h4_⟩
    have n5_ : Aside0 (Below w0.heap.size w0 w21) := ⟨h5_⟩
    clear HO0
    clear BK124
    clear HK
    clear HB
    clear h0_ h1_ h2_ h3_ h4_ h5_
    have HO128 := n0_
    have HO134 := n1_
    have HO137 := n2_
    have BK124 := n3_
    have HK := n4_
    have HB := n5_
    clear n0_ n1_ n2_ n3_ n4_ n5_
    have hHeld : w21.cell? ⟨gb124, 0, none⟩ = some (.int .i64 a1_0) ∧ w21.cell? ⟨gb124, 1, none⟩ = some (.int .i64 a1_1) ∧ w21.cell? ⟨gb124, 2, none⟩ = some (.slice A1_2 l1_2.length c1_2) := hS_
    obtain ⟨Ao23, co23, eo23⟩ := Kd.R_slice HO137.out
    (first | subst eo23 | (injection eo23 with f1_ f2_ f3_; have f4_ := f1_.symm; have f5_ := f3_.symm; clear f1_ f2_ f3_; subst f4_; subst f5_))
    refine norm_ (a' := ?_) ?_ ?_
    rotate_left
    ·simp only [putAll, Act.put, List.setIfInBounds_toArray, List.set_cons_zero, List.set_cons_succ]
     rfl
    refine one_ (i := 6) (N := some 21) #[true, true, true, true, true, true, true, false] rfl rfl (one_of HT_.out (by kernel_rfl)) (by decide) (fun K hK => ?_)
    refine Kd.R_append_rows_step (Kd.int .u8) (w0 := w0) w0.heap.size (by rfl) (.tmp 19) (.tmp 20) 43 5 (.int .u8 0) 1 rfl Try.underlying43 info5 rfl (by decide) (by omega) v133 t132 y135 _ _ _ (fun k_ => (P0_ k_ ∨ w.heap.size ≤ k_) ∧ some k_ ≠ (v127 : Value).ownBlock ∧ some k_ ≠ (.slice Ao23 y135.length co23 : Value).ownBlock) (fun _ => False) rfl rfl ?aO ?aR (fun _ _ h => h) (fun _ h => h.elim) ?aF ?aB ?aS ?aL ?_
    (case aR => repeat (first | exact (Kd.R_reads' HO137.out).2.2 | (with_reducible refine Kd.C_alloc ?_ _) | (with_reducible refine Kd.C_drewN ?_ _) | (with_reducible refine Kd.C_drew ?_)))
    (case aB => exact (bB))
    (case aF => exact (fun k_ hk => ⟨(.inr (Nat.le_trans (by first | exact HK.out.1 | exact (show Kept w _ (fun k_ => P0_ k_) from kP).1) hk)), Kd.fresh' (Kd.R_lt (by (with_reducible repeat (first | apply Kd.R_alloc | apply Kd.R_drewN | apply Kd.R_drew)); exact HO128.out)) k_ hk, Kd.fresh' (Kd.R_lt (by (with_reducible repeat (first | apply Kd.R_alloc | apply Kd.R_drewN | apply Kd.R_drew)); exact HO137.out)) k_ hk⟩))
    (case aO => exact (by (with_reducible repeat (first | apply Kd.R_alloc | apply Kd.R_drewN | apply Kd.R_drew)); exact HO134.out))
    (case aS => exact (below_size (bB)))
    (case aL => have := LMc8.out; omega)
    intro v139 w22 ho hb hg hat
    rw [← Ny138.out] at ho
    have n0_ := Aside0.mk (blk_grown (g := gb124) (o := .cells #[.int .i64 a1_0, .int .i64 a1_1, .slice A1_2 l1_2.length c1_2] 24 (0, 0)) (bK) hg (Kd.R_ne HO134.out BK124.out (by decide)))
    have n1_ := Aside0.mk (Kd.R_after (ok := (fun k_ => (P0_ k_ ∨ w.heap.size ≤ k_) ∧ some k_ ≠ (.slice Ao23 y135.length co23 : Value).ownBlock)) (by (with_reducible repeat (first | apply Kd.R_alloc | apply Kd.R_drewN | apply Kd.R_drew)); exact Kd.R_mono HO128.out (fun _ hk => ⟨⟨hk.1, hk.2.2⟩, hk.2.1⟩)) hg hat)
    have n2_ := Aside0.mk (Kd.R_after (ok := (fun k_ => (P0_ k_ ∨ w.heap.size ≤ k_) ∧ some k_ ≠ (v127 : Value).ownBlock)) (by (with_reducible repeat (first | apply Kd.R_alloc | apply Kd.R_drewN | apply Kd.R_drew)); exact Kd.R_mono HO137.out (fun _ hk => ⟨⟨hk.1, hk.2.1⟩, hk.2.2⟩)) hg hat)
    have n3_ := Aside0.mk (hb)
    have n4_ := Aside0.mk (Kept.of_grown (S := (fun k_ => P0_ k_)) hg (kP) (fun k_ e_ => (HO134.out.1 k_ e_).1))
    have n5_ := Aside0.mk (ho)
    clear BK124
    clear HO128
    clear HO137
    clear HB
    clear HK
    clear HO134
    have BK124 := n0_
    have HO128 := n1_
    have HO137 := n2_
    have HB := n3_
    have HK := n4_
    have HO140 := n5_
    clear n0_ n1_ n2_ n3_ n4_ n5_
    clear ho hb hg hat
    refine hK.out _ _ ⟨(blk_cell BK124.out 0).trans rfl, (blk_cell BK124.out 1).trans rfl, (blk_cell BK124.out 2).trans rfl⟩ (fun hHeld => ?_)
    clear hK K
    refine norm_ (a' := ?_) ?_ ?_
    rotate_left
    ·show Act.put _ (some 21) _ = _
     simp only [Act.put, List.setIfInBounds_toArray, List.set_cons_zero, List.set_cons_succ, i64_w, i32_w]
     rfl
    refine pure_ (i := 7) (N := some 6) (v := ?_) (a' := ?_) #[true, true, true, true, true, true, true, true] rfl rfl (any_of HT_.out (by kernel_rfl)) (fun _ _ _ h => h) (Or.inl ⟨by rfl, ?_⟩) ?_ ?_
    rotate_left
    ·intro w'
     go_simp
     with_reducible rfl
    rotate_left
    ·simp only [Act.put, List.setIfInBounds_toArray, List.set_cons_zero, List.set_cons_succ, i64_w, i32_w]
     rfl
    refine done_ (done_of HT_.out (by kernel_rfl)) ?_
    try go_wp2
    go_ret
    exact ⟨_, by first | rfl | (simp [errW_none, errW_some] <;> rfl) | (simp [*, errW_none, errW_some] <;> rfl), by (with_reducible repeat (first | apply Kd.R_alloc | apply Kd.R_drewN | apply Kd.R_drew)); exact Kd.R_mono HO140.out (fun _ hk => hk.1), bB, kP⟩
   ·rw [if_neg c8] at H
    exact absurd H (by simp)
  ·rw [if_neg c6] at H
   exact absurd H (by simp)
 ·rw [if_neg c5] at H
  have c5b0 : decide (t125 < a2) = false := decide_eq_false c5
  clear c5
  have HC24 := Aside0.mk H
  clear H
  go_enter Try.func47, Try.ntmps47
  go_upto_block 0 with (first | ((with_reducible refine gate_dst (N := 4) rfl ?_); refine box_event ?hg (N := 4) ?hd (cs := #[.int .i64 a1_0, .int .i64 a1_1, .slice A1_2 l1_2.length c1_2]) (t := 24) ?hr ?_; (case hd => rfl); (case hg => rfl); (case hr => first | (go_simp; done) | (go_simp; rfl)); intro gb124 hg w25 hbox hb; have n0_ := Aside0.mk (Kd.R_below (by (with_reducible repeat (first | apply Kd.R_alloc | apply Kd.R_drewN | apply Kd.R_drew)); exact HO0.out) hb); have n1_ := Aside0.mk (Kept.below (S := (fun k_ => P0_ k_)) (kP) hb); have n2_ := Aside0.mk (below_step (bB) hb); have n3_ := Aside0.mk (hbox); have n4_ := Aside0.mk ((by rw [hg]; exact (by first | exact HK.out.1 | exact (show Kept w _ (fun k_ => P0_ k_) from kP).1) : w.heap.size ≤ gb124)); have n5_ := Aside0.mk ((by rw [hg]; exact (below_size (bB)) : w0.heap.size ≤ gb124)); clear HO0; clear HK; clear HB; have HO0 := n0_; have HK := n1_; have HB := n2_; have BK124 := n3_; have GW124 := n4_; have GE124 := n5_; clear n0_ n1_ n2_ n3_ n4_ n5_; clear hb hbox hg; have hcz26_0 : w25.cell? ⟨gb124, 0, none⟩ = some (.int .i64 a1_0) := (blk_cell BK124.out 0).trans rfl; have hcz26_1 : w25.cell? ⟨gb124, 1, none⟩ = some (.int .i64 a1_1) := (blk_cell BK124.out 1).trans rfl; have hcz26_2 : w25.cell? ⟨gb124, 2, none⟩ = some (.slice A1_2 l1_2.length c1_2) := (blk_cell BK124.out 2).trans rfl; have hfz26_0 := blk_frozen BK124.out 0; have hfz26_1 := blk_frozen BK124.out 1; have hfz26_2 := blk_frozen BK124.out 2) | ((with_reducible refine gate_callee (f := 69) rfl ?_); refine goesL_ (some 12) rfl rfl Try.func69 (by kernel_rfl) rfl #[.int .i64 a1_0] rfl (by (try simp only [List.map_toArray, List.map_cons, List.map_nil]); first | done | rfl | (simp only [List.length_drop, List.length_take]; rfl) | (simp only [Int.ofNat_lt, Int.ofNat_le]; rfl)) ?_; (with_reducible refine (expr_level.calls a1_0 t125 _ A4.out).mono ?_); rintro e w' ⟨rfl, ⟨nd, rfl⟩⟩; refine ⟨_, rfl, ?_⟩))
  (try simp only [Act.put, List.setIfInBounds_toArray, List.set_cons_zero, List.set_cons_succ])
  go_cut [7] (fun v7 wc => ∃ (kq : Nat) (x7_23 : Int), v7 = .int .u8 x7_23 ∧ Aside0 (expr_text.j0 kq l0 x7_23 a1_0 a1_1 l1_2 = some r) ∧ Aside0 (kq ≤ k) ∧ Aside0 (Kd.R (Kd.int .u8) 5 wc w0.heap.size (fun k_ => (P0_ k_ ∨ w.heap.size ≤ k_)) u9000_ l0) ∧ Aside0 (wc.heap[gb124]? = some (.cells #[.int .i64 a1_0, .int .i64 a1_1, (.slice A1_2 l1_2.length c1_2)] 24 (0, 0))) ∧ Aside0 (Kept w wc (fun k_ => P0_ k_)) ∧ Aside0 (Below w0.heap.size w0 wc))
  case first =>
   have H := HC24.out
   clear HC24
   by_cases c27 : a1_0 = 1
   ·rw [if_pos c27] at H
    have c27b0 : (a1_0 == 1) = true := beq_iff_eq.mpr c27
    have c27b1 : (a1_0 != 1) = false := bne_eq_false_iff_eq.mpr c27
    clear c27
    (first | rw [c27b0] | (simp only [i64_w, i32_w]; rw [c27b0]) | skip)
    obtain ⟨y141, hy141⟩ : ∃ y_ : List Int, y_ = (([48] : List Int)) := ⟨_, rfl⟩
    replace H : (if l0.length + y141.length < 140737488355328 then (some (l0 ++ y141)) else (none)) = some r := by first | (rw [hy141]; with_reducible exact H) | (have H2_ := (Option.bind_some _ _).symm.trans H; rw [hy141]; with_reducible exact H2_) | (have H2_ := (Option.bind_some _ _).symm.trans H; with_reducible exact H2_) | with_reducible exact H | (rw [hy141]; exact H) | exact H
    have Ny141 := Aside0.mk hy141
    clear hy141
    by_cases c28 : l0.length + y141.length < 140737488355328
    ·rw [if_pos c28] at H
     have LMc28 := Aside0.mk c28
     clear c28
     obtain ⟨y144, hy144⟩ : ∃ y_ : List Int, y_ = (l0 ++ y141) := ⟨_, rfl⟩
     replace H : (some y144) = some r := by first | (rw [hy144]; with_reducible exact H) | (have H2_ := (Option.bind_some _ _).symm.trans H; rw [hy144]; with_reducible exact H2_) | (have H2_ := (Option.bind_some _ _).symm.trans H; with_reducible exact H2_) | with_reducible exact H | (rw [hy144]; exact H) | exact H
     have Ny144 := Aside0.mk hy144
     clear hy144
     obtain rfl := Option.some.inj H
     go_wp2_with (first | ((with_reducible refine gate_dst (N := 27) rfl ?_); refine Kd.R_lit (Kd.int .u8) _ 5 ?hg (N := 27) ?hd (xs := ([48] : List Int)) (inner := [.int .u8 48]) (ok := fun _ => True) (okp := fun _ => True) ?hr ?hp (fun _ hk => hk) trivial (Below.refl _ _) (Nat.le_refl _) (by simp) ?_; (case hd => rfl); (case hg => rfl); (case hr => first | (go_simp; done) | (go_simp; rfl)); (case hp => exact (Reps.one (show Kd.M (Kd.int .u8) _ _ _ 48 [.int .u8 48] from rfl) (Reps.none _ _))); intro v142 w29 ho30 hb hg_ hnew_; clear hg_ hnew_; (first | rw [← Ny141.out] at ho30 | (simp only [Int.reduceToNat] at ho30; rw [← Ny141.out] at ho30)); have n0_ := Aside0.mk (Kd.R_elder' (by (with_reducible repeat (first | apply Kd.R_alloc | apply Kd.R_drewN | apply Kd.R_drew)); exact HO0.out) (Kd.R_base ho30) hb); have n1_ := Aside0.mk (Kd.R_lower (Kd.R_new' (Kd.R_newM (M := fun k_ => (P0_ k_ ∨ w.heap.size ≤ k_)) ho30 (by first | exact HK.out.1 | exact (show Kept w _ (fun k_ => P0_ k_) from kP).1) (fun k_ h_ => .inr h_)) (Kd.R_lt (by (with_reducible repeat (first | apply Kd.R_alloc | apply Kd.R_drewN | apply Kd.R_drew)); exact HO0.out))) (below_size (bB))); have n2_ := Aside0.mk (blk_below (g := gb124) (o := .cells #[.int .i64 a1_0, .int .i64 a1_1, .slice A1_2 l1_2.length c1_2] 24 (0, 0)) (bK) hb); have n3_ := Aside0.mk (Kept.below (S := (fun k_ => P0_ k_)) (kP) hb); have n4_ := Aside0.mk (below_step (bB) hb); clear HO0; clear BK124; clear HK; clear HB; have HO0 := n0_; have HO143 := n1_; have BK124 := n2_; have HK := n3_; have HB := n4_; clear n0_ n1_ n2_ n3_ n4_; clear hb ho30; obtain ⟨Ao32, co32, eo32⟩ := Kd.R_slice HO143.out; subst eo32) | ((with_reducible refine gate_builtin (b := .append) (xs := #[.tmp 26, .tmp 27]) rfl ?_); at_builtin; refine Kd.R_append_rows (Kd.int .u8) (w0 := w0) w0.heap.size rfl (.tmp 26) (.tmp 27) 43 5 (.int .u8 0) 1 rfl Try.underlying43 info5 rfl (by decide) (by omega) u9000_ l0 y141 _ _ _ (fun k_ => (P0_ k_ ∨ w.heap.size ≤ k_) ∧ some k_ ≠ (.slice Ao32 y141.length co32 : Value).ownBlock) (fun _ => False) rfl rfl ?aO ?aR (fun _ _ h => h) (fun _ h => h.elim) ?aF ?aB ?aS ?aL ?_; (case aR => repeat (first | exact (Kd.R_reads' HO143.out).2.2 | (with_reducible refine Kd.C_alloc ?_ _) | (with_reducible refine Kd.C_drewN ?_ _) | (with_reducible refine Kd.C_drew ?_))); (case aB => exact (bB)); (case aF => exact (fun k_ hk => ⟨(.inr (Nat.le_trans (by first | exact HK.out.1 | exact (show Kept w _ (fun k_ => P0_ k_) from kP).1) hk)), Kd.fresh' (Kd.R_lt (by (with_reducible repeat (first | apply Kd.R_alloc | apply Kd.R_drewN | apply Kd.R_drew)); exact HO143.out)) k_ hk⟩)); (case aO => exact (by (with_reducible repeat (first | apply Kd.R_alloc | apply Kd.R_drewN | apply Kd.R_drew)); exact HO0.out)); (case aS => exact (below_size (bB))); (case aL => have := LMc28.out; omega); intro v145 w31 ho hb hg hat; rw [← Ny144.out] at ho; have n0_ := Aside0.mk (blk_grown (g := gb124) (o := .cells #[.int .i64 a1_0, .int .i64 a1_1, .slice A1_2 l1_2.length c1_2] 24 (0, 0)) (bK) hg (Kd.R_ne HO0.out BK124.out (by decide))); have n1_ := Aside0.mk (Kd.R_after (ok := (fun k_ => (P0_ k_ ∨ w.heap.size ≤ k_))) (by (with_reducible repeat (first | apply Kd.R_alloc | apply Kd.R_drewN | apply Kd.R_drew)); exact Kd.R_mono HO143.out (fun _ hk => ⟨hk.1.1, hk.2⟩)) hg hat); have n2_ := Aside0.mk (hb); have n3_ := Aside0.mk (Kept.of_grown (S := (fun k_ => P0_ k_)) hg (kP) (fun k_ e_ => (HO0.out.1 k_ e_).1)); have n4_ := Aside0.mk (ho); clear BK124; clear HO143; clear HB; clear HK; clear HO0; have BK124 := n0_; have HO143 := n1_; have HB := n2_; have HK := n3_; have HO146 := n4_; clear n0_ n1_ n2_ n3_ n4_; clear ho hb hg hat))
     go_ret
     exact ⟨_, by first | rfl | (simp [errW_none, errW_some] <;> rfl) | (simp [*, errW_none, errW_some] <;> rfl), by (with_reducible repeat (first | apply Kd.R_alloc | apply Kd.R_drewN | apply Kd.R_drew)); exact Kd.R_mono HO146.out (fun _ hk => hk.1), bB, kP⟩
    ·rw [if_neg c28] at H
     exact absurd H (by simp)
   ·rw [if_neg c27] at H
    have c27b0 : (a1_0 == 1) = false := beq_eq_false_iff_ne.mpr c27
    have c27b1 : (a1_0 != 1) = true := bne_iff_ne.mpr c27
    (first | rw [c27b0] | (simp only [i64_w, i32_w]; rw [c27b0]) | skip)
    by_cases c33 : a1_0 = 2
    ·rw [if_pos c33] at H
     have c33b0 : (a1_0 == 2) = true := beq_iff_eq.mpr c33
     have c33b1 : (a1_0 != 2) = false := bne_eq_false_iff_eq.mpr c33
     clear c33
     obtain ⟨y147, hy147⟩ : ∃ y_ : List Int, y_ = (([49] : List Int)) := ⟨_, rfl⟩
     replace H : (if l0.length + y147.length < 140737488355328 then (some (l0 ++ y147)) else (none)) = some r := by first | (rw [hy147]; with_reducible exact H) | (have H2_ := (Option.bind_some _ _).symm.trans H; rw [hy147]; with_reducible exact H2_) | (have H2_ := (Option.bind_some _ _).symm.trans H; with_reducible exact H2_) | with_reducible exact H | (rw [hy147]; exact H) | exact H
     have Ny147 := Aside0.mk hy147
     clear hy147
     by_cases c34 : l0.length + y147.length < 140737488355328
     ·rw [if_pos c34] at H
      have LMc34 := Aside0.mk c34
      clear c34
      obtain ⟨y150, hy150⟩ : ∃ y_ : List Int, y_ = (l0 ++ y147) := ⟨_, rfl⟩
      replace H : (some y150) = some r := by first | (rw [hy150]; with_reducible exact H) | (have H2_ := (Option.bind_some _ _).symm.trans H; rw [hy150]; with_reducible exact H2_) | (have H2_ := (Option.bind_some _ _).symm.trans H; with_reducible exact H2_) | with_reducible exact H | (rw [hy150]; exact H) | exact H
      have Ny150 := Aside0.mk hy150
      clear hy150
      obtain rfl := Option.some.inj H
      go_wp2_with (first | ((with_reducible refine gate_dst (N := 32) rfl ?_); refine Kd.R_lit (Kd.int .u8) _ 5 ?hg (N := 32) ?hd (xs := ([49] : List Int)) (inner := [.int .u8 49]) (ok := fun _ => True) (okp := fun _ => True) ?hr ?hp (fun _ hk => hk) trivial (Below.refl _ _) (Nat.le_refl _) (by simp) ?_; (case hd => rfl); (case hg => rfl); (case hr => first | (go_simp; done) | (go_simp; rfl)); (case hp => exact (Reps.one (show Kd.M (Kd.int .u8) _ _ _ 49 [.int .u8 49] from rfl) (Reps.none _ _))); intro v148 w35 ho36 hb hg_ hnew_; clear hg_ hnew_; (first | rw [← Ny147.out] at ho36 | (simp only [Int.reduceToNat] at ho36; rw [← Ny147.out] at ho36)); have n0_ := Aside0.mk (Kd.R_elder' (by (with_reducible repeat (first | apply Kd.R_alloc | apply Kd.R_drewN | apply Kd.R_drew)); exact HO0.out) (Kd.R_base ho36) hb); have n1_ := Aside0.mk (Kd.R_lower (Kd.R_new' (Kd.R_newM (M := fun k_ => (P0_ k_ ∨ w.heap.size ≤ k_)) ho36 (by first | exact HK.out.1 | exact (show Kept w _ (fun k_ => P0_ k_) from kP).1) (fun k_ h_ => .inr h_)) (Kd.R_lt (by (with_reducible repeat (first | apply Kd.R_alloc | apply Kd.R_drewN | apply Kd.R_drew)); exact HO0.out))) (below_size (bB))); have n2_ := Aside0.mk (blk_below (g := gb124) (o := .cells #[.int .i64 a1_0, .int .i64 a1_1, .slice A1_2 l1_2.length c1_2] 24 (0, 0)) (bK) hb); have n3_ := Aside0.mk (Kept.below (S := (fun k_ => P0_ k_)) (kP) hb); have n4_ := Aside0.mk (below_step (bB) hb); clear HO0; clear BK124; clear HK; clear HB; have HO0 := n0_; have HO149 := n1_; have BK124 := n2_; have HK := n3_; have HB := n4_; clear n0_ n1_ n2_ n3_ n4_; clear hb ho36; obtain ⟨Ao38, co38, eo38⟩ := Kd.R_slice HO149.out; subst eo38) | ((with_reducible refine gate_builtin (b := .append) (xs := #[.tmp 31, .tmp 32]) rfl ?_); at_builtin; refine Kd.R_append_rows (Kd.int .u8) (w0 := w0) w0.heap.size rfl (.tmp 31) (.tmp 32) 43 5 (.int .u8 0) 1 rfl Try.underlying43 info5 rfl (by decide) (by omega) u9000_ l0 y147 _ _ _ (fun k_ => (P0_ k_ ∨ w.heap.size ≤ k_) ∧ some k_ ≠ (.slice Ao38 y147.length co38 : Value).ownBlock) (fun _ => False) rfl rfl ?aO ?aR (fun _ _ h => h) (fun _ h => h.elim) ?aF ?aB ?aS ?aL ?_; (case aR => repeat (first | exact (Kd.R_reads' HO149.out).2.2 | (with_reducible refine Kd.C_alloc ?_ _) | (with_reducible refine Kd.C_drewN ?_ _) | (with_reducible refine Kd.C_drew ?_))); (case aB => exact (bB)); (case aF => exact (fun k_ hk => ⟨(.inr (Nat.le_trans (by first | exact HK.out.1 | exact (show Kept w _ (fun k_ => P0_ k_) from kP).1) hk)), Kd.fresh' (Kd.R_lt (by (with_reducible repeat (first | apply Kd.R_alloc | apply Kd.R_drewN | apply Kd.R_drew)); exact HO149.out)) k_ hk⟩)); (case aO => exact (by (with_reducible repeat (first | apply Kd.R_alloc | apply Kd.R_drewN | apply Kd.R_drew)); exact HO0.out)); (case aS => exact (below_size (bB))); (case aL => have := LMc34.out; omega); intro v151 w37 ho hb hg hat; rw [← Ny150.out] at ho; have n0_ := Aside0.mk (blk_grown (g := gb124) (o := .cells #[.int .i64 a1_0, .int .i64 a1_1, .slice A1_2 l1_2.length c1_2] 24 (0, 0)) (bK) hg (Kd.R_ne HO0.out BK124.out (by decide))); have n1_ := Aside0.mk (Kd.R_after (ok := (fun k_ => (P0_ k_ ∨ w.heap.size ≤ k_))) (by (with_reducible repeat (first | apply Kd.R_alloc | apply Kd.R_drewN | apply Kd.R_drew)); exact Kd.R_mono HO149.out (fun _ hk => ⟨hk.1.1, hk.2⟩)) hg hat); have n2_ := Aside0.mk (hb); have n3_ := Aside0.mk (Kept.of_grown (S := (fun k_ => P0_ k_)) hg (kP) (fun k_ e_ => (HO0.out.1 k_ e_).1)); have n4_ := Aside0.mk (ho); clear BK124; clear HO149; clear HB; clear HK; clear HO0; have BK124 := n0_; have HO149 := n1_; have HB := n2_; have HK := n3_; have HO152 := n4_; clear n0_ n1_ n2_ n3_ n4_; clear ho hb hg hat))
      go_ret
      exact ⟨_, by first | rfl | (simp [errW_none, errW_some] <;> rfl) | (simp [*, errW_none, errW_some] <;> rfl), by (with_reducible repeat (first | apply Kd.R_alloc | apply Kd.R_drewN | apply Kd.R_drew)); exact Kd.R_mono HO152.out (fun _ hk => hk.1), bB, kP⟩
     ·rw [if_neg c34] at H
      exact absurd H (by simp)
    ·rw [if_neg c33] at H
     have c33b0 : (a1_0 == 2) = false := beq_eq_false_iff_ne.mpr c33
     have c33b1 : (a1_0 != 2) = true := bne_iff_ne.mpr c33
     by_cases c39 : a1_0 = 3
     ·rw [if_pos c39] at H
      have c39b0 : (a1_0 == 3) = true := beq_iff_eq.mpr c39
      have c39b1 : (a1_0 != 3) = false := bne_eq_false_iff_eq.mpr c39
      clear c39
      obtain ⟨y153, hy153⟩ : ∃ y_ : List Int, y_ = (([(97 + ((a1_1) % 256)) % 256] : List Int)) := ⟨_, rfl⟩
      replace H : (if l0.length + y153.length < 140737488355328 then (some (l0 ++ y153)) else (none)) = some r := by first | (rw [hy153]; with_reducible exact H) | (have H2_ := (Option.bind_some _ _).symm.trans H; rw [hy153]; with_reducible exact H2_) | (have H2_ := (Option.bind_some _ _).symm.trans H; with_reducible exact H2_) | with_reducible exact H | (rw [hy153]; exact H) | exact H
      have Ny153 := Aside0.mk hy153
      clear hy153
      by_cases c40 : l0.length + y153.length < 140737488355328
      ·rw [if_pos c40] at H
       have LMc40 := Aside0.mk c40
       clear c40
       obtain ⟨y156, hy156⟩ : ∃ y_ : List Int, y_ = (l0 ++ y153) := ⟨_, rfl⟩
       replace H : (some y156) = some r := by first | (rw [hy156]; with_reducible exact H) | (have H2_ := (Option.bind_some _ _).symm.trans H; rw [hy156]; with_reducible exact H2_) | (have H2_ := (Option.bind_some _ _).symm.trans H; with_reducible exact H2_) | with_reducible exact H | (rw [hy156]; exact H) | exact H
       have Ny156 := Aside0.mk hy156
       clear hy156
       obtain rfl := Option.some.inj H
       have hcz41_0 : w25.cell? ⟨gb124, 0, none⟩ = some (.int .i64 a1_0) := (blk_cell BK124.out 0).trans rfl
       have hcz41_1 : w25.cell? ⟨gb124, 1, none⟩ = some (.int .i64 a1_1) := (blk_cell BK124.out 1).trans rfl
       have hcz41_2 : w25.cell? ⟨gb124, 2, none⟩ = some (.slice A1_2 l1_2.length c1_2) := (blk_cell BK124.out 2).trans rfl
       have hfz41_0 := blk_frozen BK124.out 0
       have hfz41_1 := blk_frozen BK124.out 1
       have hfz41_2 := blk_frozen BK124.out 2
       go_wp2_with (first | ((with_reducible refine gate_dst (N := 41) rfl ?_); refine Kd.R_lit (Kd.int .u8) _ 5 ?hg (N := 41) ?hd (xs := ([(97 + ((a1_1) % 256)) % 256] : List Int)) (inner := [.int .u8 ((97 + ((a1_1) % 256)) % 256)]) (ok := fun _ => True) (okp := fun _ => True) ?hr ?hp (fun _ hk => hk) trivial (Below.refl _ _) (Nat.le_refl _) (by simp) ?_; (case hd => rfl); (case hg => rfl); (case hr => first | (go_simp; done) | (go_simp; rfl)); (case hp => exact (Reps.one (show Kd.M (Kd.int .u8) _ _ _ ((97 + ((a1_1) % 256)) % 256) [.int .u8 ((97 + ((a1_1) % 256)) % 256)] from rfl) (Reps.none _ _))); intro v154 w42 ho43 hb hg_ hnew_; clear hg_ hnew_; (first | rw [← Ny153.out] at ho43 | (simp only [Int.reduceToNat] at ho43; rw [← Ny153.out] at ho43)); have n0_ := Aside0.mk (Kd.R_elder' (by (with_reducible repeat (first | apply Kd.R_alloc | apply Kd.R_drewN | apply Kd.R_drew)); exact HO0.out) (Kd.R_base ho43) hb); have n1_ := Aside0.mk (Kd.R_lower (Kd.R_new' (Kd.R_newM (M := fun k_ => (P0_ k_ ∨ w.heap.size ≤ k_)) ho43 (by first | exact HK.out.1 | exact (show Kept w _ (fun k_ => P0_ k_) from kP).1) (fun k_ h_ => .inr h_)) (Kd.R_lt (by (with_reducible repeat (first | apply Kd.R_alloc | apply Kd.R_drewN | apply Kd.R_drew)); exact HO0.out))) (below_size (bB))); have n2_ := Aside0.mk (blk_below (g := gb124) (o := .cells #[.int .i64 a1_0, .int .i64 a1_1, .slice A1_2 l1_2.length c1_2] 24 (0, 0)) (bK) hb); have n3_ := Aside0.mk (Kept.below (S := (fun k_ => P0_ k_)) (kP) hb); have n4_ := Aside0.mk (below_step (bB) hb); clear HO0; clear BK124; clear HK; clear HB; have HO0 := n0_; have HO155 := n1_; have BK124 := n2_; have HK := n3_; have HB := n4_; clear n0_ n1_ n2_ n3_ n4_; clear hb ho43; obtain ⟨Ao45, co45, eo45⟩ := Kd.R_slice HO155.out; subst eo45) | ((with_reducible refine gate_builtin (b := .append) (xs := #[.tmp 36, .tmp 41]) rfl ?_); at_builtin; refine Kd.R_append_rows (Kd.int .u8) (w0 := w0) w0.heap.size rfl (.tmp 36) (.tmp 41) 43 5 (.int .u8 0) 1 rfl Try.underlying43 info5 rfl (by decide) (by omega) u9000_ l0 y153 _ _ _ (fun k_ => (P0_ k_ ∨ w.heap.size ≤ k_) ∧ some k_ ≠ (.slice Ao45 y153.length co45 : Value).ownBlock) (fun _ => False) rfl rfl ?aO ?aR (fun _ _ h => h) (fun _ h => h.elim) ?aF ?aB ?aS ?aL ?_; (case aR => repeat (first | exact (Kd.R_reads' HO155.out).2.2 | (with_reducible refine Kd.C_alloc ?_ _) | (with_reducible refine Kd.C_drewN ?_ _) | (with_reducible refine Kd.C_drew ?_))); (case aB => exact (bB)); (case aF => exact (fun k_ hk => ⟨(.inr (Nat.le_trans (by first | exact HK.out.1 | exact (show Kept w _ (fun k_ => P0_ k_) from kP).1) hk)), Kd.fresh' (Kd.R_lt (by (with_reducible repeat (first | apply Kd.R_alloc | apply Kd.R_drewN | apply Kd.R_drew)); exact HO155.out)) k_ hk⟩)); (case aO => exact (by (with_reducible repeat (first | apply Kd.R_alloc | apply Kd.R_drewN | apply Kd.R_drew)); exact HO0.out)); (case aS => exact (below_size (bB))); (case aL => have := LMc40.out; omega); intro v157 w44 ho hb hg hat; rw [← Ny156.out] at ho; have n0_ := Aside0.mk (blk_grown (g := gb124) (o := .cells #[.int .i64 a1_0, .int .i64 a1_1, .slice A1_2 l1_2.length c1_2] 24 (0, 0)) (bK) hg (Kd.R_ne HO0.out BK124.out (by decide))); have n1_ := Aside0.mk (Kd.R_after (ok := (fun k_ => (P0_ k_ ∨ w.heap.size ≤ k_))) (by (with_reducible repeat (first | apply Kd.R_alloc | apply Kd.R_drewN | apply Kd.R_drew)); exact Kd.R_mono HO155.out (fun _ hk => ⟨hk.1.1, hk.2⟩)) hg hat); have n2_ := Aside0.mk (hb); have n3_ := Aside0.mk (Kept.of_grown (S := (fun k_ => P0_ k_)) hg (kP) (fun k_ e_ => (HO0.out.1 k_ e_).1)); have n4_ := Aside0.mk (ho); clear BK124; clear HO155; clear HB; clear HK; clear HO0; have BK124 := n0_; have HO155 := n1_; have HB := n2_; have HK := n3_; have HO158 := n4_; clear n0_ n1_ n2_ n3_ n4_; clear ho hb hg hat))
       go_ret
       exact ⟨_, by first | rfl | (simp [errW_none, errW_some] <;> rfl) | (simp [*, errW_none, errW_some] <;> rfl), by (with_reducible repeat (first | apply Kd.R_alloc | apply Kd.R_drewN | apply Kd.R_drew)); exact Kd.R_mono HO158.out (fun _ hk => hk.1), bB, kP⟩
      ·rw [if_neg c40] at H
       exact absurd H (by simp)
     ·rw [if_neg c39] at H
      have c39b0 : (a1_0 == 3) = false := beq_eq_false_iff_ne.mpr c39
      have c39b1 : (a1_0 != 3) = true := bne_iff_ne.mpr c39
      by_cases c46 : a1_0 = 8
      ·rw [if_pos c46] at H
       have c46b0 : (a1_0 == 8) = true := beq_iff_eq.mpr c46
       have c46b1 : (a1_0 != 8) = false := bne_eq_false_iff_eq.mpr c46
       clear c46
       obtain ⟨y159, hy159⟩ : ∃ y_ : List Int, y_ = (([33] : List Int)) := ⟨_, rfl⟩
       replace H : (if l0.length + y159.length < 140737488355328 then (if 0 < (l1_2.length : Int) then ((expr_text.f k (l0 ++ y159) ((rd_T24 l1_2 0).f0) ((rd_T24 l1_2 0).f1) ((rd_T24 l1_2 0).f2) 4).bind fun t166 => (some t166)) else (none)) else (none)) = some r := by first | (rw [hy159]; with_reducible exact H) | (have H2_ := (Option.bind_some _ _).symm.trans H; rw [hy159]; with_reducible exact H2_) | (have H2_ := (Option.bind_some _ _).symm.trans H; with_reducible exact H2_) | with_reducible exact H | (rw [hy159]; exact H) | exact H
       have Ny159 := Aside0.mk hy159
       clear hy159
       by_cases c47 : l0.length + y159.length < 140737488355328
       ·rw [if_pos c47] at H
        have LMc47 := Aside0.mk c47
        clear c47
        obtain ⟨y162, hy162⟩ : ∃ y_ : List Int, y_ = (l0 ++ y159) := ⟨_, rfl⟩
        replace H : (if 0 < (l1_2.length : Int) then ((expr_text.f k y162 ((rd_T24 l1_2 0).f0) ((rd_T24 l1_2 0).f1) ((rd_T24 l1_2 0).f2) 4).bind fun t166 => (some t166)) else (none)) = some r := by first | (rw [hy162]; with_reducible exact H) | (have H2_ := (Option.bind_some _ _).symm.trans H; rw [hy162]; with_reducible exact H2_) | (have H2_ := (Option.bind_some _ _).symm.trans H; with_reducible exact H2_) | with_reducible exact H | (rw [hy162]; exact H) | exact H
        have Ny162 := Aside0.mk hy162
        clear hy162
        by_cases c48 : 0 < (l1_2.length : Int)
        ·rw [if_pos c48] at H
         have c48b0 : decide (0 < (l1_2.length : Int)) = true := decide_eq_true c48
         have c48b1 : decide (0 < l1_2.length) = true := decide_eq_true (by omega)
         clear c48
         replace H := Option.bind_eq_some_iff.mp H
         obtain ⟨t166, A490, H⟩ := H
         replace H : (some t166) = some r := H
         have A49 := Aside0.mk A490
         clear A490
         obtain rfl := Option.some.inj H
         try go_wp2
         (try (rw [drewN_self w25]; generalize hq_ : World.drewN w25 _ = w25; have n0_ : Aside0 (Kd.R (Kd.int .u8) 5 w25 w0.heap.size (fun k_ => (P0_ k_ ∨ w.heap.size ≤ k_)) u9000_ l0) := ⟨by rw [← hq_]; exact (by (with_reducible repeat (first | apply Kd.R_alloc | apply Kd.R_drewN | apply Kd.R_drew)); exact HO0.out)⟩; have n1_ : Aside0 (w25.heap[gb124]? = some (.cells #[.int .i64 a1_0, .int .i64 a1_1, .slice A1_2 l1_2.length c1_2] 24 (0, 0))) := ⟨by rw [← hq_]; exact (bK)⟩; have n2_ : Aside0 (Kept w w25 (fun k_ => P0_ k_)) := ⟨by rw [← hq_]; exact (kP)⟩; have n3_ : Aside0 (Below w0.heap.size w0 w25) := ⟨by rw [← hq_]; exact (bB)⟩; clear HO0 BK124 HK HB hq_; have HO0 := n0_; have BK124 := n1_; have HK := n2_; have HB := n3_; clear n0_ n1_ n2_ n3_))
         have n0_ := Aside0.mk (Kd.R_drew HO0.out)
         have n1_ := Aside0.mk (blk_drew BK124.out)
         have n2_ := Aside0.mk (Kept.drew HK.out)
         have n3_ := Aside0.mk (below_drew1 HB.out)
         clear HO0
         clear BK124
         clear HK
         clear HB
         have HO0 := n0_
         have BK124 := n1_
         have HK := n2_
         have HB := n3_
         clear n0_ n1_ n2_ n3_
         have p165 : 0 ≤ (0 : Int) := (by omega)
         have q165 : 0 < (l1_2.length : Int) := of_decide_eq_true (by first | (with_reducible assumption) | assumption)
         obtain ⟨ad165, A165_2, c165_2, e165, hx165_0, hx165_1, hx165_2, hl165_2, hi165_2⟩ := at_T24 (Kd.C_kept_now HR1_2.out HK.out) 0 p165 q165
         have hw165_2 := hx165_2
         (try rw [show ((0 : Int)).toNat = 0 from rfl] at hw165_2)
         (try rw [show 0 * 3 = 0 from rfl] at hw165_2)
         (try rw [Addr.add_zero'] at hw165_2)
         have hw165_1 := hx165_1
         (try rw [show ((0 : Int)).toNat = 0 from rfl] at hw165_1)
         (try rw [show 0 * 3 = 0 from rfl] at hw165_1)
         (try rw [Addr.add_zero'] at hw165_1)
         have hw165_0 := hx165_0
         (try rw [show ((0 : Int)).toNat = 0 from rfl] at hw165_0)
         (try rw [show 0 * 3 = 0 from rfl] at hw165_0)
         (try rw [Addr.add_zero'] at hw165_0)
         have hF165_2 := fun W' hk' => (by obtain ⟨ad', A'_2, c'_2, e', hx'_0, hx'_1, hx'_2, hl'_2, hi'_2⟩ := at_T24 (HR1_2.out W' hk') 0 p165 q165; obtain rfl := Option.some.inj (e165.symm.trans e'); have z_ := Option.some.inj (hx'_2.symm.trans (FootX.cellS (e165 ▸ HR1_2.out) (by have h1_ := p165; have h2_ := q165; omega) (by decide) HK.out (by first | rfl | exact add_block _ _ | (show (Addr.add _ _).block = _; exact add_block _ _)) hx165_2 hk')); injection z_ with z1_ z2_ z3_; rw [← z1_]; exact hi'_2 : Kd.C k24 W' A165_2 _ ((rd_T24 l1_2 0).f2))
         cases e165
         have qi165 : (0 < l1_2.length) = True := eq_true (by omega)
         (try rw [show ((0 : Int)).toNat = 0 from rfl] at hx165_0)
         (try rw [show 0 * 3 = 0 from rfl] at hx165_0)
         (try rw [Addr.add_zero'] at hx165_0)
         (try rw [show ((0 : Int)).toNat = 0 from rfl] at hx165_1)
         (try rw [show 0 * 3 = 0 from rfl] at hx165_1)
         (try rw [Addr.add_zero'] at hx165_1)
         (try rw [show ((0 : Int)).toNat = 0 from rfl] at hx165_2)
         (try rw [show 0 * 3 = 0 from rfl] at hx165_2)
         (try rw [Addr.add_zero'] at hx165_2)
         have HR165_2 := Aside0.mk hF165_2
         clear hF165_2
         have HC165_2 := Aside0.mk hl165_2
         clear hi165_2 hl165_2
         replace p165 := eq_true p165
         replace q165 := eq_true q165
         have hg165_0 := fun W' hk' => FootX.cellS (W' := W') HR1_2.out (by have h1_ := of_eq_true p165; have h2_ := of_eq_true q165; omega) (by decide) HK.out (by first | rfl | exact add_block _ _ | (show (Addr.add _ _).block = _; exact add_block _ _)) hw165_0 hk'
         have hg165_1 := fun W' hk' => FootX.cellS (W' := W') HR1_2.out (by have h1_ := of_eq_true p165; have h2_ := of_eq_true q165; omega) (by decide) HK.out (by first | rfl | exact add_block _ _ | (show (Addr.add _ _).block = _; exact add_block _ _)) hw165_1 hk'
         have hg165_2 := fun W' hk' => FootX.cellS (W' := W') HR1_2.out (by have h1_ := of_eq_true p165; have h2_ := of_eq_true q165; omega) (by decide) HK.out (by first | rfl | exact add_block _ _ | (show (Addr.add _ _).block = _; exact add_block _ _)) hw165_2 hk'
         refine start_ (n := 9) (S := fun w' => w'.cell? ⟨gb124, 0, none⟩ = some (.int .i64 a1_0) ∧ w'.cell? ⟨gb124, 1, none⟩ = some (.int .i64 a1_1) ∧ w'.cell? ⟨gb124, 2, none⟩ = some (.slice (some ad165) l1_2.length c1_2) ∧ w'.cell? ad165 = some (.int .i64 ((rd_T24 l1_2 0).f0)) ∧ w'.cell? ⟨ad165.block, ad165.off + 1, none⟩ = some (.int .i64 ((rd_T24 l1_2 0).f1)) ∧ w'.cell? ⟨ad165.block, ad165.off + 2, none⟩ = some (.slice A165_2 ((rd_T24 l1_2 0).f2).length c165_2)) (ds := []) #[false, false, false, false, false, false, false, false, false] (by kernel_rfl) rfl rfl ⟨(blk_cell BK124.out 0).trans rfl, (blk_cell BK124.out 1).trans rfl, (blk_cell BK124.out 2).trans rfl, (hg165_0 _ (by repeat (first | exact HK.out | apply Kept.alloc | apply Kept.drewN | apply Kept.drew))), (hg165_1 _ (by repeat (first | exact HK.out | apply Kept.alloc | apply Kept.drewN | apply Kept.drew))), (hg165_2 _ (by repeat (first | exact HK.out | apply Kept.alloc | apply Kept.drewN | apply Kept.drew)))⟩ (fun hHeld => ?_); refine with_tabW expr_text.tab12 expr_text.bits12 (fun HT_ HW_ => ?_)
         generalize w25.drew = w50 at HO0 BK124 HK HB HR165_2 hx165_0 hx165_1 hx165_2 hHeld ⊢
         refine pure_ (i := 0) (N := some 45) (v := ?_) (a' := ?_) #[true, false, false, false, false, false, false, false, false] rfl rfl (any_of HT_.out (by kernel_rfl)) (fun _ _ _ h => h) (Or.inl ⟨by rfl, ?_⟩) ?_ ?_
         rotate_left
         ·intro w'
          go_simp
          with_reducible rfl
         rotate_left
         ·simp only [Act.put, List.setIfInBounds_toArray, List.set_cons_zero, List.set_cons_succ, i64_w, i32_w]
          rfl
         refine pure_ (i := 3) (N := some 48) (v := ?_) (a' := ?_) #[true, false, false, true, false, false, false, false, false] rfl rfl (any_of HT_.out (by kernel_rfl)) (fun _ _ _ h => h) (Or.inl ⟨by rfl, ?_⟩) ?_ ?_
         rotate_left
         ·intro w'
          go_simp
          with_reducible rfl
         rotate_left
         ·simp only [Act.put, List.setIfInBounds_toArray, List.set_cons_zero, List.set_cons_succ, i64_w, i32_w]
          rfl
         refine take_ (i := 4) (N := some 49) (v := ?_) (a' := ?_) #[true, false, false, true, true, false, false, false, false] rfl rfl (take_ofW HT_.out HW_.out (by kernel_rfl)) (fun _ _ _ h => h) (Or.inl ⟨by rfl, ?_⟩) hHeld ?_ ?_
         rotate_left
         ·rintro w' ⟨s0, s1, s2, s3, s4, s5⟩
          go_simp
          with_reducible rfl
         rotate_left
         ·simp only [Act.put, List.setIfInBounds_toArray, List.set_cons_zero, List.set_cons_succ, i64_w, i32_w]
          rfl
         refine pure_ (i := 5) (N := some 50) (v := ?_) (a' := ?_) #[true, false, false, true, true, true, false, false, false] rfl rfl (any_of HT_.out (by kernel_rfl)) (fun _ _ _ h => h) (Or.inl ⟨by rfl, ?_⟩) ?_ ?_
         rotate_left
         ·intro w'
          go_simp
          with_reducible rfl
         rotate_left
         ·simp only [Act.put, List.setIfInBounds_toArray, List.set_cons_zero, List.set_cons_succ, i64_w, i32_w]
          rfl
         refine take_ (i := 6) (N := some 51) (v := ?_) (a' := ?_) #[true, false, false, true, true, true, true, false, false] rfl rfl (take_ofW HT_.out HW_.out (by kernel_rfl)) (fun _ _ _ h => h) (Or.inl ⟨by rfl, ?_⟩) hHeld ?_ ?_
         rotate_left
         ·rintro w' ⟨s0, s1, s2, s3, s4, s5⟩
          go_simp
          with_reducible rfl
         rotate_left
         ·simp only [Act.put, List.setIfInBounds_toArray, List.set_cons_zero, List.set_cons_succ, i64_w, i32_w]
          rfl
         refine one_ (i := 1) (N := some 46) #[true, true, false, true, true, true, true, false, false] rfl rfl (one_of HT_.out (by kernel_rfl)) (by decide) (fun K hK => ?_)
         refine Kd.R_lit_step (Kd.int .u8) _ 5 ?hg (N := 46) ?hd (xs := ([33] : List Int)) (inner := [.int .u8 33]) (ok := fun _ => True) (okp := fun _ => True) ?hr ?hp (fun _ hk => hk) trivial (Below.refl _ _) (Nat.le_refl _) (by simp) ?_; (case hd => rfl); (case hg => rfl); (case hr => first | (go_simp; done) | (go_simp; rfl)); (case hp => exact (Reps.one (show Kd.M (Kd.int .u8) _ _ _ 33 [.int .u8 33] from rfl) (Reps.none _ _)))
         intro v160 w51 ho52 hb hg_ hnew_
         clear hg_ hnew_
         (first | rw [← Ny159.out] at ho52 | (simp only [Int.reduceToNat] at ho52; rw [← Ny159.out] at ho52))
         have n0_ := Aside0.mk (Kd.R_elder' (by (with_reducible repeat (first | apply Kd.R_alloc | apply Kd.R_drewN | apply Kd.R_drew)); exact HO0.out) (Kd.R_base ho52) hb)
         have n1_ := Aside0.mk (Kd.R_lower (Kd.R_new' (Kd.R_newM (M := fun k_ => (P0_ k_ ∨ w.heap.size ≤ k_)) ho52 (by first | exact HK.out.1 | exact (show Kept w _ (fun k_ => P0_ k_) from kP).1) (fun k_ h_ => .inr h_)) (Kd.R_lt (by (with_reducible repeat (first | apply Kd.R_alloc | apply Kd.R_drewN | apply Kd.R_drew)); exact HO0.out))) (below_size (bB)))
         have n2_ := Aside0.mk (blk_below (g := gb124) (o := .cells #[.int .i64 a1_0, .int .i64 a1_1, .slice (some ad165) l1_2.length c1_2] 24 (0, 0)) (bK) hb)
         have n3_ := Aside0.mk (Kept.below (S := (fun k_ => P0_ k_)) (kP) hb)
         have n4_ := Aside0.mk (below_step (bB) hb)
         clear HO0
         clear BK124
         clear HK
         clear HB
         have HO0 := n0_
         have HO161 := n1_
         have BK124 := n2_
         have HK := n3_
         have HB := n4_
         clear n0_ n1_ n2_ n3_ n4_
         clear hb ho52
         obtain ⟨Ao54, co54, eo54⟩ := Kd.R_slice HO161.out
         (first | subst eo54 | (injection eo54 with f1_ f2_ f3_; have f4_ := f1_.symm; have f5_ := f3_.symm; clear f1_ f2_ f3_; subst f4_; subst f5_))
         refine hK.out _ _ ⟨(blk_cell BK124.out 0).trans rfl, (blk_cell BK124.out 1).trans rfl, (blk_cell BK124.out 2).trans rfl, (hg165_0 _ (by repeat (first | exact HK.out | apply Kept.alloc | apply Kept.drewN | apply Kept.drew))), (hg165_1 _ (by repeat (first | exact HK.out | apply Kept.alloc | apply Kept.drewN | apply Kept.drew))), (hg165_2 _ (by repeat (first | exact HK.out | apply Kept.alloc | apply Kept.drewN | apply Kept.drew)))⟩ (fun hHeld => ?_)
         clear hK K
         refine norm_ (a' := ?_) ?_ ?_
         rotate_left
         ·show Act.put _ (some 46) _ = _
          simp only [Act.put, List.setIfInBounds_toArray, List.set_cons_zero, List.set_cons_succ, i64_w, i32_w]
          rfl
         refine one_ (i := 2) (N := some 47) #[true, true, true, true, true, true, true, false, false] rfl rfl (one_of HT_.out (by kernel_rfl)) (by decide) (fun K hK => ?_)
         refine Kd.R_append_rows_step (Kd.int .u8) (w0 := w0) w0.heap.size (by rfl) (.tmp 45) (.tmp 46) 43 5 (.int .u8 0) 1 rfl Try.underlying43 info5 rfl (by decide) (by omega) u9000_ l0 y159 _ _ _ (fun k_ => (P0_ k_ ∨ w.heap.size ≤ k_) ∧ some k_ ≠ (.slice Ao54 y159.length co54 : Value).ownBlock) (fun _ => False) rfl rfl ?aO ?aR (fun _ _ h => h) (fun _ h => h.elim) ?aF ?aB ?aS ?aL ?_
         (case aR => repeat (first | exact (Kd.R_reads' HO161.out).2.2 | (with_reducible refine Kd.C_alloc ?_ _) | (with_reducible refine Kd.C_drewN ?_ _) | (with_reducible refine Kd.C_drew ?_)))
         (case aB => exact (bB))
         (case aF => exact (fun k_ hk => ⟨(.inr (Nat.le_trans (by first | exact HK.out.1 | exact (show Kept w _ (fun k_ => P0_ k_) from kP).1) hk)), Kd.fresh' (Kd.R_lt (by (with_reducible repeat (first | apply Kd.R_alloc | apply Kd.R_drewN | apply Kd.R_drew)); exact HO161.out)) k_ hk⟩))
         (case aO => exact (by (with_reducible repeat (first | apply Kd.R_alloc | apply Kd.R_drewN | apply Kd.R_drew)); exact HO0.out))
         (case aS => exact (below_size (bB)))
         (case aL => have := LMc47.out; omega)
         intro v163 w53 ho hb hg hat
         rw [← Ny162.out] at ho
         have n0_ := Aside0.mk (blk_grown (g := gb124) (o := .cells #[.int .i64 a1_0, .int .i64 a1_1, .slice (some ad165) l1_2.length c1_2] 24 (0, 0)) (bK) hg (Kd.R_ne HO0.out BK124.out (by decide)))
         have n1_ := Aside0.mk (Kd.R_after (ok := (fun k_ => (P0_ k_ ∨ w.heap.size ≤ k_))) (by (with_reducible repeat (first | apply Kd.R_alloc | apply Kd.R_drewN | apply Kd.R_drew)); exact Kd.R_mono HO161.out (fun _ hk => ⟨hk.1.1, hk.2⟩)) hg hat)
         have n2_ := Aside0.mk (hb)
         have n3_ := Aside0.mk (Kept.of_grown (S := (fun k_ => P0_ k_)) hg (kP) (fun k_ e_ => (HO0.out.1 k_ e_).1))
         have n4_ := Aside0.mk (ho)
         clear BK124
         clear HO161
         clear HB
         clear HK
         clear HO0
         have BK124 := n0_
         have HO161 := n1_
         have HB := n2_
         have HK := n3_
         have HO164 := n4_
         clear n0_ n1_ n2_ n3_ n4_
         clear ho hb hg hat
         obtain ⟨Ao55, co55, eo55⟩ := Kd.R_slice HO164.out
         (first | subst eo55 | (injection eo55 with f1_ f2_ f3_; have f4_ := f1_.symm; have f5_ := f3_.symm; clear f1_ f2_ f3_; subst f4_; subst f5_))
         refine hK.out _ _ ⟨(blk_cell BK124.out 0).trans rfl, (blk_cell BK124.out 1).trans rfl, (blk_cell BK124.out 2).trans rfl, (hg165_0 _ (by repeat (first | exact HK.out | apply Kept.alloc | apply Kept.drewN | apply Kept.drew))), (hg165_1 _ (by repeat (first | exact HK.out | apply Kept.alloc | apply Kept.drewN | apply Kept.drew))), (hg165_2 _ (by repeat (first | exact HK.out | apply Kept.alloc | apply Kept.drewN | apply Kept.drew)))⟩ (fun hHeld => ?_)
         clear hK K
         refine norm_ (a' := ?_) ?_ ?_
         rotate_left
         ·show Act.put _ (some 47) _ = _
          simp only [Act.put, List.setIfInBounds_toArray, List.set_cons_zero, List.set_cons_succ, i64_w, i32_w]
          rfl
         refine one_ (i := 7) (N := some 52) #[true, true, true, true, true, true, true, true, false] rfl rfl (one_of HT_.out (by kernel_rfl)) (by decide) (fun K hK => ?_)
         refine goes_ Try.func47 (by kernel_rfl) rfl #[.slice Ao55 y162.length co55, .agg #[.int .i64 ((rd_T24 l1_2 0).f0), .int .i64 ((rd_T24 l1_2 0).f1), .slice A165_2 ((rd_T24 l1_2 0).f2).length c165_2], .int .i64 4] (by rfl) rfl rfl (by (try simp only [List.map_toArray, List.map_cons, List.map_nil]); first | done | rfl | (simp only [List.length_drop, List.length_take]; rfl)) ?_
         with_reducible refine (ih k (by omega) (fun k_ => some k_ = (.slice Ao55 y162.length co55 : Value).ownBlock) (.slice Ao55 y162.length co55) y162 ((rd_T24 l1_2 0).f0) ((rd_T24 l1_2 0).f1) _ _ ((rd_T24 l1_2 0).f2) 4 t166 w0 _ ?side1 ?side2 ?side3 ?side4 A49.out).mono ?_
         (case side1 => repeat (first | (with_reducible first | exact HB.out | apply below_alloc | apply pw_below_drewN | apply below_drew1 | refine below_set ?_ GE124.out) | exact HB.out))
         (case side2 => exact Kd.R_tight rfl HO164.out)
         (case side3 => exact Kd.C_kept_call HR165_2.out (kP) (fun k_ hs_ => (fun e_ => (HO164.out.1 k_ e_.symm).1) hs_))
         (case side4 => exact HC165_2.out)
         rintro e w56 ⟨v167, rfl, ho0, hb, hkp⟩
         refine ⟨_, rfl, ?_⟩
         have n0_ := Aside0.mk (blk_kept (bK) hkp (fun hs_ => (fun e_ => (Kd.R_ne HO164.out BK124.out (by decide)) e_) hs_))
         have n1_ := Aside0.mk (Kd.R_mono (ok' := fun k_ => (P0_ k_ ∨ w.heap.size ≤ k_) ∧ some k_ ≠ (v167 : Value).ownBlock) (Kd.R_keptB (HO161.out) hkp (fun k_ hk_ hs_ => (hk_.2) hs_)) (fun k_ hk_ => ⟨hk_.1.1, fun e_ => Or.elim (ho0.1 k_ e_.symm) (fun hs_ => hk_.2.1 hs_) (fun hn_ => Nat.not_le.2 hk_.2.2 hn_)⟩))
         have n2_ := Aside0.mk (Kd.R_mono (ok' := fun k_ => (P0_ k_ ∨ w.heap.size ≤ k_) ∧ some k_ ≠ (.slice Ao54 y159.length co54 : Value).ownBlock) ho0 (fun k_ hk_ => ⟨Or.elim hk_ (fun hs_ => (HO164.out.1 k_ (hs_).symm).1) (fun hn_ => (.inr (Nat.le_trans (by first | exact HK.out.1 | exact (show Kept w _ (fun k_ => P0_ k_) from kP).1) hn_))), Or.elim hk_ (fun hs_ => fun e_ => (((HO161.out).1 k_ e_.symm).2) hs_) (fun hn_ => (Kd.fresh' (Kd.R_lt (by (with_reducible repeat (first | apply Kd.R_alloc | apply Kd.R_drewN | apply Kd.R_drew)); exact HO161.out)) k_ hn_))⟩))
         have n3_ := Aside0.mk (Kept.then_ (S := (fun k_ => P0_ k_)) (kP) hkp (fun k_ hs_ => (fun e_ => (HO164.out.1 k_ e_.symm).1) hs_))
         have n4_ := Aside0.mk (hb)
         clear BK124
         clear HO161
         clear HK
         clear HB
         clear HO164
         have BK124 := n0_
         have HO161 := n1_
         have HO168 := n2_
         have HK := n3_
         have HB := n4_
         clear n0_ n1_ n2_ n3_ n4_
         (try clear hb)
         (try clear hkp)
         (try clear ho0)
         refine hK.out _ _ ⟨(blk_cell BK124.out 0).trans rfl, (blk_cell BK124.out 1).trans rfl, (blk_cell BK124.out 2).trans rfl, (hg165_0 _ (by repeat (first | exact HK.out | apply Kept.alloc | apply Kept.drewN | apply Kept.drew))), (hg165_1 _ (by repeat (first | exact HK.out | apply Kept.alloc | apply Kept.drewN | apply Kept.drew))), (hg165_2 _ (by repeat (first | exact HK.out | apply Kept.alloc | apply Kept.drewN | apply Kept.drew)))⟩ (fun hHeld => ?_)
         clear hK K
         refine norm_ (a' := ?_) ?_ ?_
         rotate_left
         ·show Act.put _ (some 52) _ = _
          simp only [Act.put, List.setIfInBounds_toArray, List.set_cons_zero, List.set_cons_succ, i64_w, i32_w]
          rfl
         refine pure_ (i := 8) (N := some 6) (v := ?_) (a' := ?_) #[true, true, true, true, true, true, true, true, true] rfl rfl (any_of HT_.out (by kernel_rfl)) (fun _ _ _ h => h) (Or.inl ⟨by rfl, ?_⟩) ?_ ?_
         rotate_left
         ·intro w'
          go_simp
          with_reducible rfl
         rotate_left
         ·simp only [Act.put, List.setIfInBounds_toArray, List.set_cons_zero, List.set_cons_succ, i64_w, i32_w]
          rfl
         refine done_ (done_of HT_.out (by kernel_rfl)) ?_
         try go_wp2
         go_ret
         exact ⟨_, by first | rfl | (simp [errW_none, errW_some] <;> rfl) | (simp [*, errW_none, errW_some] <;> rfl), by (with_reducible repeat (first | apply Kd.R_alloc | apply Kd.R_drewN | apply Kd.R_drew)); exact Kd.R_mono HO168.out (fun _ hk => hk.1), bB, kP⟩
        ·rw [if_neg c48] at H
         exact absurd H (by simp)
       ·rw [if_neg c47] at H
        exact absurd H (by simp)
      ·rw [if_neg c46] at H
       have c46b0 : (a1_0 == 8) = false := beq_eq_false_iff_ne.mpr c46
       have c46b1 : (a1_0 != 8) = true := bne_iff_ne.mpr c46
       by_cases c57 : a1_0 = 7
       ·rw [if_pos c57] at H
        have c57b0 : (a1_0 == 7) = true := beq_iff_eq.mpr c57
        have c57b1 : (a1_0 != 7) = false := bne_eq_false_iff_eq.mpr c57
        clear c57
        by_cases c58 : 0 < (l1_2.length : Int)
        ·rw [if_pos c58] at H
         have c58b0 : decide (0 < (l1_2.length : Int)) = true := decide_eq_true c58
         have c58b1 : decide (0 < l1_2.length) = true := decide_eq_true (by omega)
         clear c58
         replace H := Option.bind_eq_some_iff.mp H
         obtain ⟨t170, A590, H⟩ := H
         replace H : ((some (([42] : List Int) : List Int)).bind fun y173 => (if t170.length + y173.length < 140737488355328 then (some (t170 ++ y173)) else (none))) = some r := H
         have A59 := Aside0.mk A590
         clear A590
         obtain ⟨y173, hy173⟩ : ∃ y_ : List Int, y_ = (([42] : List Int)) := ⟨_, rfl⟩
         replace H : (if t170.length + y173.length < 140737488355328 then (some (t170 ++ y173)) else (none)) = some r := by first | (rw [hy173]; with_reducible exact H) | (have H2_ := (Option.bind_some _ _).symm.trans H; rw [hy173]; with_reducible exact H2_) | (have H2_ := (Option.bind_some _ _).symm.trans H; with_reducible exact H2_) | with_reducible exact H | (rw [hy173]; exact H) | exact H
         have Ny173 := Aside0.mk hy173
         clear hy173
         by_cases c60 : t170.length + y173.length < 140737488355328
         ·rw [if_pos c60] at H
          have LMc60 := Aside0.mk c60
          clear c60
          obtain ⟨y176, hy176⟩ : ∃ y_ : List Int, y_ = (t170 ++ y173) := ⟨_, rfl⟩
          replace H : (some y176) = some r := by first | (rw [hy176]; with_reducible exact H) | (have H2_ := (Option.bind_some _ _).symm.trans H; rw [hy176]; with_reducible exact H2_) | (have H2_ := (Option.bind_some _ _).symm.trans H; with_reducible exact H2_) | with_reducible exact H | (rw [hy176]; exact H) | exact H
          have Ny176 := Aside0.mk hy176
          clear hy176
          obtain rfl := Option.some.inj H
          have hcz61_0 : w25.cell? ⟨gb124, 0, none⟩ = some (.int .i64 a1_0) := (blk_cell BK124.out 0).trans rfl
          have hcz61_1 : w25.cell? ⟨gb124, 1, none⟩ = some (.int .i64 a1_1) := (blk_cell BK124.out 1).trans rfl
          have hcz61_2 : w25.cell? ⟨gb124, 2, none⟩ = some (.slice A1_2 l1_2.length c1_2) := (blk_cell BK124.out 2).trans rfl
          have hfz61_0 := blk_frozen BK124.out 0
          have hfz61_1 := blk_frozen BK124.out 1
          have hfz61_2 := blk_frozen BK124.out 2
          have p169 : 0 ≤ (0 : Int) := (by omega)
          have q169 : 0 < (l1_2.length : Int) := of_decide_eq_true (by first | (with_reducible assumption) | assumption)
          obtain ⟨ad169, A169_2, c169_2, e169, hx169_0, hx169_1, hx169_2, hl169_2, hi169_2⟩ := at_T24 (Kd.C_kept_now HR1_2.out HK.out) 0 p169 q169
          have hF169_2 := fun W' hk' => (by obtain ⟨ad', A'_2, c'_2, e', hx'_0, hx'_1, hx'_2, hl'_2, hi'_2⟩ := at_T24 (HR1_2.out W' hk') 0 p169 q169; obtain rfl := Option.some.inj (e169.symm.trans e'); have z_ := Option.some.inj (hx'_2.symm.trans (FootX.cellS (e169 ▸ HR1_2.out) (by have h1_ := p169; have h2_ := q169; omega) (by decide) HK.out (by first | rfl | exact add_block _ _ | (show (Addr.add _ _).block = _; exact add_block _ _)) hx169_2 hk')); injection z_ with z1_ z2_ z3_; rw [← z1_]; exact hi'_2 : Kd.C k24 W' A169_2 _ ((rd_T24 l1_2 0).f2))
          cases e169
          have qi169 : (0 < l1_2.length) = True := eq_true (by omega)
          (try rw [show ((0 : Int)).toNat = 0 from rfl] at hx169_0)
          (try rw [show 0 * 3 = 0 from rfl] at hx169_0)
          (try rw [Addr.add_zero'] at hx169_0)
          (try rw [show ((0 : Int)).toNat = 0 from rfl] at hx169_1)
          (try rw [show 0 * 3 = 0 from rfl] at hx169_1)
          (try rw [Addr.add_zero'] at hx169_1)
          (try rw [show ((0 : Int)).toNat = 0 from rfl] at hx169_2)
          (try rw [show 0 * 3 = 0 from rfl] at hx169_2)
          (try rw [Addr.add_zero'] at hx169_2)
          have HR169_2 := Aside0.mk hF169_2
          clear hF169_2
          have HC169_2 := Aside0.mk hl169_2
          clear hi169_2 hl169_2
          replace p169 := eq_true p169
          replace q169 := eq_true q169
          obtain ⟨Ao62, co62, eo62⟩ := Kd.R_slice HO0.out
          subst eo62
          go_wp2_with (first | ((with_reducible refine gate_callee (f := 47) rfl ?_); refine goesL_ (some 60) rfl rfl Try.func47 (by kernel_rfl) rfl #[.slice Ao62 l0.length co62, .agg #[.int .i64 ((rd_T24 l1_2 0).f0), .int .i64 ((rd_T24 l1_2 0).f1), .slice A169_2 ((rd_T24 l1_2 0).f2).length c169_2], .int .i64 5] rfl (by (try simp only [List.map_toArray, List.map_cons, List.map_nil]); first | done | rfl | (simp only [List.length_drop, List.length_take]; rfl) | (simp only [Int.ofNat_lt, Int.ofNat_le]; rfl)) ?_; (with_reducible refine (ih k (by omega) (fun k_ => some k_ = (.slice Ao62 l0.length co62 : Value).ownBlock) (.slice Ao62 l0.length co62) l0 ((rd_T24 l1_2 0).f0) ((rd_T24 l1_2 0).f1) _ _ ((rd_T24 l1_2 0).f2) 5 t170 w0 _ ?side1 ?side2 ?side3 ?side4 A59.out).mono ?_); (case side1 => repeat (first | (with_reducible first | exact HB.out | apply below_alloc | apply pw_below_drewN | apply below_drew1 | refine below_set ?_ GE124.out) | exact HB.out)); (case side2 => exact Kd.R_tight rfl HO0.out); (case side3 => exact Kd.C_kept_call HR169_2.out (kP) (fun k_ hs_ => (fun e_ => (HO0.out.1 k_ e_.symm)) hs_)); (case side4 => exact HC169_2.out); rintro e w63 ⟨v171, rfl, ho0, hb, hkp⟩; refine ⟨_, rfl, ?_⟩; have n0_ := Aside0.mk (blk_kept (bK) hkp (fun hs_ => (fun e_ => (Kd.R_ne HO0.out BK124.out (by decide)) e_) hs_)); have n1_ := Aside0.mk (Kd.R_mono (ok' := fun k_ => (P0_ k_ ∨ w.heap.size ≤ k_)) ho0 (fun k_ hk_ => Or.elim hk_ (fun hs_ => (HO0.out.1 k_ (hs_).symm)) (fun hn_ => (.inr (Nat.le_trans (by first | exact HK.out.1 | exact (show Kept w _ (fun k_ => P0_ k_) from kP).1) hn_))))); have n2_ := Aside0.mk (Kept.then_ (S := (fun k_ => P0_ k_)) (kP) hkp (fun k_ hs_ => (fun e_ => (HO0.out.1 k_ e_.symm)) hs_)); have n3_ := Aside0.mk (hb); clear BK124; clear HK; clear HB; clear HO0; have BK124 := n0_; have HO172 := n1_; have HK := n2_; have HB := n3_; clear n0_ n1_ n2_ n3_; (try clear hb); (try clear hkp); (try clear ho0)) | ((with_reducible refine gate_dst (N := 61) rfl ?_); refine Kd.R_lit (Kd.int .u8) _ 5 ?hg (N := 61) ?hd (xs := ([42] : List Int)) (inner := [.int .u8 42]) (ok := fun _ => True) (okp := fun _ => True) ?hr ?hp (fun _ hk => hk) trivial (Below.refl _ _) (Nat.le_refl _) (by simp) ?_; (case hd => rfl); (case hg => rfl); (case hr => first | (go_simp; done) | (go_simp; rfl)); (case hp => exact (Reps.one (show Kd.M (Kd.int .u8) _ _ _ 42 [.int .u8 42] from rfl) (Reps.none _ _))); intro v174 w64 ho65 hb hg_ hnew_; clear hg_ hnew_; (first | rw [← Ny173.out] at ho65 | (simp only [Int.reduceToNat] at ho65; rw [← Ny173.out] at ho65)); have n0_ := Aside0.mk (Kd.R_elder' (by (with_reducible repeat (first | apply Kd.R_alloc | apply Kd.R_drewN | apply Kd.R_drew)); exact HO172.out) (Kd.R_base ho65) hb); have n1_ := Aside0.mk (Kd.R_lower (Kd.R_new' (Kd.R_newM (M := fun k_ => (P0_ k_ ∨ w.heap.size ≤ k_)) ho65 (by first | exact HK.out.1 | exact (show Kept w _ (fun k_ => P0_ k_) from kP).1) (fun k_ h_ => .inr h_)) (Kd.R_lt (by (with_reducible repeat (first | apply Kd.R_alloc | apply Kd.R_drewN | apply Kd.R_drew)); exact HO172.out))) (below_size (bB))); have n2_ := Aside0.mk (blk_below (g := gb124) (o := .cells #[.int .i64 a1_0, .int .i64 a1_1, .slice (some ad169) l1_2.length c1_2] 24 (0, 0)) (bK) hb); have n3_ := Aside0.mk (Kept.below (S := (fun k_ => P0_ k_)) (kP) hb); have n4_ := Aside0.mk (below_step (bB) hb); clear HO172; clear BK124; clear HK; clear HB; have HO172 := n0_; have HO175 := n1_; have BK124 := n2_; have HK := n3_; have HB := n4_; clear n0_ n1_ n2_ n3_ n4_; clear hb ho65; obtain ⟨Ao67, co67, eo67⟩ := Kd.R_slice HO175.out; subst eo67) | ((with_reducible refine gate_builtin (b := .append) (xs := #[.tmp 60, .tmp 61]) rfl ?_); at_builtin; refine Kd.R_append_rows (Kd.int .u8) (w0 := w0) w0.heap.size rfl (.tmp 60) (.tmp 61) 43 5 (.int .u8 0) 1 rfl Try.underlying43 info5 rfl (by decide) (by omega) v171 t170 y173 _ _ _ (fun k_ => (P0_ k_ ∨ w.heap.size ≤ k_) ∧ some k_ ≠ (.slice Ao67 y173.length co67 : Value).ownBlock) (fun _ => False) rfl rfl ?aO ?aR (fun _ _ h => h) (fun _ h => h.elim) ?aF ?aB ?aS ?aL ?_; (case aR => repeat (first | exact (Kd.R_reads' HO175.out).2.2 | (with_reducible refine Kd.C_alloc ?_ _) | (with_reducible refine Kd.C_drewN ?_ _) | (with_reducible refine Kd.C_drew ?_))); (case aB => exact (bB)); (case aF => exact (fun k_ hk => ⟨(.inr (Nat.le_trans (by first | exact HK.out.1 | exact (show Kept w _ (fun k_ => P0_ k_) from kP).1) hk)), Kd.fresh' (Kd.R_lt (by (with_reducible repeat (first | apply Kd.R_alloc | apply Kd.R_drewN | apply Kd.R_drew)); exact HO175.out)) k_ hk⟩)); (case aO => exact (by (with_reducible repeat (first | apply Kd.R_alloc | apply Kd.R_drewN | apply Kd.R_drew)); exact HO172.out)); (case aS => exact (below_size (bB))); (case aL => have := LMc60.out; omega); intro v177 w66 ho hb hg hat; rw [← Ny176.out] at ho; have n0_ := Aside0.mk (blk_grown (g := gb124) (o := .cells #[.int .i64 a1_0, .int .i64 a1_1, .slice (some ad169) l1_2.length c1_2] 24 (0, 0)) (bK) hg (Kd.R_ne HO172.out BK124.out (by decide))); have n1_ := Aside0.mk (Kd.R_after (ok := (fun k_ => (P0_ k_ ∨ w.heap.size ≤ k_))) (by (with_reducible repeat (first | apply Kd.R_alloc | apply Kd.R_drewN | apply Kd.R_drew)); exact Kd.R_mono HO175.out (fun _ hk => ⟨hk.1.1, hk.2⟩)) hg hat); have n2_ := Aside0.mk (hb); have n3_ := Aside0.mk (Kept.of_grown (S := (fun k_ => P0_ k_)) hg (kP) (fun k_ e_ => (HO172.out.1 k_ e_).1)); have n4_ := Aside0.mk (ho); clear BK124; clear HO175; clear HB; clear HK; clear HO172; have BK124 := n0_; have HO175 := n1_; have HB := n2_; have HK := n3_; have HO178 := n4_; clear n0_ n1_ n2_ n3_ n4_; clear ho hb hg hat))
          go_ret
          exact ⟨_, by first | rfl | (simp [errW_none, errW_some] <;> rfl) | (simp [*, errW_none, errW_some] <;> rfl), by (with_reducible repeat (first | apply Kd.R_alloc | apply Kd.R_drewN | apply Kd.R_drew)); exact Kd.R_mono HO178.out (fun _ hk => hk.1), bB, kP⟩
         ·rw [if_neg c60] at H
          exact absurd H (by simp)
        ·rw [if_neg c58] at H
         exact absurd H (by simp)
       ·rw [if_neg c57] at H
        have c57b0 : (a1_0 == 7) = false := beq_eq_false_iff_ne.mpr c57
        have c57b1 : (a1_0 != 7) = true := bne_iff_ne.mpr c57
        by_cases c68 : a1_0 = 4
        ·rw [if_pos c68] at H
         have c68b0 : (a1_0 == 4) = true := beq_iff_eq.mpr c68
         have c68b1 : (a1_0 != 4) = false := bne_eq_false_iff_eq.mpr c68
         clear c68
         have H' := Aside0.mk H
         clear H
         go_wp2
         go_meet
         case rel => exact ⟨_, (124), (by first | rfl | (simp; done) | (simp [*]; done)), H', ⟨by first | omega | exact Nat.le_refl _⟩, ⟨by (with_reducible repeat (first | apply Kd.R_alloc | apply Kd.R_drewN | apply Kd.R_drew)); exact HO0.out⟩, ⟨bK⟩, ⟨kP⟩, ⟨bB⟩⟩
        ·rw [if_neg c68] at H
         have c68b0 : (a1_0 == 4) = false := beq_eq_false_iff_ne.mpr c68
         have c68b1 : (a1_0 != 4) = true := bne_iff_ne.mpr c68
         by_cases c69 : a1_0 = 6
         ·rw [if_pos c69] at H
          have c69b0 : (a1_0 == 6) = true := beq_iff_eq.mpr c69
          have c69b1 : (a1_0 != 6) = false := bne_eq_false_iff_eq.mpr c69
          clear c69
          have H' := Aside0.mk H
          clear H
          go_wp2
          go_meet
          case rel => exact ⟨_, (38), (by first | rfl | (simp; done) | (simp [*]; done)), H', ⟨by first | omega | exact Nat.le_refl _⟩, ⟨by (with_reducible repeat (first | apply Kd.R_alloc | apply Kd.R_drewN | apply Kd.R_drew)); exact HO0.out⟩, ⟨bK⟩, ⟨kP⟩, ⟨bB⟩⟩
         ·rw [if_neg c69] at H
          have c69b0 : (a1_0 == 6) = false := beq_eq_false_iff_ne.mpr c69
          have c69b1 : (a1_0 != 6) = true := bne_iff_ne.mpr c69
          have H' := Aside0.mk H
          clear H
          go_wp2
          go_meet
          case rel => exact ⟨_, (0), (by first | rfl | (simp; done) | (simp [*]; done)), H', ⟨by first | omega | exact Nat.le_refl _⟩, ⟨by (with_reducible repeat (first | apply Kd.R_alloc | apply Kd.R_drewN | apply Kd.R_drew)); exact HO0.out⟩, ⟨bK⟩, ⟨kP⟩, ⟨bB⟩⟩
  case rest =>
   clear HC24
   try clear c1
   try clear p1
   try clear q1
   try clear hx1
   try clear qi1
   try clear c2
   try clear p2
   try clear c3
   try clear c4
   try clear c5
   try clear c5b0
   try clear c6
   try clear c8
   try clear c16
   try clear p16
   try clear q16
   try clear hx16
   try clear qi16
   try clear c27
   try clear c27b0
   try clear c27b1
   try clear c28
   try clear c33
   try clear c33b0
   try clear c33b1
   try clear c34
   try clear c39
   try clear c39b0
   try clear c39b1
   try clear c40
   try clear c46
   try clear c46b0
   try clear c46b1
   try clear c47
   try clear c48
   try clear c48b0
   try clear c48b1
   try clear c57
   try clear c57b0
   try clear c57b1
   try clear c58
   try clear c58b0
   try clear c58b1
   try clear c60
   try clear c68
   try clear c68b0
   try clear c68b1
   try clear c69
   try clear c69b0
   try clear c69b1
   try clear hcz26_0
   try clear hcz26_1
   try clear hcz26_2
   try clear hcz41_0
   try clear hcz41_1
   try clear hcz41_2
   try clear hcz61_0
   try clear hcz61_1
   try clear hcz61_2
   try clear hfz26_0
   try clear hfz26_1
   try clear hfz26_2
   try clear hfz41_0
   try clear hfz41_1
   try clear hfz41_2
   try clear hfz61_0
   try clear hfz61_1
   try clear hfz61_2
   try clear hx165_0
   try clear hx165_1
   try clear hx165_2
   try clear hx169_0
   try clear hx169_1
   try clear hx169_2
   try clear p165
   try clear p169
   try clear q165
   try clear q169
   obtain ⟨kq, x7_23, rfl, HA, HJ23, HO_0, BK124, HK, HB⟩ := hcut
   cases kq with
   | zero => exact absurd HA.out (by simp [expr_text.j0])
   | succ kj23 =>
    have H := HA.out
    clear HA
    simp only [expr_text.j0] at H
    have H' := Aside0.mk H
    clear H
    have hcz70_0 : wc.cell? ⟨gb124, 0, none⟩ = some (.int .i64 a1_0) := (blk_cell BK124.out 0).trans rfl
    have hcz70_1 : wc.cell? ⟨gb124, 1, none⟩ = some (.int .i64 a1_1) := (blk_cell BK124.out 1).trans rfl
    have hcz70_2 : wc.cell? ⟨gb124, 2, none⟩ = some (.slice A1_2 l1_2.length c1_2) := (blk_cell BK124.out 2).trans rfl
    have hfz70_0 := blk_frozen BK124.out 0
    have hfz70_1 := blk_frozen BK124.out 1
    have hfz70_2 := blk_frozen BK124.out 2
    go_wp2
    go_loopg [0, 70] kj23 (fun kq v0 v70 w' => ∃ (x0_2 : List Int) (x70_2 : Int), v70 = .int .i64 x70_2 ∧ Aside0 (expr_text.l0 kq x0_2 x7_23 l1_2 (l1_2.length : Int) x70_2 a1_0 a1_1 l1_2 = some r) ∧ Aside0 (kq ≤ kj23) ∧ Aside0 (Kd.R (Kd.int .u8) 5 w' w0.heap.size (fun k_ => (P0_ k_ ∨ w.heap.size ≤ k_)) v0 x0_2) ∧ Aside0 (w'.heap[gb124]? = some (.cells #[.int .i64 a1_0, .int .i64 a1_1, (.slice A1_2 l1_2.length c1_2)] 24 (0, 0))) ∧ Aside0 (Kept w w' (fun k_ => P0_ k_)) ∧ Aside0 (Below w0.heap.size w0 w'))
    case atStart => exact ⟨(l0), (0), (by first | rfl | (simp; done) | (simp [*]; done)), H', ⟨Nat.le_refl _⟩, ⟨by (with_reducible repeat (first | apply Kd.R_alloc | apply Kd.R_drewN | apply Kd.R_drew)); exact HO_0.out⟩, ⟨bK⟩, ⟨kP⟩, ⟨bB⟩⟩
    case round =>
     clear H'
     try clear c1
     try clear p1
     try clear q1
     try clear hx1
     try clear qi1
     try clear c2
     try clear p2
     try clear c3
     try clear c4
     try clear c5
     try clear c5b0
     try clear c6
     try clear c8
     try clear c16
     try clear p16
     try clear q16
     try clear hx16
     try clear qi16
     try clear c27
     try clear c27b0
     try clear c27b1
     try clear c28
     try clear c33
     try clear c33b0
     try clear c33b1
     try clear c34
     try clear c39
     try clear c39b0
     try clear c39b1
     try clear c40
     try clear c46
     try clear c46b0
     try clear c46b1
     try clear c47
     try clear c48
     try clear c48b0
     try clear c48b1
     try clear c57
     try clear c57b0
     try clear c57b1
     try clear c58
     try clear c58b0
     try clear c58b1
     try clear c60
     try clear c68
     try clear c68b0
     try clear c68b1
     try clear c69
     try clear c69b0
     try clear c69b1
     try clear hcz26_0
     try clear hcz26_1
     try clear hcz26_2
     try clear hcz41_0
     try clear hcz41_1
     try clear hcz41_2
     try clear hcz61_0
     try clear hcz61_1
     try clear hcz61_2
     try clear hcz70_0
     try clear hcz70_1
     try clear hcz70_2
     try clear hfz26_0
     try clear hfz26_1
     try clear hfz26_2
     try clear hfz41_0
     try clear hfz41_1
     try clear hfz41_2
     try clear hfz61_0
     try clear hfz61_1
     try clear hfz61_2
     try clear hfz70_0
     try clear hfz70_1
     try clear hfz70_2
     try clear hx165_0
     try clear hx165_1
     try clear hx165_2
     try clear hx169_0
     try clear hx169_1
     try clear hx169_2
     try clear p1
     try clear p16
     try clear p165
     try clear p169
     try clear p2
     try clear q1
     try clear q16
     try clear q165
     try clear q169
     obtain ⟨x0_2, x70_2, rfl, HA, HK2, HO_0, BK124, HK, HB⟩ := hrel
     cases gk with
     | zero => exact absurd HA.out (by simp [expr_text.l0])
     | succ k2 =>
      have H := HA.out
      clear HA
      simp only [expr_text.l0] at H
      by_cases c71 : x70_2 < (l1_2.length : Int)
      ·rw [if_pos c71] at H
       have c71b0 : decide (x70_2 < (l1_2.length : Int)) = true := decide_eq_true c71
       clear c71
       by_cases c72 : 0 ≤ x70_2
       ·rw [if_pos c72] at H
        have c72b0 : decide (0 ≤ x70_2) = true := decide_eq_true c72
        clear c72
        by_cases c73 : x70_2 < (l1_2.length : Int)
        ·rw [if_pos c73] at H
         have c73b0 : decide (x70_2 < (l1_2.length : Int)) = true := decide_eq_true c73
         clear c73
         have HC74 := Aside0.mk H
         clear H
         have p179 : 0 ≤ (x70_2 : Int) := of_decide_eq_true (by first | (with_reducible assumption) | assumption)
         have q179 : x70_2 < (l1_2.length : Int) := of_decide_eq_true (by first | (with_reducible assumption) | assumption)
         obtain ⟨ad179, A179_2, c179_2, e179, hx179_0, hx179_1, hx179_2, hl179_2, hi179_2⟩ := at_T24 (Kd.C_kept_now HR1_2.out HK.out) x70_2 p179 q179
         have hF179_2 := fun W' hk' => (by obtain ⟨ad', A'_2, c'_2, e', hx'_0, hx'_1, hx'_2, hl'_2, hi'_2⟩ := at_T24 (HR1_2.out W' hk') x70_2 p179 q179; obtain rfl := Option.some.inj (e179.symm.trans e'); have z_ := Option.some.inj (hx'_2.symm.trans (FootX.cellS (e179 ▸ HR1_2.out) (by have h1_ := p179; have h2_ := q179; omega) (by decide) HK.out (by first | rfl | exact add_block _ _ | (show (Addr.add _ _).block = _; exact add_block _ _)) hx179_2 hk')); injection z_ with z1_ z2_ z3_; rw [← z1_]; exact hi'_2 : Kd.C k24 W' A179_2 _ ((rd_T24 l1_2 x70_2).f2))
         cases e179
         have HR179_2 := Aside0.mk hF179_2
         clear hF179_2
         have HC179_2 := Aside0.mk hl179_2
         clear hi179_2 hl179_2
         replace p179 := eq_true p179
         replace q179 := eq_true q179
         go_upto_region 22 with (first | ((with_reducible refine gate_dst (N := 9) rfl ?_); refine box_event ?hg (N := 9) ?hd (cs := #[.int .i64 0, .int .i64 0, .slice none 0 0]) (t := 24) ?hr ?_; (case hd => rfl); (case hg => rfl); (case hr => first | (go_simp; done) | (go_simp; rfl)); intro gb180 hg w75 hbox hb; have n0_ := Aside0.mk (Kd.R_below (by (with_reducible repeat (first | apply Kd.R_alloc | apply Kd.R_drewN | apply Kd.R_drew)); exact HO_0.out) hb); have n1_ := Aside0.mk (blk_below (g := gb124) (o := .cells #[.int .i64 a1_0, .int .i64 a1_1, .slice (some ad179) l1_2.length c1_2] 24 (0, 0)) (bK) hb); have n2_ := Aside0.mk (Kept.below (S := (fun k_ => P0_ k_)) (kP) hb); have n3_ := Aside0.mk (below_step (bB) hb); have n4_ := Aside0.mk (hbox); have n5_ := Aside0.mk ((by rw [hg]; exact (by first | exact HK.out.1 | exact (show Kept w _ (fun k_ => P0_ k_) from kP).1) : w.heap.size ≤ gb180)); have n6_ := Aside0.mk ((by rw [hg]; exact (below_size (bB)) : w0.heap.size ≤ gb180)); have n7_ := Aside0.mk ((by rw [hg]; exact Nat.ne_of_lt (blk_lt (g := gb124) (o := .cells #[.int .i64 a1_0, .int .i64 a1_1, .slice (some ad179) l1_2.length c1_2] 24 (0, 0)) (bK)) : gb124 ≠ gb180)); have n8_ := Aside0.mk ((by rw [hg]; exact Nat.ne_of_gt (blk_lt (g := gb124) (o := .cells #[.int .i64 a1_0, .int .i64 a1_1, .slice (some ad179) l1_2.length c1_2] 24 (0, 0)) (bK)) : gb180 ≠ gb124)); clear HO_0; clear BK124; clear HK; clear HB; have HO_0 := n0_; have BK124 := n1_; have HK := n2_; have HB := n3_; have BK180 := n4_; have GW180 := n5_; have GE180 := n6_; have NB124_180 := n7_; have NB180_124 := n8_; clear n0_ n1_ n2_ n3_ n4_ n5_ n6_ n7_ n8_; clear hb hbox hg; have hnb76 := NB180_124.out; have hnc76 := NB124_180.out; have hcz77_0 : w75.cell? ⟨gb180, 0, none⟩ = some (.int .i64 0) := (blk_cell BK180.out 0).trans rfl; have hcz77_1 : w75.cell? ⟨gb180, 1, none⟩ = some (.int .i64 0) := (blk_cell BK180.out 1).trans rfl; have hcz77_2 : w75.cell? ⟨gb180, 2, none⟩ = some (.slice none 0 0) := (blk_cell BK180.out 2).trans rfl; have hfz77_0 := blk_frozen BK180.out 0; have hfz77_1 := blk_frozen BK180.out 1; have hfz77_2 := blk_frozen BK180.out 2))
         (try simp only [Act.put, List.setIfInBounds_toArray, List.set_cons_zero, List.set_cons_succ])
         go_cut [80] (fun v80 wc => ∃ (kq : Nat) (x80_73 : Bool), v80 = .bool x80_73 ∧ Aside0 (expr_text.j2 kq x0_2 x7_23 l1_2 (l1_2.length : Int) x70_2 x80_73 a1_0 a1_1 l1_2 ((rd_T24 l1_2 x70_2).f0) ((rd_T24 l1_2 x70_2).f1) ((rd_T24 l1_2 x70_2).f2) = some r) ∧ Aside0 (kq ≤ k2) ∧ Aside0 (Kd.R (Kd.int .u8) 5 wc w0.heap.size (fun k_ => (P0_ k_ ∨ w.heap.size ≤ k_)) u0 x0_2) ∧ Aside0 (wc.heap[gb124]? = some (.cells #[.int .i64 a1_0, .int .i64 a1_1, (.slice (some ad179) l1_2.length c1_2)] 24 (0, 0))) ∧ Aside0 (wc.heap[gb180]? = some (.cells #[.int .i64 ((rd_T24 l1_2 x70_2).f0), .int .i64 ((rd_T24 l1_2 x70_2).f1), (.slice A179_2 ((rd_T24 l1_2 x70_2).f2).length c179_2)] 24 (0, 0))) ∧ Aside0 (Kept w wc (fun k_ => P0_ k_)) ∧ Aside0 (Below w0.heap.size w0 wc))
         case first =>
          have H := HC74.out
          clear HC74
          by_cases c78 : x70_2 > 0
          ·rw [if_pos c78] at H
           have c78b0 : decide (0 < x70_2) = true := decide_eq_true c78
           clear c78
           (first | rw [c78b0] | (simp only [i64_w, i32_w]; rw [c78b0]) | skip)
           have H' := Aside0.mk H
           clear H
           go_wp2
           go_meet
           case rel => exact ⟨_, ((x7_23 != 0)), (by first | rfl | (simp; done) | (simp [*]; done)), H', ⟨by have := HJ23.out; have := HK2.out; first | omega | exact Nat.le_refl _⟩, ⟨by (with_reducible repeat (first | apply Kd.R_alloc | apply Kd.R_drewN | apply Kd.R_drew)); exact Kd.R_mono (Kd.R_far (p := ⟨gb180, 2, none⟩) (Kd.R_far (p := ⟨gb180, 1, none⟩) (Kd.R_far (p := ⟨gb180, 0, none⟩) (Kd.R_types HO_0.out BK180.out (by decide)) (fun _ hk => hk.2) (.int .i64 ((rd_T24 l1_2 x70_2).f0))) (fun _ hk => hk.2) (.int .i64 ((rd_T24 l1_2 x70_2).f1))) (fun _ hk => hk.2) (.slice A179_2 ((rd_T24 l1_2 x70_2).f2).length c179_2)) (fun _ hk => hk.1)⟩, ⟨by (with_reducible repeat (first | refine blk_drewN ?_ _ | refine blk_drew ?_ | refine blk_alloc ?_ _)); refine blk_far ?_ NB124_180.out _; (with_reducible repeat (first | refine blk_drewN ?_ _ | refine blk_drew ?_ | refine blk_alloc ?_ _)); refine blk_far ?_ NB124_180.out _; (with_reducible repeat (first | refine blk_drewN ?_ _ | refine blk_drew ?_ | refine blk_alloc ?_ _)); refine blk_far ?_ NB124_180.out _; (with_reducible repeat (first | refine blk_drewN ?_ _ | refine blk_drew ?_ | refine blk_alloc ?_ _)); exact BK124.out⟩, ⟨by (with_reducible repeat (first | refine blk_drewN ?_ _ | refine blk_drew ?_ | refine blk_alloc ?_ _)); refine blk_put (cs := #[.int .i64 ((rd_T24 l1_2 x70_2).f0), .int .i64 ((rd_T24 l1_2 x70_2).f1), .slice none 0 0]) ?_ 2 _ rfl; (with_reducible repeat (first | refine blk_drewN ?_ _ | refine blk_drew ?_ | refine blk_alloc ?_ _)); refine blk_put (cs := #[.int .i64 ((rd_T24 l1_2 x70_2).f0), .int .i64 0, .slice none 0 0]) ?_ 1 _ rfl; (with_reducible repeat (first | refine blk_drewN ?_ _ | refine blk_drew ?_ | refine blk_alloc ?_ _)); refine blk_put (cs := #[.int .i64 0, .int .i64 0, .slice none 0 0]) ?_ 0 _ rfl; (with_reducible repeat (first | refine blk_drewN ?_ _ | refine blk_drew ?_ | refine blk_alloc ?_ _)); exact BK180.out⟩, ⟨kP⟩, ⟨bB⟩⟩
          ·rw [if_neg c78] at H
           have c78b0 : decide (0 < x70_2) = false := decide_eq_false c78
           clear c78
           (first | rw [c78b0] | (simp only [i64_w, i32_w]; rw [c78b0]) | skip)
           have H' := Aside0.mk H
           clear H
           go_wp2
           go_meet
           case rel => exact ⟨_, (false), (by first | rfl | (simp; done) | (simp [*]; done)), H', ⟨by have := HJ23.out; have := HK2.out; first | omega | exact Nat.le_refl _⟩, ⟨by (with_reducible repeat (first | apply Kd.R_alloc | apply Kd.R_drewN | apply Kd.R_drew)); exact Kd.R_mono (Kd.R_far (p := ⟨gb180, 2, none⟩) (Kd.R_far (p := ⟨gb180, 1, none⟩) (Kd.R_far (p := ⟨gb180, 0, none⟩) (Kd.R_types HO_0.out BK180.out (by decide)) (fun _ hk => hk.2) (.int .i64 ((rd_T24 l1_2 x70_2).f0))) (fun _ hk => hk.2) (.int .i64 ((rd_T24 l1_2 x70_2).f1))) (fun _ hk => hk.2) (.slice A179_2 ((rd_T24 l1_2 x70_2).f2).length c179_2)) (fun _ hk => hk.1)⟩, ⟨by (with_reducible repeat (first | refine blk_drewN ?_ _ | refine blk_drew ?_ | refine blk_alloc ?_ _)); refine blk_far ?_ NB124_180.out _; (with_reducible repeat (first | refine blk_drewN ?_ _ | refine blk_drew ?_ | refine blk_alloc ?_ _)); refine blk_far ?_ NB124_180.out _; (with_reducible repeat (first | refine blk_drewN ?_ _ | refine blk_drew ?_ | refine blk_alloc ?_ _)); refine blk_far ?_ NB124_180.out _; (with_reducible repeat (first | refine blk_drewN ?_ _ | refine blk_drew ?_ | refine blk_alloc ?_ _)); exact BK124.out⟩, ⟨by (with_reducible repeat (first | refine blk_drewN ?_ _ | refine blk_drew ?_ | refine blk_alloc ?_ _)); refine blk_put (cs := #[.int .i64 ((rd_T24 l1_2 x70_2).f0), .int .i64 ((rd_T24 l1_2 x70_2).f1), .slice none 0 0]) ?_ 2 _ rfl; (with_reducible repeat (first | refine blk_drewN ?_ _ | refine blk_drew ?_ | refine blk_alloc ?_ _)); refine blk_put (cs := #[.int .i64 ((rd_T24 l1_2 x70_2).f0), .int .i64 0, .slice none 0 0]) ?_ 1 _ rfl; (with_reducible repeat (first | refine blk_drewN ?_ _ | refine blk_drew ?_ | refine blk_alloc ?_ _)); refine blk_put (cs := #[.int .i64 0, .int .i64 0, .slice none 0 0]) ?_ 0 _ rfl; (with_reducible repeat (first | refine blk_drewN ?_ _ | refine blk_drew ?_ | refine blk_alloc ?_ _)); exact BK180.out⟩, ⟨kP⟩, ⟨bB⟩⟩
         case rest =>
          clear HC74
          try clear c1
          try clear p1
          try clear q1
          try clear hx1
          try clear qi1
          try clear c2
          try clear p2
          try clear c3
          try clear c4
          try clear c5
          try clear c5b0
          try clear c6
          try clear c7
          try clear c8
          try clear c16
          try clear p16
          try clear q16
          try clear hx16
          try clear qi16
          try clear c17
          try clear p17
          try clear q17
          try clear hx17
          try clear c27
          try clear c27b0
          try clear c27b1
          try clear c28
          try clear c33
          try clear c33b0
          try clear c33b1
          try clear c34
          try clear c39
          try clear c39b0
          try clear c39b1
          try clear c40
          try clear c46
          try clear c46b0
          try clear c46b1
          try clear c47
          try clear c48
          try clear c48b0
          try clear c48b1
          try clear c57
          try clear c57b0
          try clear c57b1
          try clear c58
          try clear c58b0
          try clear c58b1
          try clear c60
          try clear c68
          try clear c68b0
          try clear c68b1
          try clear c69
          try clear c69b0
          try clear c69b1
          try clear c71
          try clear c71b0
          try clear c72
          try clear c72b0
          try clear c73
          try clear c73b0
          try clear c76
          try clear c78
          try clear c78b0
          try clear hcz26_0
          try clear hcz26_1
          try clear hcz26_2
          try clear hcz41_0
          try clear hcz41_1
          try clear hcz41_2
          try clear hcz61_0
          try clear hcz61_1
          try clear hcz61_2
          try clear hcz70_0
          try clear hcz70_1
          try clear hcz70_2
          try clear hcz77_0
          try clear hcz77_1
          try clear hcz77_2
          try clear hfz26_0
          try clear hfz26_1
          try clear hfz26_2
          try clear hfz41_0
          try clear hfz41_1
          try clear hfz41_2
          try clear hfz61_0
          try clear hfz61_1
          try clear hfz61_2
          try clear hfz70_0
          try clear hfz70_1
          try clear hfz70_2
          try clear hfz77_0
          try clear hfz77_1
          try clear hfz77_2
          try clear hx165_0
          try clear hx165_1
          try clear hx165_2
          try clear hx169_0
          try clear hx169_1
          try clear hx169_2
          try clear hx179_0
          try clear hx179_1
          try clear hx179_2
          try clear p1
          try clear p16
          try clear p165
          try clear p169
          try clear p179
          try clear p2
          try clear q1
          try clear q16
          try clear q165
          try clear q169
          try clear q179
          obtain ⟨kq, x80_73, rfl, HA, HJ73, HO_0, BK124, BK180, HK, HB⟩ := hcut
          cases kq with
          | zero => exact absurd HA.out (by simp [expr_text.j2])
          | succ kj73 =>
           have H := HA.out
           clear HA
           simp only [expr_text.j2] at H
           by_cases c79 : x80_73 = true
           ·subst c79
            have H1 : ((some (([x7_23] : List Int) : List Int)).bind fun y181 => (if x0_2.length + y181.length < 140737488355328 then ((expr_level.f a1_0).bind fun t187 => ((expr_text.f kj73 (x0_2 ++ y181) ((rd_T24 l1_2 x70_2).f0) ((rd_T24 l1_2 x70_2).f1) ((rd_T24 l1_2 x70_2).f2) (wrap64 (t187 + 1))).bind fun t188 => (expr_text.l0 kj73 t188 x7_23 l1_2 (l1_2.length : Int) (wrap64 (x70_2 + 1)) a1_0 a1_1 l1_2))) else (none))) = some r := by rw [if_pos rfl] at H; exact H
            clear H
            have H := H1
            clear H1
            obtain ⟨y181, hy181⟩ : ∃ y_ : List Int, y_ = (([x7_23] : List Int)) := ⟨_, rfl⟩
            replace H : (if x0_2.length + y181.length < 140737488355328 then ((expr_level.f a1_0).bind fun t187 => ((expr_text.f kj73 (x0_2 ++ y181) ((rd_T24 l1_2 x70_2).f0) ((rd_T24 l1_2 x70_2).f1) ((rd_T24 l1_2 x70_2).f2) (wrap64 (t187 + 1))).bind fun t188 => (expr_text.l0 kj73 t188 x7_23 l1_2 (l1_2.length : Int) (wrap64 (x70_2 + 1)) a1_0 a1_1 l1_2))) else (none)) = some r := by first | (rw [hy181]; with_reducible exact H) | (have H2_ := (Option.bind_some _ _).symm.trans H; rw [hy181]; with_reducible exact H2_) | (have H2_ := (Option.bind_some _ _).symm.trans H; with_reducible exact H2_) | with_reducible exact H | (rw [hy181]; exact H) | exact H
            have Ny181 := Aside0.mk hy181
            clear hy181
            by_cases c80 : x0_2.length + y181.length < 140737488355328
            ·rw [if_pos c80] at H
             have LMc80 := Aside0.mk c80
             clear c80
             obtain ⟨y184, hy184⟩ : ∃ y_ : List Int, y_ = (x0_2 ++ y181) := ⟨_, rfl⟩
             replace H : ((expr_level.f a1_0).bind fun t187 => ((expr_text.f kj73 y184 ((rd_T24 l1_2 x70_2).f0) ((rd_T24 l1_2 x70_2).f1) ((rd_T24 l1_2 x70_2).f2) (wrap64 (t187 + 1))).bind fun t188 => (expr_text.l0 kj73 t188 x7_23 l1_2 (l1_2.length : Int) (wrap64 (x70_2 + 1)) a1_0 a1_1 l1_2))) = some r := by first | (rw [hy184]; with_reducible exact H) | (have H2_ := (Option.bind_some _ _).symm.trans H; rw [hy184]; with_reducible exact H2_) | (have H2_ := (Option.bind_some _ _).symm.trans H; with_reducible exact H2_) | with_reducible exact H | (rw [hy184]; exact H) | exact H
             have Ny184 := Aside0.mk hy184
             clear hy184
             replace H := Option.bind_eq_some_iff.mp H
             obtain ⟨t187, A810, H⟩ := H
             replace H : ((expr_text.f kj73 y184 ((rd_T24 l1_2 x70_2).f0) ((rd_T24 l1_2 x70_2).f1) ((rd_T24 l1_2 x70_2).f2) (wrap64 (t187 + 1))).bind fun t188 => (expr_text.l0 kj73 t188 x7_23 l1_2 (l1_2.length : Int) (wrap64 (x70_2 + 1)) a1_0 a1_1 l1_2)) = some r := H
             have A81 := Aside0.mk A810
             clear A810
             replace H := Option.bind_eq_some_iff.mp H
             obtain ⟨t188, A820, H⟩ := H
             replace H : (expr_text.l0 kj73 t188 x7_23 l1_2 (l1_2.length : Int) (wrap64 (x70_2 + 1)) a1_0 a1_1 l1_2) = some r := H
             have A82 := Aside0.mk A820
             clear A820
             have H' := Aside0.mk H
             clear H
             try go_wp2_with (first | ((with_reducible refine gate_dst (N := 83) rfl ?_); refine Kd.R_lit (Kd.int .u8) _ 5 ?hg (N := 83) ?hd (xs := ([x7_23] : List Int)) (inner := [.int .u8 x7_23]) (ok := fun _ => True) (okp := fun _ => True) ?hr ?hp (fun _ hk => hk) trivial (Below.refl _ _) (Nat.le_refl _) (by simp) ?_; (case hd => rfl); (case hg => rfl); (case hr => first | (go_simp; done) | (go_simp; rfl)); (case hp => exact (Reps.one (show Kd.M (Kd.int .u8) _ _ _ x7_23 [.int .u8 x7_23] from rfl) (Reps.none _ _))); intro v182 w83 ho84 hb hg_ hnew_; clear hg_ hnew_; (first | rw [← Ny181.out] at ho84 | (simp only [Int.reduceToNat] at ho84; rw [← Ny181.out] at ho84)); have n0_ := Aside0.mk (Kd.R_elder' (by (with_reducible repeat (first | apply Kd.R_alloc | apply Kd.R_drewN | apply Kd.R_drew)); exact HO_0.out) (Kd.R_base ho84) hb); have n1_ := Aside0.mk (Kd.R_lower (Kd.R_new' (Kd.R_newM (M := fun k_ => (P0_ k_ ∨ w.heap.size ≤ k_)) ho84 (by first | exact HK.out.1 | exact (show Kept w _ (fun k_ => P0_ k_) from kP).1) (fun k_ h_ => .inr h_)) (Kd.R_lt (by (with_reducible repeat (first | apply Kd.R_alloc | apply Kd.R_drewN | apply Kd.R_drew)); exact HO_0.out))) (below_size (bB))); have n2_ := Aside0.mk (blk_below (g := gb124) (o := .cells #[.int .i64 a1_0, .int .i64 a1_1, .slice (some ad179) l1_2.length c1_2] 24 (0, 0)) (bK) hb); have n3_ := Aside0.mk (blk_below (g := gb180) (o := .cells #[.int .i64 ((rd_T24 l1_2 x70_2).f0), .int .i64 ((rd_T24 l1_2 x70_2).f1), .slice A179_2 ((rd_T24 l1_2 x70_2).f2).length c179_2] 24 (0, 0)) (bK) hb); have n4_ := Aside0.mk (Kept.below (S := (fun k_ => P0_ k_)) (kP) hb); have n5_ := Aside0.mk (below_step (bB) hb); clear HO_0; clear BK124; clear BK180; clear HK; clear HB; have HO_0 := n0_; have HO183 := n1_; have BK124 := n2_; have BK180 := n3_; have HK := n4_; have HB := n5_; clear n0_ n1_ n2_ n3_ n4_ n5_; clear hb ho84; obtain ⟨Ao86, co86, eo86⟩ := Kd.R_slice HO183.out; subst eo86) | ((with_reducible refine gate_builtin (b := .append) (xs := #[.tmp 81, .tmp 83]) rfl ?_); at_builtin; refine Kd.R_append_rows (Kd.int .u8) (w0 := w0) w0.heap.size rfl (.tmp 81) (.tmp 83) 43 5 (.int .u8 0) 1 rfl Try.underlying43 info5 rfl (by decide) (by omega) u0 x0_2 y181 _ _ _ (fun k_ => (P0_ k_ ∨ w.heap.size ≤ k_) ∧ some k_ ≠ (.slice Ao86 y181.length co86 : Value).ownBlock) (fun _ => False) rfl rfl ?aO ?aR (fun _ _ h => h) (fun _ h => h.elim) ?aF ?aB ?aS ?aL ?_; (case aR => repeat (first | exact (Kd.R_reads' HO183.out).2.2 | (with_reducible refine Kd.C_alloc ?_ _) | (with_reducible refine Kd.C_drewN ?_ _) | (with_reducible refine Kd.C_drew ?_))); (case aB => exact (bB)); (case aF => exact (fun k_ hk => ⟨(.inr (Nat.le_trans (by first | exact HK.out.1 | exact (show Kept w _ (fun k_ => P0_ k_) from kP).1) hk)), Kd.fresh' (Kd.R_lt (by (with_reducible repeat (first | apply Kd.R_alloc | apply Kd.R_drewN | apply Kd.R_drew)); exact HO183.out)) k_ hk⟩)); (case aO => exact (by (with_reducible repeat (first | apply Kd.R_alloc | apply Kd.R_drewN | apply Kd.R_drew)); exact HO_0.out)); (case aS => exact (below_size (bB))); (case aL => have := LMc80.out; omega); intro v185 w85 ho hb hg hat; rw [← Ny184.out] at ho; have n0_ := Aside0.mk (blk_grown (g := gb124) (o := .cells #[.int .i64 a1_0, .int .i64 a1_1, .slice (some ad179) l1_2.length c1_2] 24 (0, 0)) (bK) hg (Kd.R_ne HO_0.out BK124.out (by decide))); have n1_ := Aside0.mk (blk_grown (g := gb180) (o := .cells #[.int .i64 ((rd_T24 l1_2 x70_2).f0), .int .i64 ((rd_T24 l1_2 x70_2).f1), .slice A179_2 ((rd_T24 l1_2 x70_2).f2).length c179_2] 24 (0, 0)) (bK) hg (Kd.R_ne HO_0.out BK180.out (by decide))); have n2_ := Aside0.mk (Kd.R_after (ok := (fun k_ => (P0_ k_ ∨ w.heap.size ≤ k_))) (by (with_reducible repeat (first | apply Kd.R_alloc | apply Kd.R_drewN | apply Kd.R_drew)); exact Kd.R_mono HO183.out (fun _ hk => ⟨hk.1.1, hk.2⟩)) hg hat); have n3_ := Aside0.mk (hb); have n4_ := Aside0.mk (Kept.of_grown (S := (fun k_ => P0_ k_)) hg (kP) (fun k_ e_ => (HO_0.out.1 k_ e_).1)); have n5_ := Aside0.mk (ho); clear BK124; clear BK180; clear HO183; clear HB; clear HK; clear HO_0; have BK124 := n0_; have BK180 := n1_; have HO183 := n2_; have HB := n3_; have HK := n4_; have HO186 := n5_; clear n0_ n1_ n2_ n3_ n4_ n5_; clear ho hb hg hat))
             (try (rw [drewN_self w85]; generalize hq_ : World.drewN w85 _ = w85; have n0_ : Aside0 (Kd.R (Kd.int .u8) 5 w85 w0.heap.size (fun k_ => (P0_ k_ ∨ w.heap.size ≤ k_) ∧ some k_ ≠ (v185 : Value).ownBlock) (.slice Ao86 y181.length co86) y181) := ⟨by rw [← hq_]; exact (by (with_reducible repeat (first | apply Kd.R_alloc | apply Kd.R_drewN | apply Kd.R_drew)); exact HO183.out)⟩; have n1_ : Aside0 (Kd.R (Kd.int .u8) 5 w85 w0.heap.size (fun k_ => (P0_ k_ ∨ w.heap.size ≤ k_) ∧ some k_ ≠ (.slice Ao86 y181.length co86 : Value).ownBlock) v185 y184) := ⟨by rw [← hq_]; exact (by (with_reducible repeat (first | apply Kd.R_alloc | apply Kd.R_drewN | apply Kd.R_drew)); exact HO186.out)⟩; have n2_ : Aside0 (w85.heap[gb124]? = some (.cells #[.int .i64 a1_0, .int .i64 a1_1, .slice (some ad179) l1_2.length c1_2] 24 (0, 0))) := ⟨by rw [← hq_]; exact (bK)⟩; have n3_ : Aside0 (w85.heap[gb180]? = some (.cells #[.int .i64 ((rd_T24 l1_2 x70_2).f0), .int .i64 ((rd_T24 l1_2 x70_2).f1), .slice A179_2 ((rd_T24 l1_2 x70_2).f2).length c179_2] 24 (0, 0))) := ⟨by rw [← hq_]; exact (bK)⟩; have n4_ : Aside0 (Kept w w85 (fun k_ => P0_ k_)) := ⟨by rw [← hq_]; exact (kP)⟩; have n5_ : Aside0 (Below w0.heap.size w0 w85) := ⟨by rw [← hq_]; exact (bB)⟩; clear HO183 HO186 BK124 BK180 HK HB hq_; have HO183 := n0_; have HO186 := n1_; have BK124 := n2_; have BK180 := n3_; have HK := n4_; have HB := n5_; clear n0_ n1_ n2_ n3_ n4_ n5_))
             have n0_ := Aside0.mk (Kd.R_drew HO183.out)
             have n1_ := Aside0.mk (Kd.R_drew HO186.out)
             have n2_ := Aside0.mk (blk_drew BK124.out)
             have n3_ := Aside0.mk (blk_drew BK180.out)
             have n4_ := Aside0.mk (Kept.drew HK.out)
             have n5_ := Aside0.mk (below_drew1 HB.out)
             clear HO183
             clear HO186
             clear BK124
             clear BK180
             clear HK
             clear HB
             have HO183 := n0_
             have HO186 := n1_
             have BK124 := n2_
             have BK180 := n3_
             have HK := n4_
             have HB := n5_
             clear n0_ n1_ n2_ n3_ n4_ n5_
             refine start_ (n := 8) (S := fun w' => w'.cell? ⟨gb180, 0, none⟩ = some (.int .i64 ((rd_T24 l1_2 x70_2).f0)) ∧ w'.cell? ⟨gb180, 1, none⟩ = some (.int .i64 ((rd_T24 l1_2 x70_2).f1)) ∧ w'.cell? ⟨gb180, 2, none⟩ = some (.slice A179_2 ((rd_T24 l1_2 x70_2).f2).length c179_2) ∧ w'.cell? ⟨gb124, 0, none⟩ = some (.int .i64 a1_0) ∧ w'.cell? ⟨gb124, 1, none⟩ = some (.int .i64 a1_1) ∧ w'.cell? ⟨gb124, 2, none⟩ = some (.slice (some ad179) l1_2.length c1_2)) (ds := []) #[false, false, false, false, false, false, false, false] (by kernel_rfl) rfl rfl ⟨(blk_cell BK180.out 0).trans rfl, (blk_cell BK180.out 1).trans rfl, (blk_cell BK180.out 2).trans rfl, (blk_cell BK124.out 0).trans rfl, (blk_cell BK124.out 1).trans rfl, (blk_cell BK124.out 2).trans rfl⟩ (fun hHeld => ?_); refine with_tabW expr_text.tab24 expr_text.bits24 (fun HT_ HW_ => ?_)
             generalize w85.drew = w87 at HO183 HO186 BK124 BK180 HK HB hHeld ⊢
             refine pure_ (i := 0) (N := some 85) (v := ?_) (a' := ?_) #[true, false, false, false, false, false, false, false] rfl rfl (any_of HT_.out (by kernel_rfl)) (fun _ _ _ h => h) (Or.inl ⟨by rfl, ?_⟩) ?_ ?_
             rotate_left
             ·intro w'
              go_simp
              with_reducible rfl
             rotate_left
             ·simp only [Act.put, List.setIfInBounds_toArray, List.set_cons_zero, List.set_cons_succ, i64_w, i32_w]
              rfl
             refine pure_ (i := 2) (N := some 87) (v := ?_) (a' := ?_) #[true, false, true, false, false, false, false, false] rfl rfl (any_of HT_.out (by kernel_rfl)) (fun _ _ _ h => h) (Or.inl ⟨by rfl, ?_⟩) ?_ ?_
             rotate_left
             ·intro w'
              go_simp
              with_reducible rfl
             rotate_left
             ·simp only [Act.put, List.setIfInBounds_toArray, List.set_cons_zero, List.set_cons_succ, i64_w, i32_w]
              rfl
             refine take_ (i := 1) (N := some 86) (v := ?_) (a' := ?_) #[true, true, true, false, false, false, false, false] rfl rfl (take_ofW HT_.out HW_.out (by kernel_rfl)) (fun _ _ _ h => h) (Or.inl ⟨by rfl, ?_⟩) hHeld ?_ ?_
             rotate_left
             ·rintro w' ⟨s0, s1, s2, s3, s4, s5⟩
              go_simp
              with_reducible rfl
             rotate_left
             ·simp only [Act.put, List.setIfInBounds_toArray, List.set_cons_zero, List.set_cons_succ, i64_w, i32_w]
              rfl
             refine take_ (i := 3) (N := some 88) (v := ?_) (a' := ?_) #[true, true, true, true, false, false, false, false] rfl rfl (take_ofW HT_.out HW_.out (by kernel_rfl)) (fun _ _ _ h => h) (Or.inl ⟨by rfl, ?_⟩) hHeld ?_ ?_
             rotate_left
             ·rintro w' ⟨s0, s1, s2, s3, s4, s5⟩
              go_simp
              with_reducible rfl
             rotate_left
             ·simp only [Act.put, List.setIfInBounds_toArray, List.set_cons_zero, List.set_cons_succ, i64_w, i32_w]
              rfl
             refine one_ (i := 4) (N := some 89) #[true, true, true, true, true, false, false, false] rfl rfl (one_of HT_.out (by kernel_rfl)) (by decide) (fun K hK => ?_)
             refine goes_ Try.func69 (by kernel_rfl) rfl #[.int .i64 a1_0] (by rfl) rfl rfl (by (try simp only [List.map_toArray, List.map_cons, List.map_nil]); first | done | rfl | (simp only [List.length_drop, List.length_take]; rfl)) ?_
             with_reducible refine (expr_level.calls a1_0 t187 _ A81.out).mono ?_
             rintro e w' ⟨rfl, ⟨nd, rfl⟩⟩
             refine ⟨_, rfl, ?_⟩
             obtain ⟨Ao88, co88, eo88⟩ := Kd.R_slice HO186.out
             (first | subst eo88 | (injection eo88 with f1_ f2_ f3_; have f4_ := f1_.symm; have f5_ := f3_.symm; clear f1_ f2_ f3_; subst f4_; subst f5_))
             refine hK.out _ _ ⟨(blk_cell BK180.out 0).trans rfl, (blk_cell BK180.out 1).trans rfl, (blk_cell BK180.out 2).trans rfl, (blk_cell BK124.out 0).trans rfl, (blk_cell BK124.out 1).trans rfl, (blk_cell BK124.out 2).trans rfl⟩ (fun hHeld => ?_)
             clear hK K
             refine norm_ (a' := ?_) ?_ ?_
             rotate_left
             ·show Act.put _ (some 89) _ = _
              simp only [Act.put, List.setIfInBounds_toArray, List.set_cons_zero, List.set_cons_succ, i64_w, i32_w]
              rfl
             refine pure_ (i := 5) (N := some 90) (v := ?_) (a' := ?_) #[true, true, true, true, true, true, false, false] rfl rfl (any_of HT_.out (by kernel_rfl)) (fun _ _ _ h => h) (Or.inl ⟨by rfl, ?_⟩) ?_ ?_
             rotate_left
             ·intro w'
              go_simp
              with_reducible rfl
             rotate_left
             ·simp only [Act.put, List.setIfInBounds_toArray, List.set_cons_zero, List.set_cons_succ, i64_w, i32_w]
              rfl
             refine one_ (i := 6) (N := some 91) #[true, true, true, true, true, true, true, false] rfl rfl (one_of HT_.out (by kernel_rfl)) (by decide) (fun K hK => ?_)
             refine goes_ Try.func47 (by kernel_rfl) rfl #[.slice Ao88 y184.length co88, .agg #[.int .i64 ((rd_T24 l1_2 x70_2).f0), .int .i64 ((rd_T24 l1_2 x70_2).f1), .slice A179_2 ((rd_T24 l1_2 x70_2).f2).length c179_2], .int .i64 (wrap64 (t187 + 1))] (by rfl) rfl rfl (by (try simp only [List.map_toArray, List.map_cons, List.map_nil]); first | done | rfl | (simp only [List.length_drop, List.length_take]; rfl)) ?_
             with_reducible refine (ih kj73 (by have := HJ23.out; have := HK2.out; have := HJ73.out; omega) (fun k_ => some k_ = (.slice Ao88 y184.length co88 : Value).ownBlock) (.slice Ao88 y184.length co88) y184 ((rd_T24 l1_2 x70_2).f0) ((rd_T24 l1_2 x70_2).f1) _ _ ((rd_T24 l1_2 x70_2).f2) (wrap64 (t187 + 1)) t188 w0 _ ?side1 ?side2 ?side3 ?side4 A82.out).mono ?_
             (case side1 => repeat (first | (with_reducible first | exact HB.out | apply below_alloc | apply pw_below_drewN | apply below_drew1 | refine below_set ?_ GE124.out | refine below_set ?_ GE180.out) | exact HB.out))
             (case side2 => exact Kd.R_tight rfl HO186.out)
             (case side3 => exact Kd.C_kept_call HR179_2.out (kP) (fun k_ hs_ => (fun e_ => (HO186.out.1 k_ e_.symm).1) hs_))
             (case side4 => exact HC179_2.out)
             rintro e w89 ⟨v189, rfl, ho0, hb, hkp⟩
             refine ⟨_, rfl, ?_⟩
             have n0_ := Aside0.mk (blk_kept (bK) hkp (fun hs_ => (fun e_ => (Kd.R_ne HO186.out BK124.out (by decide)) e_) hs_))
             have n1_ := Aside0.mk (blk_kept (bK) hkp (fun hs_ => (fun e_ => (Kd.R_ne HO186.out BK180.out (by decide)) e_) hs_))
             have n2_ := Aside0.mk (Kd.R_mono (ok' := fun k_ => (P0_ k_ ∨ w.heap.size ≤ k_) ∧ some k_ ≠ (v189 : Value).ownBlock) (Kd.R_keptB (HO183.out) hkp (fun k_ hk_ hs_ => (hk_.2) hs_)) (fun k_ hk_ => ⟨hk_.1.1, fun e_ => Or.elim (ho0.1 k_ e_.symm) (fun hs_ => hk_.2.1 hs_) (fun hn_ => Nat.not_le.2 hk_.2.2 hn_)⟩))
             have n3_ := Aside0.mk (Kd.R_mono (ok' := fun k_ => (P0_ k_ ∨ w.heap.size ≤ k_) ∧ some k_ ≠ (.slice Ao86 y181.length co86 : Value).ownBlock) ho0 (fun k_ hk_ => ⟨Or.elim hk_ (fun hs_ => (HO186.out.1 k_ (hs_).symm).1) (fun hn_ => (.inr (Nat.le_trans (by first | exact HK.out.1 | exact (show Kept w _ (fun k_ => P0_ k_) from kP).1) hn_))), Or.elim hk_ (fun hs_ => fun e_ => (((HO183.out).1 k_ e_.symm).2) hs_) (fun hn_ => (Kd.fresh' (Kd.R_lt (by (with_reducible repeat (first | apply Kd.R_alloc | apply Kd.R_drewN | apply Kd.R_drew)); exact HO183.out)) k_ hn_))⟩))
             have n4_ := Aside0.mk (Kept.then_ (S := (fun k_ => P0_ k_)) (kP) hkp (fun k_ hs_ => (fun e_ => (HO186.out.1 k_ e_.symm).1) hs_))
             have n5_ := Aside0.mk (hb)
             clear BK124
             clear BK180
             clear HO183
             clear HK
             clear HB
             clear HO186
             have BK124 := n0_
             have BK180 := n1_
             have HO183 := n2_
             have HO190 := n3_
             have HK := n4_
             have HB := n5_
             clear n0_ n1_ n2_ n3_ n4_ n5_
             (try clear hb)
             (try clear hkp)
             (try clear ho0)
             refine hK.out _ _ ⟨(blk_cell BK180.out 0).trans rfl, (blk_cell BK180.out 1).trans rfl, (blk_cell BK180.out 2).trans rfl, (blk_cell BK124.out 0).trans rfl, (blk_cell BK124.out 1).trans rfl, (blk_cell BK124.out 2).trans rfl⟩ (fun hHeld => ?_)
             clear hK K
             refine norm_ (a' := ?_) ?_ ?_
             rotate_left
             ·show Act.put _ (some 91) _ = _
              simp only [Act.put, List.setIfInBounds_toArray, List.set_cons_zero, List.set_cons_succ, i64_w, i32_w]
              rfl
             refine pure_ (i := 7) (N := some 0) (v := ?_) (a' := ?_) #[true, true, true, true, true, true, true, true] rfl rfl (any_of HT_.out (by kernel_rfl)) (fun _ _ _ h => h) (Or.inl ⟨by rfl, ?_⟩) ?_ ?_
             rotate_left
             ·intro w'
              go_simp
              with_reducible rfl
             rotate_left
             ·simp only [Act.put, List.setIfInBounds_toArray, List.set_cons_zero, List.set_cons_succ, i64_w, i32_w]
              rfl
             refine done_ (done_of HT_.out (by kernel_rfl)) ?_
             try go_wp2
             (first | go_roundg kj73 | ((simp only [add_plain] at *); go_roundg kj73))
             case measure => have := HJ23.out; have := HK2.out; have := HJ73.out; omega
             case rel => exact ⟨(t188), (wrap64 (x70_2 + 1)), (by first | rfl | (simp; done) | (simp [*]; done)), H', ⟨by have := HJ23.out; have := HK2.out; have := HJ73.out; omega⟩, ⟨by (with_reducible repeat (first | apply Kd.R_alloc | apply Kd.R_drewN | apply Kd.R_drew)); exact Kd.R_mono HO190.out (fun _ hk => hk.1)⟩, ⟨bK⟩, ⟨kP⟩, ⟨bB⟩⟩
            ·rw [if_neg c80] at H
             exact absurd H (by simp)
           ·replace c79 := Bool.eq_false_iff.mpr c79
            subst c79
            have H1 : ((expr_level.f a1_0).bind fun t191 => ((expr_text.f kj73 x0_2 ((rd_T24 l1_2 x70_2).f0) ((rd_T24 l1_2 x70_2).f1) ((rd_T24 l1_2 x70_2).f2) (wrap64 (t191 + 1))).bind fun t192 => (expr_text.l0 kj73 t192 x7_23 l1_2 (l1_2.length : Int) (wrap64 (x70_2 + 1)) a1_0 a1_1 l1_2))) = some r := by rw [if_neg (show ¬ (false = true) by decide)] at H; exact H
            clear H
            have H := H1
            clear H1
            replace H := Option.bind_eq_some_iff.mp H
            obtain ⟨t191, A900, H⟩ := H
            replace H : ((expr_text.f kj73 x0_2 ((rd_T24 l1_2 x70_2).f0) ((rd_T24 l1_2 x70_2).f1) ((rd_T24 l1_2 x70_2).f2) (wrap64 (t191 + 1))).bind fun t192 => (expr_text.l0 kj73 t192 x7_23 l1_2 (l1_2.length : Int) (wrap64 (x70_2 + 1)) a1_0 a1_1 l1_2)) = some r := H
            have A90 := Aside0.mk A900
            clear A900
            replace H := Option.bind_eq_some_iff.mp H
            obtain ⟨t192, A910, H⟩ := H
            replace H : (expr_text.l0 kj73 t192 x7_23 l1_2 (l1_2.length : Int) (wrap64 (x70_2 + 1)) a1_0 a1_1 l1_2) = some r := H
            have A91 := Aside0.mk A910
            clear A910
            have H' := Aside0.mk H
            clear H
            try go_wp2
            (try (rw [drewN_self wc]; generalize hq_ : World.drewN wc _ = wc; have n0_ : Aside0 (Kd.R (Kd.int .u8) 5 wc w0.heap.size (fun k_ => (P0_ k_ ∨ w.heap.size ≤ k_)) u0 x0_2) := ⟨by rw [← hq_]; exact (by (with_reducible repeat (first | apply Kd.R_alloc | apply Kd.R_drewN | apply Kd.R_drew)); exact HO_0.out)⟩; have n1_ : Aside0 (wc.heap[gb124]? = some (.cells #[.int .i64 a1_0, .int .i64 a1_1, .slice (some ad179) l1_2.length c1_2] 24 (0, 0))) := ⟨by rw [← hq_]; exact (bK)⟩; have n2_ : Aside0 (wc.heap[gb180]? = some (.cells #[.int .i64 ((rd_T24 l1_2 x70_2).f0), .int .i64 ((rd_T24 l1_2 x70_2).f1), .slice A179_2 ((rd_T24 l1_2 x70_2).f2).length c179_2] 24 (0, 0))) := ⟨by rw [← hq_]; exact (bK)⟩; have n3_ : Aside0 (Kept w wc (fun k_ => P0_ k_)) := ⟨by rw [← hq_]; exact (kP)⟩; have n4_ : Aside0 (Below w0.heap.size w0 wc) := ⟨by rw [← hq_]; exact (bB)⟩; clear HO_0 BK124 BK180 HK HB hq_; have HO_0 := n0_; have BK124 := n1_; have BK180 := n2_; have HK := n3_; have HB := n4_; clear n0_ n1_ n2_ n3_ n4_))
            have n0_ := Aside0.mk (Kd.R_drew HO_0.out)
            have n1_ := Aside0.mk (blk_drew BK124.out)
            have n2_ := Aside0.mk (blk_drew BK180.out)
            have n3_ := Aside0.mk (Kept.drew HK.out)
            have n4_ := Aside0.mk (below_drew1 HB.out)
            clear HO_0
            clear BK124
            clear BK180
            clear HK
            clear HB
            have HO_0 := n0_
            have BK124 := n1_
            have BK180 := n2_
            have HK := n3_
            have HB := n4_
            clear n0_ n1_ n2_ n3_ n4_
            refine start_ (n := 8) (S := fun w' => w'.cell? ⟨gb180, 0, none⟩ = some (.int .i64 ((rd_T24 l1_2 x70_2).f0)) ∧ w'.cell? ⟨gb180, 1, none⟩ = some (.int .i64 ((rd_T24 l1_2 x70_2).f1)) ∧ w'.cell? ⟨gb180, 2, none⟩ = some (.slice A179_2 ((rd_T24 l1_2 x70_2).f2).length c179_2) ∧ w'.cell? ⟨gb124, 0, none⟩ = some (.int .i64 a1_0) ∧ w'.cell? ⟨gb124, 1, none⟩ = some (.int .i64 a1_1) ∧ w'.cell? ⟨gb124, 2, none⟩ = some (.slice (some ad179) l1_2.length c1_2)) (ds := []) #[false, false, false, false, false, false, false, false] (by kernel_rfl) rfl rfl ⟨(blk_cell BK180.out 0).trans rfl, (blk_cell BK180.out 1).trans rfl, (blk_cell BK180.out 2).trans rfl, (blk_cell BK124.out 0).trans rfl, (blk_cell BK124.out 1).trans rfl, (blk_cell BK124.out 2).trans rfl⟩ (fun hHeld => ?_); refine with_tabW expr_text.tab24 expr_text.bits24 (fun HT_ HW_ => ?_)
            generalize wc.drew = w92 at HO_0 BK124 BK180 HK HB hHeld ⊢
            refine pure_ (i := 0) (N := some 85) (v := ?_) (a' := ?_) #[true, false, false, false, false, false, false, false] rfl rfl (any_of HT_.out (by kernel_rfl)) (fun _ _ _ h => h) (Or.inl ⟨by rfl, ?_⟩) ?_ ?_
            rotate_left
            ·intro w'
             go_simp
             with_reducible rfl
            rotate_left
            ·simp only [Act.put, List.setIfInBounds_toArray, List.set_cons_zero, List.set_cons_succ, i64_w, i32_w]
             rfl
            refine pure_ (i := 2) (N := some 87) (v := ?_) (a' := ?_) #[true, false, true, false, false, false, false, false] rfl rfl (any_of HT_.out (by kernel_rfl)) (fun _ _ _ h => h) (Or.inl ⟨by rfl, ?_⟩) ?_ ?_
            rotate_left
            ·intro w'
             go_simp
             with_reducible rfl
            rotate_left
            ·simp only [Act.put, List.setIfInBounds_toArray, List.set_cons_zero, List.set_cons_succ, i64_w, i32_w]
             rfl
            refine take_ (i := 1) (N := some 86) (v := ?_) (a' := ?_) #[true, true, true, false, false, false, false, false] rfl rfl (take_ofW HT_.out HW_.out (by kernel_rfl)) (fun _ _ _ h => h) (Or.inl ⟨by rfl, ?_⟩) hHeld ?_ ?_
            rotate_left
            ·rintro w' ⟨s0, s1, s2, s3, s4, s5⟩
             go_simp
             with_reducible rfl
            rotate_left
            ·simp only [Act.put, List.setIfInBounds_toArray, List.set_cons_zero, List.set_cons_succ, i64_w, i32_w]
             rfl
            refine take_ (i := 3) (N := some 88) (v := ?_) (a' := ?_) #[true, true, true, true, false, false, false, false] rfl rfl (take_ofW HT_.out HW_.out (by kernel_rfl)) (fun _ _ _ h => h) (Or.inl ⟨by rfl, ?_⟩) hHeld ?_ ?_
            rotate_left
            ·rintro w' ⟨s0, s1, s2, s3, s4, s5⟩
             go_simp
             with_reducible rfl
            rotate_left
            ·simp only [Act.put, List.setIfInBounds_toArray, List.set_cons_zero, List.set_cons_succ, i64_w, i32_w]
             rfl
            refine one_ (i := 4) (N := some 89) #[true, true, true, true, true, false, false, false] rfl rfl (one_of HT_.out (by kernel_rfl)) (by decide) (fun K hK => ?_)
            refine goes_ Try.func69 (by kernel_rfl) rfl #[.int .i64 a1_0] (by rfl) rfl rfl (by (try simp only [List.map_toArray, List.map_cons, List.map_nil]); first | done | rfl | (simp only [List.length_drop, List.length_take]; rfl)) ?_
            with_reducible refine (expr_level.calls a1_0 t191 _ A90.out).mono ?_
            rintro e w' ⟨rfl, ⟨nd, rfl⟩⟩
            refine ⟨_, rfl, ?_⟩
            obtain ⟨Ao93, co93, eo93⟩ := Kd.R_slice HO_0.out
            (first | subst eo93 | (injection eo93 with f1_ f2_ f3_; have f4_ := f1_.symm; have f5_ := f3_.symm; clear f1_ f2_ f3_; subst f4_; subst f5_))
            refine hK.out _ _ ⟨(blk_cell BK180.out 0).trans rfl, (blk_cell BK180.out 1).trans rfl, (blk_cell BK180.out 2).trans rfl, (blk_cell BK124.out 0).trans rfl, (blk_cell BK124.out 1).trans rfl, (blk_cell BK124.out 2).trans rfl⟩ (fun hHeld => ?_)
            clear hK K
            refine norm_ (a' := ?_) ?_ ?_
            rotate_left
            ·show Act.put _ (some 89) _ = _
             simp only [Act.put, List.setIfInBounds_toArray, List.set_cons_zero, List.set_cons_succ, i64_w, i32_w]
             rfl
            refine pure_ (i := 5) (N := some 90) (v := ?_) (a' := ?_) #[true, true, true, true, true, true, false, false] rfl rfl (any_of HT_.out (by kernel_rfl)) (fun _ _ _ h => h) (Or.inl ⟨by rfl, ?_⟩) ?_ ?_
            rotate_left
            ·intro w'
             go_simp
             with_reducible rfl
            rotate_left
            ·simp only [Act.put, List.setIfInBounds_toArray, List.set_cons_zero, List.set_cons_succ, i64_w, i32_w]
             rfl
            refine one_ (i := 6) (N := some 91) #[true, true, true, true, true, true, true, false] rfl rfl (one_of HT_.out (by kernel_rfl)) (by decide) (fun K hK => ?_)
            refine goes_ Try.func47 (by kernel_rfl) rfl #[.slice Ao93 x0_2.length co93, .agg #[.int .i64 ((rd_T24 l1_2 x70_2).f0), .int .i64 ((rd_T24 l1_2 x70_2).f1), .slice A179_2 ((rd_T24 l1_2 x70_2).f2).length c179_2], .int .i64 (wrap64 (t191 + 1))] (by rfl) rfl rfl (by (try simp only [List.map_toArray, List.map_cons, List.map_nil]); first | done | rfl | (simp only [List.length_drop, List.length_take]; rfl)) ?_
            with_reducible refine (ih kj73 (by have := HJ23.out; have := HK2.out; have := HJ73.out; omega) (fun k_ => some k_ = (.slice Ao93 x0_2.length co93 : Value).ownBlock) (.slice Ao93 x0_2.length co93) x0_2 ((rd_T24 l1_2 x70_2).f0) ((rd_T24 l1_2 x70_2).f1) _ _ ((rd_T24 l1_2 x70_2).f2) (wrap64 (t191 + 1)) t192 w0 _ ?side1 ?side2 ?side3 ?side4 A91.out).mono ?_
            (case side1 => repeat (first | (with_reducible first | exact HB.out | apply below_alloc | apply pw_below_drewN | apply below_drew1 | refine below_set ?_ GE124.out | refine below_set ?_ GE180.out) | exact HB.out))
            (case side2 => exact Kd.R_tight rfl HO_0.out)
            (case side3 => exact Kd.C_kept_call HR179_2.out (kP) (fun k_ hs_ => (fun e_ => (HO_0.out.1 k_ e_.symm)) hs_))
            (case side4 => exact HC179_2.out)
            rintro e w94 ⟨v193, rfl, ho0, hb, hkp⟩
            refine ⟨_, rfl, ?_⟩
            have n0_ := Aside0.mk (blk_kept (bK) hkp (fun hs_ => (fun e_ => (Kd.R_ne HO_0.out BK124.out (by decide)) e_) hs_))
            have n1_ := Aside0.mk (blk_kept (bK) hkp (fun hs_ => (fun e_ => (Kd.R_ne HO_0.out BK180.out (by decide)) e_) hs_))
            have n2_ := Aside0.mk (Kd.R_mono (ok' := fun k_ => (P0_ k_ ∨ w.heap.size ≤ k_)) ho0 (fun k_ hk_ => Or.elim hk_ (fun hs_ => (HO_0.out.1 k_ (hs_).symm)) (fun hn_ => (.inr (Nat.le_trans (by first | exact HK.out.1 | exact (show Kept w _ (fun k_ => P0_ k_) from kP).1) hn_)))))
            have n3_ := Aside0.mk (Kept.then_ (S := (fun k_ => P0_ k_)) (kP) hkp (fun k_ hs_ => (fun e_ => (HO_0.out.1 k_ e_.symm)) hs_))
            have n4_ := Aside0.mk (hb)
            clear BK124
            clear BK180
            clear HK
            clear HB
            clear HO_0
            have BK124 := n0_
            have BK180 := n1_
            have HO194 := n2_
            have HK := n3_
            have HB := n4_
            clear n0_ n1_ n2_ n3_ n4_
            (try clear hb)
            (try clear hkp)
            (try clear ho0)
            refine hK.out _ _ ⟨(blk_cell BK180.out 0).trans rfl, (blk_cell BK180.out 1).trans rfl, (blk_cell BK180.out 2).trans rfl, (blk_cell BK124.out 0).trans rfl, (blk_cell BK124.out 1).trans rfl, (blk_cell BK124.out 2).trans rfl⟩ (fun hHeld => ?_)
            clear hK K
            refine norm_ (a' := ?_) ?_ ?_
            rotate_left
            ·show Act.put _ (some 91) _ = _
             simp only [Act.put, List.setIfInBounds_toArray, List.set_cons_zero, List.set_cons_succ, i64_w, i32_w]
             rfl
            refine pure_ (i := 7) (N := some 0) (v := ?_) (a' := ?_) #[true, true, true, true, true, true, true, true] rfl rfl (any_of HT_.out (by kernel_rfl)) (fun _ _ _ h => h) (Or.inl ⟨by rfl, ?_⟩) ?_ ?_
            rotate_left
            ·intro w'
             go_simp
             with_reducible rfl
            rotate_left
            ·simp only [Act.put, List.setIfInBounds_toArray, List.set_cons_zero, List.set_cons_succ, i64_w, i32_w]
             rfl
            refine done_ (done_of HT_.out (by kernel_rfl)) ?_
            try go_wp2
            (first | go_roundg kj73 | ((simp only [add_plain] at *); go_roundg kj73))
            case measure => have := HJ23.out; have := HK2.out; have := HJ73.out; omega
            case rel => exact ⟨(t192), (wrap64 (x70_2 + 1)), (by first | rfl | (simp; done) | (simp [*]; done)), H', ⟨by have := HJ23.out; have := HK2.out; have := HJ73.out; omega⟩, ⟨by (with_reducible repeat (first | apply Kd.R_alloc | apply Kd.R_drewN | apply Kd.R_drew)); exact HO194.out⟩, ⟨bK⟩, ⟨kP⟩, ⟨bB⟩⟩
        ·rw [if_neg c73] at H
         exact absurd H (by simp)
       ·rw [if_neg c72] at H
        exact absurd H (by simp)
      ·rw [if_neg c71] at H
       have c71b0 : decide (x70_2 < (l1_2.length : Int)) = false := decide_eq_false c71
       clear c71
       obtain rfl := Option.some.inj H
       go_wp2
       go_ret
       exact ⟨_, by first | rfl | (simp [errW_none, errW_some] <;> rfl) | (simp [*, errW_none, errW_some] <;> rfl), by (with_reducible repeat (first | apply Kd.R_alloc | apply Kd.R_drewN | apply Kd.R_drew)); exact HO_0.out, bB, kP⟩
end Go.Proofs.Ytjofkebiacaciaa.PAll
end
section
namespace Go.Proofs.Ytjofkebiacaciaa.PAll
open Go.RowKit Go.Proofs.YtjofkebiacaciaaW.PrintWords Go.Proofs.YtjofkebiacaciaaW.PrintLast Go.Proofs.YtjofkebiacaciaaW.PrintMore
attribute [local go_sem] max2_int min2_int max_two min_two max_three min_three max_four min_four
set_option linter.unusedVariables false
set_option linter.unusedSimpArgs false
def expr_Format.f (k : Nat) (a0_0 : Int) (a0_1 : Int) (l0_2 : List (S24)) : Option (ByteArray) := (expr_valid.f k a0_0 a0_1 l0_2).bind fun t196 => (if t196 = true then ((expr_text.f k ([] : List Int) a0_0 a0_1 l0_2 0).bind fun t197 => (some (strOfNums t197))) else (some (⟨#[]⟩ : ByteArray)))
theorem expr_Format.mono : ∀ a0 a1 a2 k, LeO (expr_Format.f k a0 a1 a2) (expr_Format.f (k + 1) a0 a1 a2) := by
 intro a0 a1 a2 k
 unfold expr_Format.f
 repeat' first
   | (with_reducible exact expr_text.mono _ _ _ _ _ _)
   | (with_reducible exact expr_valid.mono _ _ _ _)
   | (with_reducible exact LeO.refl _)
   | (with_reducible exact LeO.none _)
   | (with_reducible refine LeO.ite ?_ ?_)
   | (with_reducible refine LeO.bind ?_ (fun _ => ?_))
   | exact expr_text.mono _ _ _ _ _ _
   | exact expr_valid.mono _ _ _ _
   | exact LeO.none _
   | refine LeO.ite ?_ ?_
   | refine LeO.bind ?_ (fun _ => ?_)
set_option maxHeartbeats 8000000 in
set_option maxRecDepth 100000 in
theorem expr_Format.calls (k : Nat) (a0_0 : Int) (a0_1 : Int) (A0_2 : Option Addr) (c0_2 : Nat) (l0_2 : List (S24)) (r : ByteArray) (w : World) (hr0_2 : Kd.C k24 w A0_2 l0_2.length l0_2) (hc0_2 : l0_2.length ≤ c0_2) (h : expr_Format.f k a0_0 a0_1 l0_2 = some r) :
  Calls Try.prog 18 #[.agg #[.int .i64 a0_0, .int .i64 a0_1, .slice A0_2 l0_2.length c0_2]] w fun e w' => e = .returned (.string r) ∧ Below w.heap.size w w' := by
 have hu24 := Try.underlying24
 have HR0_2 := Aside0.mk hr0_2
 have HC0_2 := Aside0.mk hc0_2
 clear hr0_2 hc0_2
 have HB := Aside0.mk (Below.refl w.heap.size w)
 have H : ((expr_valid.f k a0_0 a0_1 l0_2).bind fun t196 => (if t196 = true then ((expr_text.f k ([] : List Int) a0_0 a0_1 l0_2 0).bind fun t197 => (some (strOfNums t197))) else (some (⟨#[]⟩ : ByteArray)))) = some r := h
 clear h
 replace H := Option.bind_eq_some_iff.mp H
 obtain ⟨t196, A20, H⟩ := H
 replace H : (if t196 = true then ((expr_text.f k ([] : List Int) a0_0 a0_1 l0_2 0).bind fun t197 => (some (strOfNums t197))) else (some (⟨#[]⟩ : ByteArray))) = some r := H
 have A2 := Aside0.mk A20
 clear A20
 by_cases c3 : t196 = true
 ·subst c3
  have H1 : ((expr_text.f k ([] : List Int) a0_0 a0_1 l0_2 0).bind fun t197 => (some (strOfNums t197))) = some r := by rw [if_pos rfl] at H; exact H
  clear H
  have H := H1
  clear H1
  replace H := Option.bind_eq_some_iff.mp H
  obtain ⟨t197, A40, H⟩ := H
  replace H : (some (strOfNums t197)) = some r := H
  have A4 := Aside0.mk A40
  clear A40
  obtain rfl := Option.some.inj H
  go_enter Try.func18, Try.ntmps18
  go_wp2_with (first | ((with_reducible refine gate_dst (N := 1) rfl ?_); refine box_event ?hg (N := 1) ?hd (cs := #[.int .i64 a0_0, .int .i64 a0_1, .slice A0_2 l0_2.length c0_2]) (t := 24) ?hr ?_; (case hd => rfl); (case hg => rfl); (case hr => first | (go_simp; done) | (go_simp; rfl)); intro gb195 hg w5 hbox hb; have n0_ := Aside0.mk (below_step (bB) hb); have n1_ := Aside0.mk (hbox); have n2_ := Aside0.mk ((by rw [hg]; exact (below_size (bB)) : w.heap.size ≤ gb195)); have n3_ := Aside0.mk ((by rw [hg]; exact (below_size (bB)) : w.heap.size ≤ gb195)); clear HB; have HB := n0_; have BK195 := n1_; have GW195 := n2_; have GE195 := n3_; clear n0_ n1_ n2_ n3_; clear hb hbox hg; have hcz6_0 : w5.cell? ⟨gb195, 0, none⟩ = some (.int .i64 a0_0) := (blk_cell BK195.out 0).trans rfl; have hcz6_1 : w5.cell? ⟨gb195, 1, none⟩ = some (.int .i64 a0_1) := (blk_cell BK195.out 1).trans rfl; have hcz6_2 : w5.cell? ⟨gb195, 2, none⟩ = some (.slice A0_2 l0_2.length c0_2) := (blk_cell BK195.out 2).trans rfl; have hfz6_0 := blk_frozen BK195.out 0; have hfz6_1 := blk_frozen BK195.out 1; have hfz6_2 := blk_frozen BK195.out 2) | ((with_reducible refine gate_callee (f := 46) rfl ?_); refine goesL_ (some 4) rfl rfl Try.func46 (by kernel_rfl) rfl #[.agg #[.int .i64 a0_0, .int .i64 a0_1, .slice A0_2 l0_2.length c0_2]] rfl (by (try simp only [List.map_toArray, List.map_cons, List.map_nil]); first | done | rfl | (simp only [List.length_drop, List.length_take]; rfl) | (simp only [Int.ofNat_lt, Int.ofNat_le]; rfl)) ?_; (with_reducible refine (expr_valid.calls k a0_0 a0_1 _ _ l0_2 true _ ?side1 ?side2 A2.out).mono ?_); (case side1 => repeat (first | exact (Kd.C_below HR0_2.out HB.out) | (with_reducible refine Kd.C_alloc ?_ _) | (with_reducible refine Kd.C_drewN ?_ _) | (with_reducible refine Kd.C_drew ?_))); (case side2 => exact HC0_2.out); rintro e w7 ⟨rfl, hb⟩; refine ⟨_, rfl, ?_⟩; have n0_ := Aside0.mk (blk_below (g := gb195) (o := .cells #[.int .i64 a0_0, .int .i64 a0_1, .slice A0_2 l0_2.length c0_2] 24 (0, 0)) (bK) hb); have n1_ := Aside0.mk (below_step (bB) hb); clear BK195; clear HB; have BK195 := n0_; have HB := n1_; clear n0_ n1_; (try clear hb); (try clear hb2); (try clear hk); (try clear hi); have hcz8_0 : w7.cell? ⟨gb195, 0, none⟩ = some (.int .i64 a0_0) := (blk_cell BK195.out 0).trans rfl; have hcz8_1 : w7.cell? ⟨gb195, 1, none⟩ = some (.int .i64 a0_1) := (blk_cell BK195.out 1).trans rfl; have hcz8_2 : w7.cell? ⟨gb195, 2, none⟩ = some (.slice A0_2 l0_2.length c0_2) := (blk_cell BK195.out 2).trans rfl; have hfz8_0 := blk_frozen BK195.out 0; have hfz8_1 := blk_frozen BK195.out 1; have hfz8_2 := blk_frozen BK195.out 2) | ((with_reducible refine gate_callee (f := 47) rfl ?_); refine goesL_ (some 7) rfl rfl Try.func47 (by kernel_rfl) rfl #[.slice none 0 0, .agg #[.int .i64 a0_0, .int .i64 a0_1, .slice A0_2 l0_2.length c0_2], .int .i64 0] rfl (by (try simp only [List.map_toArray, List.map_cons, List.map_nil]); first | done | rfl | (simp only [List.length_drop, List.length_take]; rfl) | (simp only [Int.ofNat_lt, Int.ofNat_le]; rfl)) ?_; (refine (expr_text.calls k (fun k_ => some k_ = (.slice none 0 0 : Value).ownBlock) (.slice none 0 0) ([] : List Int) a0_0 a0_1 _ _ l0_2 0 t197 w _ ?side1 ?side2 ?side3 ?side4 A4.out).mono ?_); (case side1 => repeat (first | (with_reducible first | exact HB.out | apply below_alloc | apply pw_below_drewN | apply below_drew1 | refine below_set ?_ GE195.out) | exact HB.out)); (case side2 => exact Kd.R_nil _ _ _ _ _); (case side3 => exact Kd.C_kept_came k24_heap HR0_2.out (bB) (fun k_ hs_ => (fun e_ => by simp [Value.ownBlock] at e_) hs_)); (case side4 => exact HC0_2.out); rintro e w9 ⟨v198, rfl, ho0, hb, hkp⟩; refine ⟨_, rfl, ?_⟩; have n0_ := Aside0.mk (blk_kept (bK) hkp (fun hs_ => (fun e_ => by simp [Value.ownBlock] at e_) hs_)); have n1_ := Aside0.mk (Kd.R_mono (ok' := fun k_ => True) ho0 (fun k_ hk_ => trivial)); have n2_ := Aside0.mk (hb); clear BK195; clear HB; have BK195 := n0_; have HO199 := n1_; have HB := n2_; clear n0_ n1_ n2_; (try clear hb); (try clear hkp); (try clear ho0); have hcv10 := own_string (P := Try.prog) Try.underlying43 Try.underlying5 Try.underlying9 (Kd.own_of_R HO199.out)))
  go_ret
  exact ⟨by first | rfl | (simp [errW_none, errW_some] <;> rfl) | (simp [*, errW_none, errW_some] <;> rfl), bB⟩
 ·replace c3 := Bool.eq_false_iff.mpr c3
  subst c3
  have H1 : (some (⟨#[]⟩ : ByteArray)) = some r := by rw [if_neg (show ¬ (false = true) by decide)] at H; exact H
  clear H
  have H := H1
  clear H1
  obtain rfl := Option.some.inj H
  go_enter Try.func18, Try.ntmps18
  go_wp2_with (first | ((with_reducible refine gate_dst (N := 1) rfl ?_); refine box_event ?hg (N := 1) ?hd (cs := #[.int .i64 a0_0, .int .i64 a0_1, .slice A0_2 l0_2.length c0_2]) (t := 24) ?hr ?_; (case hd => rfl); (case hg => rfl); (case hr => first | (go_simp; done) | (go_simp; rfl)); intro gb195 hg w11 hbox hb; have n0_ := Aside0.mk (below_step (bB) hb); have n1_ := Aside0.mk (hbox); have n2_ := Aside0.mk ((by rw [hg]; exact (below_size (bB)) : w.heap.size ≤ gb195)); have n3_ := Aside0.mk ((by rw [hg]; exact (below_size (bB)) : w.heap.size ≤ gb195)); clear HB; have HB := n0_; have BK195 := n1_; have GW195 := n2_; have GE195 := n3_; clear n0_ n1_ n2_ n3_; clear hb hbox hg; have hcz12_0 : w11.cell? ⟨gb195, 0, none⟩ = some (.int .i64 a0_0) := (blk_cell BK195.out 0).trans rfl; have hcz12_1 : w11.cell? ⟨gb195, 1, none⟩ = some (.int .i64 a0_1) := (blk_cell BK195.out 1).trans rfl; have hcz12_2 : w11.cell? ⟨gb195, 2, none⟩ = some (.slice A0_2 l0_2.length c0_2) := (blk_cell BK195.out 2).trans rfl; have hfz12_0 := blk_frozen BK195.out 0; have hfz12_1 := blk_frozen BK195.out 1; have hfz12_2 := blk_frozen BK195.out 2) | ((with_reducible refine gate_callee (f := 46) rfl ?_); refine goesL_ (some 4) rfl rfl Try.func46 (by kernel_rfl) rfl #[.agg #[.int .i64 a0_0, .int .i64 a0_1, .slice A0_2 l0_2.length c0_2]] rfl (by (try simp only [List.map_toArray, List.map_cons, List.map_nil]); first | done | rfl | (simp only [List.length_drop, List.length_take]; rfl) | (simp only [Int.ofNat_lt, Int.ofNat_le]; rfl)) ?_; (with_reducible refine (expr_valid.calls k a0_0 a0_1 _ _ l0_2 false _ ?side1 ?side2 A2.out).mono ?_); (case side1 => repeat (first | exact (Kd.C_below HR0_2.out HB.out) | (with_reducible refine Kd.C_alloc ?_ _) | (with_reducible refine Kd.C_drewN ?_ _) | (with_reducible refine Kd.C_drew ?_))); (case side2 => exact HC0_2.out); rintro e w13 ⟨rfl, hb⟩; refine ⟨_, rfl, ?_⟩; have n0_ := Aside0.mk (blk_below (g := gb195) (o := .cells #[.int .i64 a0_0, .int .i64 a0_1, .slice A0_2 l0_2.length c0_2] 24 (0, 0)) (bK) hb); have n1_ := Aside0.mk (below_step (bB) hb); clear BK195; clear HB; have BK195 := n0_; have HB := n1_; clear n0_ n1_; (try clear hb); (try clear hb2); (try clear hk); (try clear hi)))
  go_ret
  exact ⟨by first | rfl | (simp [errW_none, errW_some] <;> rfl) | (simp [*, errW_none, errW_some] <;> rfl), bB⟩
end Go.Proofs.Ytjofkebiacaciaa.PAll
end
section
namespace Go.Proofs.Ytjofkebiacaciaa.PAll
open Go.RowKit Go.Proofs.YtjofkebiacaciaaW.PrintWords Go.Proofs.YtjofkebiacaciaaW.PrintLast Go.Proofs.YtjofkebiacaciaaW.PrintMore
attribute [local go_sem] max2_int min2_int max_two min_two max_three min_three max_four min_four
set_option linter.unusedVariables false
set_option linter.unusedSimpArgs false
def simplify_Empty.f  : Option (Int × Int × (List (S24))) := some (1, 0, ([] : List (S24)))
set_option maxHeartbeats 8000000 in
set_option maxRecDepth 100000 in
theorem simplify_Empty.calls  (r1 : Int) (r2 : Int) (r3 : List (S24)) (w : World) (h : simplify_Empty.f  = some (r1, r2, r3)) :
  Calls Try.prog 90 #[] w fun e w' => ∃ v2_ : Value, e = .returned (.agg #[.int .i64 r1, .int .i64 r2, v2_]) ∧ Kd.R k24 24 w' w.heap.size (fun _ => True) v2_ r3 ∧ Below w.heap.size w w' := by
 have hu24 := Try.underlying24
 have HB := Aside0.mk (Below.refl w.heap.size w)
 have H : (some (1, 0, ([] : List (S24)))) = some (r1, r2, r3) := h
 clear h
 simp only [Option.some.injEq, Prod.mk.injEq] at H
 obtain ⟨rfl, rfl, rfl⟩ := H
 go_enter Try.func90, Try.ntmps90
 go_wp2_with (first | ((with_reducible refine gate_dst (N := 0) rfl ?_); refine box_event ?hg (N := 0) ?hd (cs := #[.int .i64 0, .int .i64 0, .slice none 0 0]) (t := 24) ?hr ?_; (case hd => rfl); (case hg => rfl); (case hr => first | (go_simp; done) | (go_simp; rfl)); intro gb202 hg w1 hbox hb; have n0_ := Aside0.mk (below_step (bB) hb); have n1_ := Aside0.mk (hbox); have n2_ := Aside0.mk ((by rw [hg]; exact (below_size (bB)) : w.heap.size ≤ gb202)); have n3_ := Aside0.mk ((by rw [hg]; exact (below_size (bB)) : w.heap.size ≤ gb202)); clear HB; have HB := n0_; have BK202 := n1_; have GW202 := n2_; have GE202 := n3_; clear n0_ n1_ n2_ n3_; clear hb hbox hg; have hcz2_0 : w1.cell? ⟨gb202, 0, none⟩ = some (.int .i64 0) := (blk_cell BK202.out 0).trans rfl; have hcz2_1 : w1.cell? ⟨gb202, 1, none⟩ = some (.int .i64 0) := (blk_cell BK202.out 1).trans rfl; have hcz2_2 : w1.cell? ⟨gb202, 2, none⟩ = some (.slice none 0 0) := (blk_cell BK202.out 2).trans rfl; have hfz2_0 := blk_frozen BK202.out 0; have hfz2_1 := blk_frozen BK202.out 1; have hfz2_2 := blk_frozen BK202.out 2))
 refine bodyPost_ret (results_cell_row rfl _ _ gb202 24 #[.int .i64 1, .int .i64 0, .slice none 0 0] (0, 0) _ rfl (by (with_reducible repeat (first | refine blk_drewN ?_ _ | refine blk_drew ?_ | refine blk_alloc ?_ _)); refine blk_put (cs := #[.int .i64 1, .int .i64 0, .slice none 0 0]) ?_ 2 _ rfl; (with_reducible repeat (first | refine blk_drewN ?_ _ | refine blk_drew ?_ | refine blk_alloc ?_ _)); refine blk_put (cs := #[.int .i64 1, .int .i64 0, .slice none 0 0]) ?_ 1 _ rfl; (with_reducible repeat (first | refine blk_drewN ?_ _ | refine blk_drew ?_ | refine blk_alloc ?_ _)); refine blk_put (cs := #[.int .i64 0, .int .i64 0, .slice none 0 0]) ?_ 0 _ rfl; (with_reducible repeat (first | refine blk_drewN ?_ _ | refine blk_drew ?_ | refine blk_alloc ?_ _)); exact BK202.out) Try.underlying24 rfl (by kernel_rfl)) rfl ?_
 exact ⟨_, by first | rfl | (simp [errW_none, errW_some] <;> rfl) | (simp [*, errW_none, errW_some] <;> rfl), by first | exact Kd.R_nil _ _ _ _ _ | exact Kd.N_nil _ _ _ _ _ | exact Kd.V_nil _ _ _ _ _ | exact Kd.Q_nil _ _ _ _ _ | exact Kd.S_nil _ _ _ _ _, bB⟩
end Go.Proofs.Ytjofkebiacaciaa.PAll
end
section
namespace Go.Proofs.Ytjofkebiacaciaa.PAll
open Go.RowKit Go.Proofs.YtjofkebiacaciaaW.PrintWords Go.Proofs.YtjofkebiacaciaaW.PrintLast Go.Proofs.YtjofkebiacaciaaW.PrintMore
attribute [local go_sem] max2_int min2_int max_two min_two max_three min_three max_four min_four
set_option linter.unusedVariables false
set_option linter.unusedSimpArgs false
def simplify_Unit.f  : Option (Int × Int × (List (S24))) := some (2, 0, ([] : List (S24)))
set_option maxHeartbeats 8000000 in
set_option maxRecDepth 100000 in
theorem simplify_Unit.calls  (r1 : Int) (r2 : Int) (r3 : List (S24)) (w : World) (h : simplify_Unit.f  = some (r1, r2, r3)) :
  Calls Try.prog 91 #[] w fun e w' => ∃ v2_ : Value, e = .returned (.agg #[.int .i64 r1, .int .i64 r2, v2_]) ∧ Kd.R k24 24 w' w.heap.size (fun _ => True) v2_ r3 ∧ Below w.heap.size w w' := by
 have hu24 := Try.underlying24
 have HB := Aside0.mk (Below.refl w.heap.size w)
 have H : (some (2, 0, ([] : List (S24)))) = some (r1, r2, r3) := h
 clear h
 simp only [Option.some.injEq, Prod.mk.injEq] at H
 obtain ⟨rfl, rfl, rfl⟩ := H
 go_enter Try.func91, Try.ntmps91
 go_wp2_with (first | ((with_reducible refine gate_dst (N := 0) rfl ?_); refine box_event ?hg (N := 0) ?hd (cs := #[.int .i64 0, .int .i64 0, .slice none 0 0]) (t := 24) ?hr ?_; (case hd => rfl); (case hg => rfl); (case hr => first | (go_simp; done) | (go_simp; rfl)); intro gb203 hg w1 hbox hb; have n0_ := Aside0.mk (below_step (bB) hb); have n1_ := Aside0.mk (hbox); have n2_ := Aside0.mk ((by rw [hg]; exact (below_size (bB)) : w.heap.size ≤ gb203)); have n3_ := Aside0.mk ((by rw [hg]; exact (below_size (bB)) : w.heap.size ≤ gb203)); clear HB; have HB := n0_; have BK203 := n1_; have GW203 := n2_; have GE203 := n3_; clear n0_ n1_ n2_ n3_; clear hb hbox hg; have hcz2_0 : w1.cell? ⟨gb203, 0, none⟩ = some (.int .i64 0) := (blk_cell BK203.out 0).trans rfl; have hcz2_1 : w1.cell? ⟨gb203, 1, none⟩ = some (.int .i64 0) := (blk_cell BK203.out 1).trans rfl; have hcz2_2 : w1.cell? ⟨gb203, 2, none⟩ = some (.slice none 0 0) := (blk_cell BK203.out 2).trans rfl; have hfz2_0 := blk_frozen BK203.out 0; have hfz2_1 := blk_frozen BK203.out 1; have hfz2_2 := blk_frozen BK203.out 2))
 refine bodyPost_ret (results_cell_row rfl _ _ gb203 24 #[.int .i64 2, .int .i64 0, .slice none 0 0] (0, 0) _ rfl (by (with_reducible repeat (first | refine blk_drewN ?_ _ | refine blk_drew ?_ | refine blk_alloc ?_ _)); refine blk_put (cs := #[.int .i64 2, .int .i64 0, .slice none 0 0]) ?_ 2 _ rfl; (with_reducible repeat (first | refine blk_drewN ?_ _ | refine blk_drew ?_ | refine blk_alloc ?_ _)); refine blk_put (cs := #[.int .i64 2, .int .i64 0, .slice none 0 0]) ?_ 1 _ rfl; (with_reducible repeat (first | refine blk_drewN ?_ _ | refine blk_drew ?_ | refine blk_alloc ?_ _)); refine blk_put (cs := #[.int .i64 0, .int .i64 0, .slice none 0 0]) ?_ 0 _ rfl; (with_reducible repeat (first | refine blk_drewN ?_ _ | refine blk_drew ?_ | refine blk_alloc ?_ _)); exact BK203.out) Try.underlying24 rfl (by kernel_rfl)) rfl ?_
 exact ⟨_, by first | rfl | (simp [errW_none, errW_some] <;> rfl) | (simp [*, errW_none, errW_some] <;> rfl), by first | exact Kd.R_nil _ _ _ _ _ | exact Kd.N_nil _ _ _ _ _ | exact Kd.V_nil _ _ _ _ _ | exact Kd.Q_nil _ _ _ _ _ | exact Kd.S_nil _ _ _ _ _, bB⟩
end Go.Proofs.Ytjofkebiacaciaa.PAll
end
