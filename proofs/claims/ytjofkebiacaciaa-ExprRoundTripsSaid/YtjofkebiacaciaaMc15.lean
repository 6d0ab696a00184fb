/- The functions that the laws of this seat reach, a proof for each that the Go code comes to them, and the plain laws; merged. Conditions: none beside those of the given statements. -/
import Derived.Laws.EntriesVeiled
import Derived.Outline
import Derived.Deep.RegionWith
import Derived.BigRegion
import Derived.Test.YtjofkebiacaciaaMc14
section
namespace Go.Proofs.Ytjofkebiacaciaa.PAll
open Go.RowKit Go.Proofs.YtjofkebiacaciaaW.PrintWords Go.Proofs.YtjofkebiacaciaaW.PrintLast Go.Proofs.YtjofkebiacaciaaW.PrintMore
attribute [local go_sem] max2_int min2_int max_two min_two max_three min_three max_four min_four
set_option linter.unusedVariables false
set_option linter.unusedSimpArgs false
def IsS50 (w0 W : World) (g : Nat) (f0 : ByteArray) (f1 : Int) (f2 : Int) : Prop := W.heap[g]? = some (.cells #[.string f0, .int .i64 f1, .int .i64 f2] 50 (0, 0)) ∧ w0.heap.size ≤ g
theorem IsS50.grown {w0 W : World} {g : Nat} {f0 : ByteArray} {f1 : Int} {f2 : Int} {W1 : World} {row : Option Nat} (h : IsS50 w0 W g f0 f1 f2) (hw : W.grownBy W1 row) (hne : some g ≠ row) : IsS50 w0 W1 g f0 f1 f2 := by
 obtain ⟨hb, hg⟩ := h
 exact ⟨blk_grown hb hw hne, hg⟩
theorem IsS50.own_neN {w0 W : World} {g : Nat} {f0 : ByteArray} {f1 : Int} {f2 : Int} {α : Type} {d : Kd α} {e : Nat} {base : Nat} {ok : Nat → Prop} {v : Value} {xs : List α} (h : IsS50 w0 W g f0 f1 f2) (ho : Kd.N d e W base ok v xs) (ht : e ≠ 50) : some g ≠ v.ownBlock := by
 obtain ⟨hb, hg⟩ := h
 exact Kd.N_ne ho hb ht
theorem IsS50.fresh {w0 W : World} {g : Nat} {f0 : ByteArray} {f1 : Int} {f2 : Int} (h : IsS50 w0 W g f0 f1 f2) : ∀ k, W.heap.size ≤ k → k ≠ g := by
 obtain ⟨hb, hg⟩ := h
 exact Kd.freshB hb
theorem IsS50.kept {w0 W : World} {g : Nat} {f0 : ByteArray} {f1 : Int} {f2 : Int} {W1 : World} {S : Nat → Prop} (h : IsS50 w0 W g f0 f1 f2) (hk : Kept W W1 S) (hne : ¬ S g) : IsS50 w0 W1 g f0 f1 f2 := by
 obtain ⟨hb, hg⟩ := h
 exact ⟨blk_kept hb hk hne, hg⟩
theorem IsS50.below {w0 W : World} {g : Nat} {f0 : ByteArray} {f1 : Int} {f2 : Int} {W1 : World} (h : IsS50 w0 W g f0 f1 f2) (hw : Below W.heap.size W W1) : IsS50 w0 W1 g f0 f1 f2 := h.grown (grown_of_below hw none) (by simp)
theorem IsS50.alloc {w0 W : World} {g : Nat} {f0 : ByteArray} {f1 : Int} {f2 : Int} (h : IsS50 w0 W g f0 f1 f2) (o : Obj) : IsS50 w0 (W.alloc o) g f0 f1 f2 := h.below (below_alloc (Below.refl _ _) o)
theorem IsS50.drewN {w0 W : World} {g : Nat} {f0 : ByteArray} {f1 : Int} {f2 : Int} (h : IsS50 w0 W g f0 f1 f2) (m : Nat) : IsS50 w0 (W.drewN m) g f0 f1 f2 := h
theorem IsS50.drew {w0 W : World} {g : Nat} {f0 : ByteArray} {f1 : Int} {f2 : Int} (h : IsS50 w0 W g f0 f1 f2) : IsS50 w0 W.drew g f0 f1 f2 := h
theorem IsS50.at_ {w0 W : World} {g : Nat} {f0 : ByteArray} {f1 : Int} {f2 : Int} {w' : World} {m : Nat} (hq : W.drewN m = w') (h : IsS50 w0 W g f0 f1 f2) : IsS50 w0 w' g f0 f1 f2 := by subst hq; exact IsS50.drewN h m
theorem IsS50.apart {w0 W : World} {g : Nat} {f0 : ByteArray} {f1 : Int} {f2 : Int} {α : Type} {d : Kd α} {e : Nat} {base : Nat} {ok : Nat → Prop} {v : Value} {xs : List α} (h : IsS50 w0 W g f0 f1 f2) (ho : d.R e W base ok v xs) (ht : ∀ q, q ∈ e :: d.E → q ≠ 50) : d.R e W base (fun k => ok k ∧ k ≠ g) v xs := by
 obtain ⟨hb, hg⟩ := h
 exact Kd.R_types ho hb ht
theorem IsS50.own_ne {w0 W : World} {g : Nat} {f0 : ByteArray} {f1 : Int} {f2 : Int} {α : Type} {d : Kd α} {e : Nat} {base : Nat} {ok : Nat → Prop} {v : Value} {xs : List α} (h : IsS50 w0 W g f0 f1 f2) (ho : d.R e W base ok v xs) (ht : e ≠ 50) : some g ≠ v.ownBlock := by
 obtain ⟨hb, hg⟩ := h
 exact Kd.R_ne ho hb ht
theorem IsS50.lt {w0 W : World} {g : Nat} {f0 : ByteArray} {f1 : Int} {f2 : Int} (h : IsS50 w0 W g f0 f1 f2) : g < W.heap.size := by
 obtain ⟨hb, hg⟩ := h
 exact blk_lt hb
theorem IsS50.ge {w0 W : World} {g : Nat} {f0 : ByteArray} {f1 : Int} {f2 : Int} (h : IsS50 w0 W g f0 f1 f2) : w0.heap.size ≤ g := by
 obtain ⟨hb, hg⟩ := h
 exact hg
theorem IsS50.far {w0 W : World} {g : Nat} {f0 : ByteArray} {f1 : Int} {f2 : Int} {p : Addr} (h : IsS50 w0 W g f0 f1 f2) (hne : g ≠ p.block) (u : Value) : IsS50 w0 (W.setCell p u) g f0 f1 f2 := by
 obtain ⟨hb, hg⟩ := h
 exact ⟨blk_far hb hne u, hg⟩
theorem cellS50_0 {W : World} {g : Nat} {f0 : ByteArray} {f1 : Int} {f2 : Int} (h : W.heap[g]? = some (.cells #[.string f0, .int .i64 f1, .int .i64 f2] 50 (0, 0))) : W.cell? ⟨g, 0, none⟩ = some (.string f0) := (blk_cell h 0).trans rfl
theorem IsS50.set_0 {w0 W : World} {g : Nat} {f0 : ByteArray} {f1 : Int} {f2 : Int} (h : IsS50 w0 W g f0 f1 f2) (x : ByteArray) : IsS50 w0 (W.setCell ⟨g, 0, none⟩ (.string x)) g x f1 f2 := by
 obtain ⟨hb, hg⟩ := h
 exact ⟨by simpa using blk_set hb 0 (.string x), hg⟩
theorem cellS50_1 {W : World} {g : Nat} {f0 : ByteArray} {f1 : Int} {f2 : Int} (h : W.heap[g]? = some (.cells #[.string f0, .int .i64 f1, .int .i64 f2] 50 (0, 0))) : W.cell? ⟨g, 1, none⟩ = some (.int .i64 f1) := (blk_cell h 1).trans rfl
theorem IsS50.set_1 {w0 W : World} {g : Nat} {f0 : ByteArray} {f1 : Int} {f2 : Int} (h : IsS50 w0 W g f0 f1 f2) (x : Int) : IsS50 w0 (W.setCell ⟨g, 1, none⟩ (.int .i64 x)) g f0 x f2 := by
 obtain ⟨hb, hg⟩ := h
 exact ⟨by simpa using blk_set hb 1 (.int .i64 x), hg⟩
theorem cellS50_2 {W : World} {g : Nat} {f0 : ByteArray} {f1 : Int} {f2 : Int} (h : W.heap[g]? = some (.cells #[.string f0, .int .i64 f1, .int .i64 f2] 50 (0, 0))) : W.cell? ⟨g, 2, none⟩ = some (.int .i64 f2) := (blk_cell h 2).trans rfl
theorem IsS50.set_2 {w0 W : World} {g : Nat} {f0 : ByteArray} {f1 : Int} {f2 : Int} (h : IsS50 w0 W g f0 f1 f2) (x : Int) : IsS50 w0 (W.setCell ⟨g, 2, none⟩ (.int .i64 x)) g f0 f1 x := by
 obtain ⟨hb, hg⟩ := h
 exact ⟨by simpa using blk_set hb 2 (.int .i64 x), hg⟩
def expr_parser_peek.l0 : Nat → ByteArray → Int → Int → Option (Int × ByteArray × Int × Int)
 | 0, _, _, _ => none
 | k + 1, x1000, x1001, x1002 => if x1002 < (x1000.size : Int) then (if 0 ≤ x1002 then (if (bt x1000 x1002) = 32 then (expr_parser_peek.l0 k x1000 x1001 (wrap64 (x1002 + 1))) else (if x1002 ≥ (x1000.size : Int) then (some (0, x1000, x1001, x1002)) else (some (bt x1000 x1002, x1000, x1001, x1002)))) else (none)) else (if x1002 ≥ (x1000.size : Int) then (some (0, x1000, x1001, x1002)) else (if 0 ≤ x1002 then (none) else (none)))
def expr_parser_peek.f (k : Nat) (s0_0 : ByteArray) (s0_1 : Int) (s0_2 : Int) : Option (Int × ByteArray × Int × Int) := expr_parser_peek.l0 k s0_0 s0_1 s0_2
theorem expr_parser_peek.mono_l : ∀ k, (∀ y0 y1 y2, LeO (expr_parser_peek.l0 k y0 y1 y2) (expr_parser_peek.l0 (k + 1) y0 y1 y2))
 | 0 => fun _ _ _ r h => by simp [expr_parser_peek.l0] at h
 | k + 1 => by
  have ih0 := expr_parser_peek.mono_l k
  ·intro y0 y1 y2
   unfold expr_parser_peek.l0
   repeat' first
   | (with_reducible exact ih0 _ _ _)
   | (with_reducible exact LeO.refl _)
   | (with_reducible exact LeO.none _)
   | (with_reducible refine LeO.ite ?_ ?_)
   | (with_reducible refine LeO.bind ?_ (fun _ => ?_))
   | exact ih0 _ _ _
   | exact LeO.none _
   | refine LeO.ite ?_ ?_
   | refine LeO.bind ?_ (fun _ => ?_)
theorem expr_parser_peek.mono : ∀ a0 a1 a2 k, LeO (expr_parser_peek.f k a0 a1 a2) (expr_parser_peek.f (k + 1) a0 a1 a2) := by
 intro a0 a1 a2 k
 have ih0 := expr_parser_peek.mono_l k
 unfold expr_parser_peek.f
 repeat' first
   | (with_reducible exact ih0 _ _ _)
   | (with_reducible exact LeO.refl _)
   | (with_reducible exact LeO.none _)
   | (with_reducible refine LeO.ite ?_ ?_)
   | (with_reducible refine LeO.bind ?_ (fun _ => ?_))
   | exact ih0 _ _ _
   | exact LeO.none _
   | refine LeO.ite ?_ ?_
   | refine LeO.bind ?_ (fun _ => ?_)
set_option maxHeartbeats 8000000 in
set_option maxRecDepth 100000 in
theorem expr_parser_peek.calls (k : Nat) (g : Nat) (s0_0 : ByteArray) (s0_1 : Int) (s0_2 : Int) (r1 : Int) (r2 : ByteArray) (r3 : Int) (r4 : Int) (w0 w : World) (hI : IsS50 w0 w g s0_0 s0_1 s0_2) (hB : Below w0.heap.size w0 w) (h : expr_parser_peek.f k s0_0 s0_1 s0_2 = some (r1, r2, r3, r4)) :
  Calls Try.prog 51 #[.pointer (some ⟨g, 0, none⟩)] w fun e w' => e = .returned (.int .u8 r1) ∧ IsS50 w0 w' g r2 r3 r4 ∧ Below w0.heap.size w0 w' ∧ KeepBut w w' g none := by
 have HI0 := Aside0.mk hI
 have HK := Aside0.mk (KeepBut.refl w g none)
 have HL := Aside0.mk hB.size
 clear hI
 have HW0 := Aside0.mk hB.size
 have HB := Aside0.mk hB
 clear hB
 have H : (expr_parser_peek.l0 k s0_0 s0_1 s0_2) = some (r1, r2, r3, r4) := h
 clear h
 have H' := Aside0.mk H
 clear H
 go_enter Try.func51, Try.ntmps51
 go_wp2
 repeat (go_quiet (fail); try go_wp2)
 go_loopg [] k (fun kq w' => ∃ (x1002_1 : Int), Aside0 (expr_parser_peek.l0 kq s0_0 s0_1 x1002_1 = some (r1, r2, r3, r4)) ∧ Aside0 (kq ≤ k) ∧ Aside0 (IsS50 w0 w' g s0_0 s0_1 x1002_1) ∧ Aside0 (KeepBut w w' g none) ∧ Aside0 (Below w0.heap.size w0 w'))
 case atStart => exact ⟨(s0_2), H', ⟨Nat.le_refl _⟩, ⟨by repeat (first | (with_reducible first | exact HI0.out | apply IsS50.alloc | apply IsS50.drewN | apply IsS50.drew | apply IsS50.set_0 | apply IsS50.set_1 | apply IsS50.set_2) | exact HI0.out)⟩, ⟨kK⟩, ⟨by repeat (first | (with_reducible first | exact HB.out | apply below_alloc | apply pw_below_drewN | apply below_drew1 | refine below_set ?_ (IsS50.ge HI0.out)) | exact HB.out)⟩⟩
 case round =>
  clear H'
  obtain ⟨x1002_1, HA, HK1, HI0, HK, HB⟩ := hrel
  cases gk with
  | zero => exact absurd HA.out (by simp [expr_parser_peek.l0])
  | succ k1 =>
   have H := HA.out
   clear HA
   simp only [expr_parser_peek.l0] at H
   by_cases c2 : x1002_1 < (s0_0.size : Int)
   ·rw [if_pos c2] at H
    have c2b0 : decide (x1002_1 < (s0_0.size : Int)) = true := decide_eq_true c2
    clear c2
    by_cases c3 : 0 ≤ x1002_1
    ·rw [if_pos c3] at H
     have c3b0 : decide (0 ≤ x1002_1) = true := decide_eq_true c3
     clear c3
     by_cases c5 : (bt s0_0 x1002_1) = 32
     ·rw [if_pos c5] at H
      have c5b0 : ((bt s0_0 x1002_1) == 32) = true := beq_iff_eq.mpr c5
      have c5b1 : ((bt s0_0 x1002_1) != 32) = false := bne_eq_false_iff_eq.mpr c5
      clear c5
      have H' := Aside0.mk H
      clear H
      obtain ⟨HGz6, hgz6⟩ := HI0.out
      have hcz6_0 := cellS50_0 HGz6
      have hcz6_1 := cellS50_1 HGz6
      have hcz6_2 := cellS50_2 HGz6
      have hfz6_0 := blk_frozen HGz6 0
      have hfz6_1 := blk_frozen HGz6 1
      have hfz6_2 := blk_frozen HGz6 2
      clear HGz6 hgz6
      have p4 : 0 ≤ (x1002_1 : Int) := of_decide_eq_true (by first | (with_reducible assumption) | assumption)
      have q4 : x1002_1 < (s0_0.size : Int) := of_decide_eq_true (by first | (with_reducible assumption) | assumption)
      have hx4 := bt_at s0_0 x1002_1
      replace p4 := eq_true p4
      replace q4 := eq_true q4
      go_wp2
      repeat (go_quiet (fail); try go_wp2)
      (first | go_roundg k1 | ((simp only [add_plain] at *); go_roundg k1))
      case measure => have := HK1.out; omega
      case rel => exact ⟨(wrap64 (x1002_1 + 1)), H', ⟨by have := HK1.out; omega⟩, ⟨by repeat (first | (with_reducible first | exact HI0.out | apply IsS50.alloc | apply IsS50.drewN | apply IsS50.drew | apply IsS50.set_0 | apply IsS50.set_1 | apply IsS50.set_2) | exact HI0.out)⟩, ⟨kK⟩, ⟨by repeat (first | (with_reducible first | exact HB.out | apply below_alloc | apply pw_below_drewN | apply below_drew1 | refine below_set ?_ (IsS50.ge HI0.out)) | exact HB.out)⟩⟩
     ·rw [if_neg c5] at H
      have c5b0 : ((bt s0_0 x1002_1) == 32) = false := beq_eq_false_iff_ne.mpr c5
      have c5b1 : ((bt s0_0 x1002_1) != 32) = true := bne_iff_ne.mpr c5
      by_cases c7 : x1002_1 ≥ (s0_0.size : Int)
      ·rw [if_pos c7] at H
       have c7b0 : decide ((s0_0.size : Int) ≤ x1002_1) = true := decide_eq_true c7
       clear c7
       simp only [Option.some.injEq, Prod.mk.injEq] at H
       obtain ⟨rfl, rfl, rfl, rfl⟩ := H
       obtain ⟨HGz8, hgz8⟩ := HI0.out
       have hcz8_0 := cellS50_0 HGz8
       have hcz8_1 := cellS50_1 HGz8
       have hcz8_2 := cellS50_2 HGz8
       have hfz8_0 := blk_frozen HGz8 0
       have hfz8_1 := blk_frozen HGz8 1
       have hfz8_2 := blk_frozen HGz8 2
       clear HGz8 hgz8
       have p4 : 0 ≤ (x1002_1 : Int) := of_decide_eq_true (by first | (with_reducible assumption) | assumption)
       have q4 : x1002_1 < (s0_0.size : Int) := of_decide_eq_true (by first | (with_reducible assumption) | assumption)
       have hx4 := bt_at s0_0 x1002_1
       replace p4 := eq_true p4
       replace q4 := eq_true q4
       go_wp2
       repeat (go_quiet (fail); try go_wp2)
       go_ret
       exact ⟨by first | rfl | (simp [errW_none, errW_some] <;> rfl) | (simp [*, errW_none, errW_some] <;> rfl), by repeat (first | (with_reducible first | exact HI0.out | apply IsS50.alloc | apply IsS50.drewN | apply IsS50.drew | apply IsS50.set_0 | apply IsS50.set_1 | apply IsS50.set_2) | exact HI0.out), by repeat (first | (with_reducible first | exact HB.out | apply below_alloc | apply pw_below_drewN | apply below_drew1 | refine below_set ?_ (IsS50.ge HI0.out)) | exact HB.out), kK⟩
      ·rw [if_neg c7] at H
       have c7b0 : decide ((s0_0.size : Int) ≤ x1002_1) = false := decide_eq_false c7
       clear c7
       simp only [Option.some.injEq, Prod.mk.injEq] at H
       obtain ⟨rfl, rfl, rfl, rfl⟩ := H
       obtain ⟨HGz10, hgz10⟩ := HI0.out
       have hcz10_0 := cellS50_0 HGz10
       have hcz10_1 := cellS50_1 HGz10
       have hcz10_2 := cellS50_2 HGz10
       have hfz10_0 := blk_frozen HGz10 0
       have hfz10_1 := blk_frozen HGz10 1
       have hfz10_2 := blk_frozen HGz10 2
       clear HGz10 hgz10
       have p4 : 0 ≤ (x1002_1 : Int) := of_decide_eq_true (by first | (with_reducible assumption) | assumption)
       have q4 : x1002_1 < (s0_0.size : Int) := of_decide_eq_true (by first | (with_reducible assumption) | assumption)
       have hx4 := bt_at s0_0 x1002_1
       replace p4 := eq_true p4
       replace q4 := eq_true q4
       have p9 : 0 ≤ (x1002_1 : Int) := of_decide_eq_true (by first | (with_reducible assumption) | assumption)
       have q9 : x1002_1 < (s0_0.size : Int) := of_decide_eq_true (by first | (with_reducible assumption) | assumption)
       have hx9 := bt_at s0_0 x1002_1
       replace p9 := eq_true p9
       replace q9 := eq_true q9
       go_wp2
       repeat (go_quiet (fail); try go_wp2)
       go_ret
       exact ⟨by first | rfl | (simp [errW_none, errW_some] <;> rfl) | (simp [*, errW_none, errW_some] <;> rfl), by repeat (first | (with_reducible first | exact HI0.out | apply IsS50.alloc | apply IsS50.drewN | apply IsS50.drew | apply IsS50.set_0 | apply IsS50.set_1 | apply IsS50.set_2) | exact HI0.out), by repeat (first | (with_reducible first | exact HB.out | apply below_alloc | apply pw_below_drewN | apply below_drew1 | refine below_set ?_ (IsS50.ge HI0.out)) | exact HB.out), kK⟩
    ·rw [if_neg c3] at H
     exact absurd H (by simp)
   ·rw [if_neg c2] at H
    have c2b0 : decide (x1002_1 < (s0_0.size : Int)) = false := decide_eq_false c2
    clear c2
    by_cases c11 : x1002_1 ≥ (s0_0.size : Int)
    ·rw [if_pos c11] at H
     have c11b0 : decide ((s0_0.size : Int) ≤ x1002_1) = true := decide_eq_true c11
     clear c11
     simp only [Option.some.injEq, Prod.mk.injEq] at H
     obtain ⟨rfl, rfl, rfl, rfl⟩ := H
     obtain ⟨HGz12, hgz12⟩ := HI0.out
     have hcz12_0 := cellS50_0 HGz12
     have hcz12_1 := cellS50_1 HGz12
     have hcz12_2 := cellS50_2 HGz12
     have hfz12_0 := blk_frozen HGz12 0
     have hfz12_1 := blk_frozen HGz12 1
     have hfz12_2 := blk_frozen HGz12 2
     clear HGz12 hgz12
     go_wp2
     repeat (go_quiet (fail); try go_wp2)
     go_ret
     exact ⟨by first | rfl | (simp [errW_none, errW_some] <;> rfl) | (simp [*, errW_none, errW_some] <;> rfl), by repeat (first | (with_reducible first | exact HI0.out | apply IsS50.alloc | apply IsS50.drewN | apply IsS50.drew | apply IsS50.set_0 | apply IsS50.set_1 | apply IsS50.set_2) | exact HI0.out), by repeat (first | (with_reducible first | exact HB.out | apply below_alloc | apply pw_below_drewN | apply below_drew1 | refine below_set ?_ (IsS50.ge HI0.out)) | exact HB.out), kK⟩
    ·rw [if_neg c11] at H
     have c11b0 : decide ((s0_0.size : Int) ≤ x1002_1) = false := decide_eq_false c11
     clear c11
     by_cases c13 : 0 ≤ x1002_1
     ·rw [if_pos c13] at H
      exact absurd H (by simp)
     ·rw [if_neg c13] at H
      exact absurd H (by simp)
end Go.Proofs.Ytjofkebiacaciaa.PAll
end
section
namespace Go.Proofs.Ytjofkebiacaciaa.PAll
open Go.RowKit Go.Proofs.YtjofkebiacaciaaW.PrintWords Go.Proofs.YtjofkebiacaciaaW.PrintLast Go.Proofs.YtjofkebiacaciaaW.PrintMore
attribute [local go_sem] max2_int min2_int max_two min_two max_three min_three max_four min_four
set_option linter.unusedVariables false
set_option linter.unusedSimpArgs false
def expr_parser_letter.f (k : Nat) (s0_0 : ByteArray) (s0_1 : Int) (s0_2 : Int) : Option (Bool × ByteArray × Int × Int) := (expr_parser_peek.f k s0_0 s0_1 s0_2).bind fun bt204 => (if bt204.1 ≥ 97 then (some (decide (((bt204.1 - 97) % 256) < bt204.2.2.1), bt204.2.1, bt204.2.2.1, bt204.2.2.2)) else (some (false, bt204.2.1, bt204.2.2.1, bt204.2.2.2)))
theorem expr_parser_letter.mono : ∀ a0 a1 a2 k, LeO (expr_parser_letter.f k a0 a1 a2) (expr_parser_letter.f (k + 1) a0 a1 a2) := by
 intro a0 a1 a2 k
 unfold expr_parser_letter.f
 repeat' first
   | (with_reducible exact expr_parser_peek.mono _ _ _ _)
   | (with_reducible exact LeO.refl _)
   | (with_reducible exact LeO.none _)
   | (with_reducible refine LeO.ite ?_ ?_)
   | (with_reducible refine LeO.bind ?_ (fun _ => ?_))
   | exact expr_parser_peek.mono _ _ _ _
   | exact LeO.none _
   | refine LeO.ite ?_ ?_
   | refine LeO.bind ?_ (fun _ => ?_)
set_option maxHeartbeats 8000000 in
set_option maxRecDepth 100000 in
theorem expr_parser_letter.calls (k : Nat) (g : Nat) (s0_0 : ByteArray) (s0_1 : Int) (s0_2 : Int) (r1 : Bool) (r2 : ByteArray) (r3 : Int) (r4 : Int) (w0 w : World) (hI : IsS50 w0 w g s0_0 s0_1 s0_2) (hB : Below w0.heap.size w0 w) (h : expr_parser_letter.f k s0_0 s0_1 s0_2 = some (r1, r2, r3, r4)) :
  Calls Try.prog 97 #[.pointer (some ⟨g, 0, none⟩)] w fun e w' => e = .returned (.bool r1) ∧ IsS50 w0 w' g r2 r3 r4 ∧ Below w0.heap.size w0 w' ∧ KeepBut w w' g none := by
 have HI0 := Aside0.mk hI
 have HK := Aside0.mk (KeepBut.refl w g none)
 have HL := Aside0.mk hB.size
 clear hI
 have HW0 := Aside0.mk hB.size
 have HB := Aside0.mk hB
 clear hB
 have H : ((expr_parser_peek.f k s0_0 s0_1 s0_2).bind fun bt204 => (if bt204.1 ≥ 97 then (some (decide (((bt204.1 - 97) % 256) < bt204.2.2.1), bt204.2.1, bt204.2.2.1, bt204.2.2.2)) else (some (false, bt204.2.1, bt204.2.2.1, bt204.2.2.2)))) = some (r1, r2, r3, r4) := h
 clear h
 replace H := Option.bind_eq_some_iff.mp H
 obtain ⟨⟨t204, t205, t206, t207⟩, A20, H⟩ := H
 replace H : (if t204 ≥ 97 then (some (decide (((t204 - 97) % 256) < t206), t205, t206, t207)) else (some (false, t205, t206, t207))) = some (r1, r2, r3, r4) := H
 have A2 := Aside0.mk A20
 clear A20
 by_cases c3 : t204 ≥ 97
 ·rw [if_pos c3] at H
  have c3b0 : decide (97 ≤ t204) = true := decide_eq_true c3
  clear c3
  simp only [Option.some.injEq, Prod.mk.injEq] at H
  obtain ⟨rfl, rfl, rfl, rfl⟩ := H
  go_enter Try.func97, Try.ntmps97
  go_wp2_with (first | ((with_reducible refine gate_callee (f := 51) rfl ?_); refine goesL_ (some 5) rfl rfl Try.func51 (by kernel_rfl) rfl #[.pointer (some ⟨g, 0, none⟩)] rfl (by (try simp only [List.map_toArray, List.map_cons, List.map_nil]); first | done | rfl | (simp only [List.length_drop, List.length_take]; rfl) | (simp only [Int.ofNat_lt, Int.ofNat_le]; rfl)) ?_; (with_reducible refine (expr_parser_peek.calls k g s0_0 s0_1 s0_2 t204 t205 t206 t207 w0 _ ?side1 ?side2 A2.out).mono ?_); (case side1 => repeat (first | (with_reducible first | exact HI0.out | apply IsS50.alloc | apply IsS50.drewN | apply IsS50.drew | apply IsS50.set_0 | apply IsS50.set_1 | apply IsS50.set_2) | exact HI0.out)); (case side2 => repeat (first | (with_reducible first | exact HB.out | apply below_alloc | apply pw_below_drewN | apply below_drew1 | refine below_set ?_ (IsS50.ge HI0.out)) | exact HB.out)); rintro e w4 ⟨rfl, hi, hb, hk⟩; refine ⟨_, rfl, ?_⟩; have n0_ := Aside0.mk (KeepBut.trans (kK) hk (.inl rfl)); have n1_ := Aside0.mk (hb); have n2_ := Aside0.mk (hi); clear HK; clear HB; clear HI0; have HK := n0_; have HB := n1_; have HI0 := n2_; clear n0_ n1_ n2_; (try clear hb); (try clear hb2); (try clear hk); (try clear hi); obtain ⟨HGz5, hgz5⟩ := HI0.out; have hcz5_0 := cellS50_0 HGz5; have hcz5_1 := cellS50_1 HGz5; have hcz5_2 := cellS50_2 HGz5; have hfz5_0 := blk_frozen HGz5 0; have hfz5_1 := blk_frozen HGz5 1; have hfz5_2 := blk_frozen HGz5 2; clear HGz5 hgz5))
  go_ret
  exact ⟨by first | rfl | (simp [errW_none, errW_some] <;> rfl) | (simp [*, errW_none, errW_some] <;> rfl), by repeat (first | (with_reducible first | exact HI0.out | apply IsS50.alloc | apply IsS50.drewN | apply IsS50.drew | apply IsS50.set_0 | apply IsS50.set_1 | apply IsS50.set_2) | exact HI0.out), by repeat (first | (with_reducible first | exact HB.out | apply below_alloc | apply pw_below_drewN | apply below_drew1 | refine below_set ?_ (IsS50.ge HI0.out)) | exact HB.out), kK⟩
 ·rw [if_neg c3] at H
  have c3b0 : decide (97 ≤ t204) = false := decide_eq_false c3
  clear c3
  simp only [Option.some.injEq, Prod.mk.injEq] at H
  obtain ⟨rfl, rfl, rfl, rfl⟩ := H
  go_enter Try.func97, Try.ntmps97
  go_wp2_with (first | ((with_reducible refine gate_callee (f := 51) rfl ?_); refine goesL_ (some 5) rfl rfl Try.func51 (by kernel_rfl) rfl #[.pointer (some ⟨g, 0, none⟩)] rfl (by (try simp only [List.map_toArray, List.map_cons, List.map_nil]); first | done | rfl | (simp only [List.length_drop, List.length_take]; rfl) | (simp only [Int.ofNat_lt, Int.ofNat_le]; rfl)) ?_; (with_reducible refine (expr_parser_peek.calls k g s0_0 s0_1 s0_2 t204 t205 t206 t207 w0 _ ?side1 ?side2 A2.out).mono ?_); (case side1 => repeat (first | (with_reducible first | exact HI0.out | apply IsS50.alloc | apply IsS50.drewN | apply IsS50.drew | apply IsS50.set_0 | apply IsS50.set_1 | apply IsS50.set_2) | exact HI0.out)); (case side2 => repeat (first | (with_reducible first | exact HB.out | apply below_alloc | apply pw_below_drewN | apply below_drew1 | refine below_set ?_ (IsS50.ge HI0.out)) | exact HB.out)); rintro e w6 ⟨rfl, hi, hb, hk⟩; refine ⟨_, rfl, ?_⟩; have n0_ := Aside0.mk (KeepBut.trans (kK) hk (.inl rfl)); have n1_ := Aside0.mk (hb); have n2_ := Aside0.mk (hi); clear HK; clear HB; clear HI0; have HK := n0_; have HB := n1_; have HI0 := n2_; clear n0_ n1_ n2_; (try clear hb); (try clear hb2); (try clear hk); (try clear hi)))
  go_ret
  exact ⟨by first | rfl | (simp [errW_none, errW_some] <;> rfl) | (simp [*, errW_none, errW_some] <;> rfl), by repeat (first | (with_reducible first | exact HI0.out | apply IsS50.alloc | apply IsS50.drewN | apply IsS50.drew | apply IsS50.set_0 | apply IsS50.set_1 | apply IsS50.set_2) | exact HI0.out), by repeat (first | (with_reducible first | exact HB.out | apply below_alloc | apply pw_below_drewN | apply below_drew1 | refine below_set ?_ (IsS50.ge HI0.out)) | exact HB.out), kK⟩
end Go.Proofs.Ytjofkebiacaciaa.PAll
end
section
namespace Go.Proofs.Ytjofkebiacaciaa.PAll
open Go.RowKit Go.Proofs.YtjofkebiacaciaaW.PrintWords Go.Proofs.YtjofkebiacaciaaW.PrintLast Go.Proofs.YtjofkebiacaciaaW.PrintMore
attribute [local go_sem] max2_int min2_int max_two min_two max_three min_three max_four min_four
set_option linter.unusedVariables false
set_option linter.unusedSimpArgs false
def expr_several.f (a0 : Int) (l1 : List (S24)) : Option (Int × Int × (List (S24))) := if (l1.length : Int) = 1 then (if 0 < (l1.length : Int) then (some ((rd_T24 l1 0).f0, (rd_T24 l1 0).f1, (rd_T24 l1 0).f2)) else (none)) else (some (a0, 0, l1))
set_option maxHeartbeats 8000000 in
set_option maxRecDepth 100000 in
theorem expr_several.calls (a0 : Int) (P1_ : Nat → Prop) (A1 : Option Addr) (c1 : Nat) (l1 : List (S24)) (r1 : Int) (r2 : Int) (r3 : List (S24)) (w : World) (hs1 : Kd.V k24 24 w w.heap.size (fun k_ => P1_ k_) (.slice A1 l1.length c1) l1) (h : expr_several.f a0 l1 = some (r1, r2, r3)) :
  Calls Try.prog 84 #[.int .i64 a0, .slice A1 l1.length c1] w fun e w' => ∃ v2_ : Value, e = .returned (.agg #[.int .i64 r1, .int .i64 r2, v2_]) ∧ Kd.V k24 24 w' w.heap.size (fun k_ => (P1_ k_ ∨ w.heap.size ≤ k_)) v2_ r3 ∧ Below w.heap.size w w' := by
 have hu24 := Try.underlying24
 have HO1 := Aside0.mk (show Kd.V k24 24 w w.heap.size (fun k_ => (P1_ k_ ∨ w.heap.size ≤ k_)) (.slice A1 l1.length c1) l1 from Kd.V_mono hs1 (fun k_ hk => .inl hk))
 have HB := Aside0.mk (Below.refl w.heap.size w)
 have H : (if (l1.length : Int) = 1 then (if 0 < (l1.length : Int) then (some ((rd_T24 l1 0).f0, (rd_T24 l1 0).f1, (rd_T24 l1 0).f2)) else (none)) else (some (a0, 0, l1))) = some (r1, r2, r3) := h
 clear h
 by_cases c3 : (l1.length : Int) = 1
 ·rw [if_pos c3] at H
  have c3b0 : ((l1.length : Int) == 1) = true := beq_iff_eq.mpr c3
  have c3b1 : ((l1.length : Int) != 1) = false := bne_eq_false_iff_eq.mpr c3
  clear c3
  by_cases c4 : 0 < (l1.length : Int)
  ·rw [if_pos c4] at H
   have c4b0 : decide (0 < (l1.length : Int)) = true := decide_eq_true c4
   have c4b1 : decide (0 < l1.length) = true := decide_eq_true (by omega)
   clear c4
   simp only [Option.some.injEq, Prod.mk.injEq] at H
   obtain ⟨rfl, rfl, rfl⟩ := H
   go_enter Try.func84, Try.ntmps84
   go_wp2_with (first | ((with_reducible refine gate_dst (N := 4) rfl ?_); refine box_event ?hg (N := 4) ?hd (cs := #[.int .i64 0, .int .i64 0, .slice none 0 0]) (t := 24) ?hr ?_; (case hd => rfl); (case hg => rfl); (case hr => first | (go_simp; done) | (go_simp; rfl)); intro gb200 hg w5 hbox hb; have n0_ := Aside0.mk (Kd.V_below (Kd.V_elderB (by (with_reducible repeat (first | apply Kd.V_alloc | apply Kd.V_drewN | apply Kd.V_drew)); exact HO1.out) gb200 (Nat.le_of_eq hg.symm)) hb); have n1_ := Aside0.mk (below_step (bB) hb); have n2_ := Aside0.mk (hbox); have n3_ := Aside0.mk ((by rw [hg]; exact (below_size (bB)) : w.heap.size ≤ gb200)); have n4_ := Aside0.mk ((by rw [hg]; exact (below_size (bB)) : w.heap.size ≤ gb200)); clear HO1; clear HB; have HO1 := n0_; have HB := n1_; have BK200 := n2_; have GW200 := n3_; have GE200 := n4_; clear n0_ n1_ n2_ n3_ n4_; clear hb hbox hg; have p201 : 0 ≤ (0 : Int) := (by omega); have q201 : 0 < (l1.length : Int) := of_decide_eq_true (by first | (with_reducible assumption) | assumption); obtain ⟨ad201, A201_2, c201_2, e201, hx201_0, hx201_1, hx201_2, hl201_2, hi201_2⟩ := at_T24 (Kd.V_reads' HO1.out).2.2 0 p201 q201; cases e201; obtain ⟨ce201, hce201, hMe201, hcc201⟩ := Kd.V_get HO1.out z24 0 p201 (by first | exact q201 | exact of_decide_eq_true (by first | (with_reducible assumption) | assumption) | (have e_ := (Kd.V_reads' HO1.out).1; omega)); obtain ⟨ua201_2, uc201_2, rfl, ul201_2, ge201_2⟩ := k24_openF hMe201; have hv201_2 := hcc201 2 _ rfl; rw [add_field _ _ 2 (by omega)] at hv201_2; replace hv201_2 := Option.some.inj (hv201_2.symm.trans hx201_2); injection hv201_2 with hva_ hvn_ hvc_; rw [hva_] at ge201_2; rw [hvc_] at ul201_2; have HL201_2 := Aside0.mk (show Kd.V k24 24 _ w.heap.size _ _ ((rd_T24 l1 0).f2) from Kd.V_mk ul201_2 ge201_2); clear hva_ hvn_ hvc_ ge201_2 ul201_2; clear hcc201 hce201; have qi201 : (0 < l1.length) = True := eq_true (by omega); (try rw [show ((0 : Int)).toNat = 0 from rfl] at hx201_0); (try rw [show 0 * 3 = 0 from rfl] at hx201_0); (try rw [Addr.add_zero'] at hx201_0); (try rw [show ((0 : Int)).toNat = 0 from rfl] at hx201_1); (try rw [show 0 * 3 = 0 from rfl] at hx201_1); (try rw [Addr.add_zero'] at hx201_1); (try rw [show ((0 : Int)).toNat = 0 from rfl] at hx201_2); (try rw [show 0 * 3 = 0 from rfl] at hx201_2); (try rw [Addr.add_zero'] at hx201_2); have HR201_2 := Aside0.mk hi201_2; have HC201_2 := Aside0.mk hl201_2; clear hi201_2 hl201_2; replace p201 := eq_true p201; replace q201 := eq_true q201; have hcz6_0 : w5.cell? ⟨gb200, 0, none⟩ = some (.int .i64 0) := (blk_cell BK200.out 0).trans rfl; have hcz6_1 : w5.cell? ⟨gb200, 1, none⟩ = some (.int .i64 0) := (blk_cell BK200.out 1).trans rfl; have hcz6_2 : w5.cell? ⟨gb200, 2, none⟩ = some (.slice none 0 0) := (blk_cell BK200.out 2).trans rfl; have hfz6_0 := blk_frozen BK200.out 0; have hfz6_1 := blk_frozen BK200.out 1; have hfz6_2 := blk_frozen BK200.out 2))
   refine bodyPost_ret (results_cell_row rfl _ _ gb200 24 #[.int .i64 ((rd_T24 l1 0).f0), .int .i64 ((rd_T24 l1 0).f1), .slice A201_2 ((rd_T24 l1 0).f2).length c201_2] (0, 0) _ rfl (by (with_reducible repeat (first | refine blk_drewN ?_ _ | refine blk_drew ?_ | refine blk_alloc ?_ _)); refine blk_put (cs := #[.int .i64 ((rd_T24 l1 0).f0), .int .i64 ((rd_T24 l1 0).f1), .slice none 0 0]) ?_ 2 _ rfl; (with_reducible repeat (first | refine blk_drewN ?_ _ | refine blk_drew ?_ | refine blk_alloc ?_ _)); refine blk_put (cs := #[.int .i64 ((rd_T24 l1 0).f0), .int .i64 0, .slice none 0 0]) ?_ 1 _ rfl; (with_reducible repeat (first | refine blk_drewN ?_ _ | refine blk_drew ?_ | refine blk_alloc ?_ _)); refine blk_put (cs := #[.int .i64 0, .int .i64 0, .slice none 0 0]) ?_ 0 _ rfl; (with_reducible repeat (first | refine blk_drewN ?_ _ | refine blk_drew ?_ | refine blk_alloc ?_ _)); exact BK200.out) Try.underlying24 rfl (by kernel_rfl)) rfl ?_
   exact ⟨_, by first | rfl | (simp [errW_none, errW_some] <;> rfl) | (simp [*, errW_none, errW_some] <;> rfl), by (with_reducible repeat (first | apply Kd.V_alloc | apply Kd.V_drewN | apply Kd.V_drew)); exact Kd.V_mono (Kd.V_far (p := ⟨gb200, 2, none⟩) (Kd.V_far (p := ⟨gb200, 1, none⟩) (Kd.V_far (p := ⟨gb200, 0, none⟩) (Kd.V_mono HL201_2.out (fun k_ hk => (⟨hk, hk.2⟩ : _ ∧ k_ ≠ gb200))) (fun _ hk => hk.2) (.int .i64 ((rd_T24 l1 0).f0))) (fun _ hk => hk.2) (.int .i64 ((rd_T24 l1 0).f1))) (fun _ hk => hk.2) (.slice A201_2 ((rd_T24 l1 0).f2).length c201_2)) (fun _ hk => hk.1.1), bB⟩
  ·rw [if_neg c4] at H
   exact absurd H (by simp)
 ·rw [if_neg c3] at H
  have c3b0 : ((l1.length : Int) == 1) = false := beq_eq_false_iff_ne.mpr c3
  have c3b1 : ((l1.length : Int) != 1) = true := bne_iff_ne.mpr c3
  simp only [Option.some.injEq, Prod.mk.injEq] at H
  obtain ⟨rfl, rfl, rfl⟩ := H
  go_enter Try.func84, Try.ntmps84
  go_wp2_with (first | ((with_reducible refine gate_dst (N := 4) rfl ?_); refine box_event ?hg (N := 4) ?hd (cs := #[.int .i64 0, .int .i64 0, .slice none 0 0]) (t := 24) ?hr ?_; (case hd => rfl); (case hg => rfl); (case hr => first | (go_simp; done) | (go_simp; rfl)); intro gb200 hg w7 hbox hb; have n0_ := Aside0.mk (Kd.V_below (Kd.V_elderB (by (with_reducible repeat (first | apply Kd.V_alloc | apply Kd.V_drewN | apply Kd.V_drew)); exact HO1.out) gb200 (Nat.le_of_eq hg.symm)) hb); have n1_ := Aside0.mk (below_step (bB) hb); have n2_ := Aside0.mk (hbox); have n3_ := Aside0.mk ((by rw [hg]; exact (below_size (bB)) : w.heap.size ≤ gb200)); have n4_ := Aside0.mk ((by rw [hg]; exact (below_size (bB)) : w.heap.size ≤ gb200)); clear HO1; clear HB; have HO1 := n0_; have HB := n1_; have BK200 := n2_; have GW200 := n3_; have GE200 := n4_; clear n0_ n1_ n2_ n3_ n4_; clear hb hbox hg; have hcz8_0 : w7.cell? ⟨gb200, 0, none⟩ = some (.int .i64 0) := (blk_cell BK200.out 0).trans rfl; have hcz8_1 : w7.cell? ⟨gb200, 1, none⟩ = some (.int .i64 0) := (blk_cell BK200.out 1).trans rfl; have hcz8_2 : w7.cell? ⟨gb200, 2, none⟩ = some (.slice none 0 0) := (blk_cell BK200.out 2).trans rfl; have hfz8_0 := blk_frozen BK200.out 0; have hfz8_1 := blk_frozen BK200.out 1; have hfz8_2 := blk_frozen BK200.out 2))
  refine bodyPost_ret (results_cell_row rfl _ _ gb200 24 #[.int .i64 a0, .int .i64 0, .slice A1 l1.length c1] (0, 0) _ rfl (by (with_reducible repeat (first | refine blk_drewN ?_ _ | refine blk_drew ?_ | refine blk_alloc ?_ _)); refine blk_put (cs := #[.int .i64 a0, .int .i64 0, .slice none 0 0]) ?_ 2 _ rfl; (with_reducible repeat (first | refine blk_drewN ?_ _ | refine blk_drew ?_ | refine blk_alloc ?_ _)); refine blk_put (cs := #[.int .i64 a0, .int .i64 0, .slice none 0 0]) ?_ 1 _ rfl; (with_reducible repeat (first | refine blk_drewN ?_ _ | refine blk_drew ?_ | refine blk_alloc ?_ _)); refine blk_put (cs := #[.int .i64 0, .int .i64 0, .slice none 0 0]) ?_ 0 _ rfl; (with_reducible repeat (first | refine blk_drewN ?_ _ | refine blk_drew ?_ | refine blk_alloc ?_ _)); exact BK200.out) Try.underlying24 rfl (by kernel_rfl)) rfl ?_
  exact ⟨_, by first | rfl | (simp [errW_none, errW_some] <;> rfl) | (simp [*, errW_none, errW_some] <;> rfl), by (with_reducible repeat (first | apply Kd.V_alloc | apply Kd.V_drewN | apply Kd.V_drew)); exact Kd.V_mono (Kd.V_far (p := ⟨gb200, 2, none⟩) (Kd.V_far (p := ⟨gb200, 1, none⟩) (Kd.V_far (p := ⟨gb200, 0, none⟩) (Kd.V_mono HO1.out (fun k_ hk => (⟨hk, hk.2⟩ : _ ∧ k_ ≠ gb200))) (fun _ hk => hk.2) (.int .i64 a0)) (fun _ hk => hk.2) (.int .i64 0)) (fun _ hk => hk.2) (.slice A1 l1.length c1)) (fun _ hk => hk.1.1), bB⟩
end Go.Proofs.Ytjofkebiacaciaa.PAll
end
section
namespace Go.Proofs.Ytjofkebiacaciaa.PAll
open Go.RowKit Go.Proofs.YtjofkebiacaciaaW.PrintWords Go.Proofs.YtjofkebiacaciaaW.PrintLast Go.Proofs.YtjofkebiacaciaaW.PrintMore
set_option linter.all false
theorem is50_0 {w0 W : World} {g : Nat} {f0 : ByteArray} {f1 f2 : Int} (h : IsS50 w0 W g f0 f1 f2) : W.cell? ⟨g, 0, none⟩ = some (.string f0) := by simp [World.cell?, h.1]
theorem is50_2 {w0 W : World} {g : Nat} {f0 : ByteArray} {f1 f2 : Int} (h : IsS50 w0 W g f0 f1 f2) : W.cell? ⟨g, 2, none⟩ = some (.int .i64 f2) := by simp [World.cell?, h.1]
theorem is50_f {w0 W : World} {g : Nat} {f0 : ByteArray} {f1 f2 : Int} (h : IsS50 w0 W g f0 f1 f2) (j : Nat) : W.frozen? ⟨g, j, none⟩ = false := by simp [World.frozen?, h.1]
def expr_parser_is.f (k : Nat) (s0 : ByteArray) (s1 s2 c : Int) : Option (Bool × ByteArray × Int × Int) :=
 (expr_parser_peek.f k s0 s1 s2).bind fun t => if t.1 = c then some (decide (t.2.2.2 < (t.2.1.size : Int)), t.2) else some (false, t.2)
set_option maxHeartbeats 4000000 in
set_option maxRecDepth 100000 in
theorem expr_parser_is.calls (k : Nat) (g : Nat) (s0_0 : ByteArray) (s0_1 : Int) (s0_2 : Int) (a1 : Int) (r1 : Bool) (r2 : ByteArray) (r3 : Int) (r4 : Int) (w0 w : World) (hI : IsS50 w0 w g s0_0 s0_1 s0_2) (hB : Below w0.heap.size w0 w) (h : expr_parser_is.f k s0_0 s0_1 s0_2 a1 = some (r1, r2, r3, r4)) :
  Calls Try.prog 83 #[.pointer (some ⟨g, 0, none⟩), .int .u8 a1] w fun e w' => e = .returned (.bool r1) ∧ IsS50 w0 w' g r2 r3 r4 ∧ Below w0.heap.size w0 w' ∧ KeepBut w w' g none := by
 unfold expr_parser_is.f at h
 obtain ⟨⟨t1, t2, t3, t4⟩, h1, h2⟩ := Option.bind_eq_some_iff.mp h
 have HI := Aside0.mk hI
 have HB := Aside0.mk hB
 have H1 := Aside0.mk h1
 clear h h1 hI hB
 by_cases c : t1 = a1
 ·simp only [c, if_true] at h2
  obtain ⟨rfl, rfl, rfl, rfl⟩ : decide (t4 < (t2.size : Int)) = r1 ∧ t2 = r2 ∧ t3 = r3 ∧ t4 = r4 := by simpa using h2
  clear h2
  subst c
  have hq : (t1 == t1) = true := beq_self_eq_true t1
  go_enter Try.func83, Try.ntmps83
  go_wp2
  first | go_region_with (go_at_call 51; (refine (expr_parser_peek.calls k g _ _ _ _ _ _ _ w0 _ ?hi ?hb H1.out).mono ?_); (case hi => first | exact IsS50.drew HI.out | exact HI.out | exact IsS50.drewN HI.out _); (case hb => first | exact below_drew HB.out | first | exact HB.out | exact pw_below_drewN HB.out _ | exact below_drew HB.out); rintro e w' ⟨rfl, hi, hb, hk⟩; have hc0 := is50_0 hi; have hc2 := is50_2 hi; have HI2 := Aside0.mk hi; have HB2 := Aside0.mk hb; have HK2 := Aside0.mk hk; clear hi hb hk) | fail "no"
  all_goals (refine (by assumption : ∀ (a : Act) (w : World), Code.wp Try.prog Code.ret _ a w → _) _ _ ?_; go_wp2; go_ret; exact ⟨by first | rfl | simp, HI2.out, HB2.out, HK2.out⟩)
 ·simp only [c, if_false] at h2
  obtain ⟨rfl, rfl, rfl, rfl⟩ : false = r1 ∧ t2 = r2 ∧ t3 = r3 ∧ t4 = r4 := by simpa using h2
  clear h2
  have hq : (t1 == a1) = false := by simpa using c
  go_enter Try.func83, Try.ntmps83
  go_wp2
  first | go_region_with (go_at_call 51; (refine (expr_parser_peek.calls k g _ _ _ _ _ _ _ w0 _ ?hi ?hb H1.out).mono ?_); (case hi => first | exact IsS50.drew HI.out | exact HI.out | exact IsS50.drewN HI.out _); (case hb => first | exact below_drew HB.out | first | exact HB.out | exact pw_below_drewN HB.out _ | exact below_drew HB.out); rintro e w' ⟨rfl, hi, hb, hk⟩; have hc0 := is50_0 hi; have hc2 := is50_2 hi; have HI2 := Aside0.mk hi; have HB2 := Aside0.mk hb; have HK2 := Aside0.mk hk; clear hi hb hk) | fail "no"
  all_goals (refine (by assumption : ∀ (a : Act) (w : World), Code.wp Try.prog Code.ret _ a w → _) _ _ ?_; go_wp2; go_ret; exact ⟨by first | rfl | simp, HI2.out, HB2.out, HK2.out⟩)
theorem expr_parser_is.mono : ∀ a0 a1 a2 a3 k, LeO (expr_parser_is.f k a0 a1 a2 a3) (expr_parser_is.f (k + 1) a0 a1 a2 a3) := by
 intro a0 a1 a2 a3 k
 unfold expr_parser_is.f
 exact LeO.bind (expr_parser_peek.mono _ _ _ _) (fun _ => LeO.refl _)
end Go.Proofs.Ytjofkebiacaciaa.PAll
end
section
namespace Go.Proofs.Ytjofkebiacaciaa.PAll
open Go.RowKit Go.Proofs.YtjofkebiacaciaaW.PrintWords Go.Proofs.YtjofkebiacaciaaW.PrintLast Go.Proofs.YtjofkebiacaciaaW.PrintMore
set_option linter.all false
class AtomC where
 f : Nat → ByteArray → Int → Int → Option (Int × Int × (List (S24)) × ByteArray × Int × Int)
 mono : ∀ a0 a1 a2 k, LeO (f k a0 a1 a2) (f (k + 1) a0 a1 a2)
 calls : ∀ (k : Nat) (g : Nat) (s0_0 : ByteArray) (s0_1 : Int) (s0_2 : Int) (r1 : Int) (r2 : Int) (r3 : List (S24)) (r4 : ByteArray) (r5 : Int) (r6 : Int) (w0 w : World) (hI : IsS50 w0 w g s0_0 s0_1 s0_2) (hB : Below w0.heap.size w0 w) (h : f k s0_0 s0_1 s0_2 = some (r1, r2, r3, r4, r5, r6)),
  Calls Try.prog 102 #[.pointer (some ⟨g, 0, none⟩)] w fun e w' => ∃ v2_ : Value, e = .returned (.agg #[.int .i64 r1, .int .i64 r2, v2_]) ∧ Kd.V k24 24 w' w.heap.size (fun k_ => (w.heap.size ≤ k_)) v2_ r3 ∧ IsS50 w0 w' g r4 r5 r6 ∧ Below w0.heap.size w0 w' ∧ KeepBut w w' g none
variable [AtomC]
def expr_parser_atom.f (k : Nat) (a0 : ByteArray) (a1 a2 : Int) : Option (Int × Int × (List (S24)) × ByteArray × Int × Int) := AtomC.f k a0 a1 a2
theorem expr_parser_atom.mono : ∀ a0 a1 a2 k, LeO (expr_parser_atom.f k a0 a1 a2) (expr_parser_atom.f (k + 1) a0 a1 a2) := AtomC.mono
theorem expr_parser_atom.calls (k : Nat) (g : Nat) (s0_0 : ByteArray) (s0_1 : Int) (s0_2 : Int) (r1 : Int) (r2 : Int) (r3 : List (S24)) (r4 : ByteArray) (r5 : Int) (r6 : Int) (w0 w : World) (hI : IsS50 w0 w g s0_0 s0_1 s0_2) (hB : Below w0.heap.size w0 w) (h : expr_parser_atom.f k s0_0 s0_1 s0_2 = some (r1, r2, r3, r4, r5, r6)) :
  Calls Try.prog 102 #[.pointer (some ⟨g, 0, none⟩)] w fun e w' => ∃ v2_ : Value, e = .returned (.agg #[.int .i64 r1, .int .i64 r2, v2_]) ∧ Kd.V k24 24 w' w.heap.size (fun k_ => (w.heap.size ≤ k_)) v2_ r3 ∧ IsS50 w0 w' g r4 r5 r6 ∧ Below w0.heap.size w0 w' ∧ KeepBut w w' g none := AtomC.calls k g _ _ _ _ _ _ _ _ _ w0 w hI hB h
end Go.Proofs.Ytjofkebiacaciaa.PAll
end
section
namespace Go.Proofs.Ytjofkebiacaciaa.PAll
open Go.RowKit Go.Proofs.YtjofkebiacaciaaW.PrintWords Go.Proofs.YtjofkebiacaciaaW.PrintLast Go.Proofs.YtjofkebiacaciaaW.PrintMore
attribute [local go_sem] max2_int min2_int max_two min_two max_three min_three max_four min_four
set_option linter.unusedVariables false
set_option linter.unusedSimpArgs false
set_option linter.all false
variable [AtomC]
def expr_parser_postfix.l0 : Nat → ByteArray → Int → Int → Int → Int → List (S24) → Option (Int × Int × (List (S24)) × ByteArray × Int × Int)
 | 0, _, _, _, _, _, _ => none
 | k + 1, x1000, x1001, x1002, x218000, x218001, x218002 => (expr_parser_is.f k x1000 x1001 x1002 42).bind fun bt218 => (if bt218.1 = true then (expr_parser_postfix.l0 k bt218.2.1 bt218.2.2.1 (wrap64 (bt218.2.2.2 + 1)) 7 0 (([(⟨x218000, x218001, x218002⟩ : S24)] : List (S24)))) else (some (x218000, x218001, x218002, bt218.2.1, bt218.2.2.1, bt218.2.2.2)))
def expr_parser_postfix.f (k : Nat) (s0_0 : ByteArray) (s0_1 : Int) (s0_2 : Int) : Option (Int × Int × (List (S24)) × ByteArray × Int × Int) := (expr_parser_atom.f k s0_0 s0_1 s0_2).bind fun bt209 => (expr_parser_postfix.l0 k bt209.2.2.2.1 bt209.2.2.2.2.1 bt209.2.2.2.2.2 bt209.1 bt209.2.1 bt209.2.2.1)
theorem expr_parser_postfix.mono_l : ∀ k, (∀ y0 y1 y2 y3 y4 y5, LeO (expr_parser_postfix.l0 k y0 y1 y2 y3 y4 y5) (expr_parser_postfix.l0 (k + 1) y0 y1 y2 y3 y4 y5))
 | 0 => fun _ _ _ _ _ _ r h => by simp [expr_parser_postfix.l0] at h
 | k + 1 => by
  have ih0 := expr_parser_postfix.mono_l k
  ·intro y0 y1 y2 y3 y4 y5
   unfold expr_parser_postfix.l0
   repeat' first
   | (with_reducible exact ih0 _ _ _ _ _ _)
   | (with_reducible exact expr_parser_atom.mono _ _ _ _)
   | (with_reducible exact expr_parser_is.mono _ _ _ _ _)
   | (with_reducible exact LeO.refl _)
   | (with_reducible exact LeO.none _)
   | (with_reducible refine LeO.ite ?_ ?_)
   | (with_reducible refine LeO.bind ?_ (fun _ => ?_))
   | exact ih0 _ _ _ _ _ _
   | exact expr_parser_atom.mono _ _ _ _
   | exact expr_parser_is.mono _ _ _ _ _
   | exact LeO.none _
   | refine LeO.ite ?_ ?_
   | refine LeO.bind ?_ (fun _ => ?_)
theorem expr_parser_postfix.mono : ∀ a0 a1 a2 k, LeO (expr_parser_postfix.f k a0 a1 a2) (expr_parser_postfix.f (k + 1) a0 a1 a2) := by
 intro a0 a1 a2 k
 have ih0 := expr_parser_postfix.mono_l k
 unfold expr_parser_postfix.f
 repeat' first
   | (with_reducible exact ih0 _ _ _ _ _ _)
   | (with_reducible exact expr_parser_atom.mono _ _ _ _)
   | (with_reducible exact expr_parser_is.mono _ _ _ _ _)
   | (with_reducible exact LeO.refl _)
   | (with_reducible exact LeO.none _)
   | (with_reducible refine LeO.ite ?_ ?_)
   | (with_reducible refine LeO.bind ?_ (fun _ => ?_))
   | exact ih0 _ _ _ _ _ _
   | exact expr_parser_atom.mono _ _ _ _
   | exact expr_parser_is.mono _ _ _ _ _
   | exact LeO.none _
   | refine LeO.ite ?_ ?_
   | refine LeO.bind ?_ (fun _ => ?_)
set_option maxHeartbeats 8000000 in
set_option maxRecDepth 100000 in
theorem expr_parser_postfix.calls (k : Nat) (g : Nat) (s0_0 : ByteArray) (s0_1 : Int) (s0_2 : Int) (r1 : Int) (r2 : Int) (r3 : List (S24)) (r4 : ByteArray) (r5 : Int) (r6 : Int) (w0 w : World) (hI : IsS50 w0 w g s0_0 s0_1 s0_2) (hB : Below w0.heap.size w0 w) (h : expr_parser_postfix.f k s0_0 s0_1 s0_2 = some (r1, r2, r3, r4, r5, r6)) :
  Calls Try.prog 96 #[.pointer (some ⟨g, 0, none⟩)] w fun e w' => ∃ v2_ : Value, e = .returned (.agg #[.int .i64 r1, .int .i64 r2, v2_]) ∧ Kd.V k24 24 w' w.heap.size (fun k_ => (w.heap.size ≤ k_)) v2_ r3 ∧ IsS50 w0 w' g r4 r5 r6 ∧ Below w0.heap.size w0 w' ∧ KeepBut w w' g none := by
 have hu24 := Try.underlying24
 have HI0 := Aside0.mk hI
 have HK := Aside0.mk (KeepBut.refl w g none)
 have HL := Aside0.mk hB.size
 clear hI
 have HW0 := Aside0.mk hB.size
 have HB := Aside0.mk hB
 clear hB
 have H : ((expr_parser_atom.f k s0_0 s0_1 s0_2).bind fun bt209 => (expr_parser_postfix.l0 k bt209.2.2.2.1 bt209.2.2.2.2.1 bt209.2.2.2.2.2 bt209.1 bt209.2.1 bt209.2.2.1)) = some (r1, r2, r3, r4, r5, r6) := h
 clear h
 replace H := Option.bind_eq_some_iff.mp H
 obtain ⟨⟨t209, t210, t211, t214, t215, t216⟩, A20, H⟩ := H
 replace H : (expr_parser_postfix.l0 k t214 t215 t216 t209 t210 t211) = some (r1, r2, r3, r4, r5, r6) := H
 have A2 := Aside0.mk A20
 clear A20
 have H' := Aside0.mk H
 clear H
 go_enter Try.func96, Try.ntmps96
 go_wp2_with (first | ((with_reducible refine gate_dst (N := 2) rfl ?_); refine box_event ?hg (N := 2) ?hd (cs := #[.int .i64 0, .int .i64 0, .slice none 0 0]) (t := 24) ?hr ?_; (case hd => rfl); (case hg => rfl); (case hr => first | (go_simp; done) | (go_simp; rfl)); intro gb208 hg w3 hbox hb; have n0_ := Aside0.mk (IsS50.below (by repeat (first | (with_reducible first | exact HI0.out | apply IsS50.alloc | apply IsS50.drewN | apply IsS50.drew | apply IsS50.set_0 | apply IsS50.set_1 | apply IsS50.set_2) | exact HI0.out)) hb); have n1_ := Aside0.mk (KeepBut.trans (kK) (KeepBut.of_below hb g none) (.inl rfl)); have n2_ := Aside0.mk (below_step (by repeat (first | (with_reducible first | exact HB.out | apply below_alloc | apply pw_below_drewN | apply below_drew1 | refine below_set ?_ (IsS50.ge HI0.out)) | exact HB.out)) hb); have n3_ := Aside0.mk (hbox); have n4_ := Aside0.mk ((by rw [hg]; exact (keep_size (w := w) (g := g) (row := none) (kK)) : w.heap.size ≤ gb208)); have n5_ := Aside0.mk ((Nat.le_trans HW0.out (by rw [hg]; exact (keep_size (w := w) (g := g) (row := none) (kK)) : w.heap.size ≤ gb208) : w0.heap.size ≤ gb208)); have n6_ := Aside0.mk ((by rw [hg]; exact Nat.ne_of_lt (IsS50.lt (show IsS50 w0 _ g s0_0 s0_1 s0_2 from by repeat (first | (with_reducible first | exact HI0.out | apply IsS50.alloc | apply IsS50.drewN | apply IsS50.drew | apply IsS50.set_0 | apply IsS50.set_1 | apply IsS50.set_2) | exact HI0.out))) : g ≠ gb208)); have n7_ := Aside0.mk ((by rw [hg]; exact Nat.ne_of_gt (IsS50.lt (show IsS50 w0 _ g s0_0 s0_1 s0_2 from by repeat (first | (with_reducible first | exact HI0.out | apply IsS50.alloc | apply IsS50.drewN | apply IsS50.drew | apply IsS50.set_0 | apply IsS50.set_1 | apply IsS50.set_2) | exact HI0.out))) : gb208 ≠ g)); clear HI0; clear HK; clear HB; have HI0 := n0_; have HK := n1_; have HB := n2_; have BK208 := n3_; have GW208 := n4_; have GE208 := n5_; have NB0_208 := n6_; have NB208_0 := n7_; clear n0_ n1_ n2_ n3_ n4_ n5_ n6_ n7_; clear hb hbox hg) | ((with_reducible refine gate_callee (f := 102) rfl ?_); (fail_if_success (have chk_ := HO213)); refine goesL_ (some 5) rfl rfl Try.func102 (by kernel_rfl) rfl #[.pointer (some ⟨g, 0, none⟩)] rfl (by (try simp only [List.map_toArray, List.map_cons, List.map_nil]); first | done | rfl | (simp only [List.length_drop, List.length_take]; rfl) | (simp only [Int.ofNat_lt, Int.ofNat_le]; rfl)) ?_; (with_reducible refine (expr_parser_atom.calls k g s0_0 s0_1 s0_2 t209 t210 t211 t214 t215 t216 w0 _ ?side1 ?side2 A2.out).mono ?_); (case side1 => repeat (first | (with_reducible first | exact HI0.out | apply IsS50.alloc | apply IsS50.drewN | apply IsS50.drew | apply IsS50.set_0 | apply IsS50.set_1 | apply IsS50.set_2 | refine IsS50.far ?_ NB0_208.out _) | exact HI0.out)); (case side2 => repeat (first | (with_reducible first | exact HB.out | apply below_alloc | apply pw_below_drewN | apply below_drew1 | refine below_set ?_ (IsS50.ge HI0.out) | refine below_set ?_ GE208.out) | exact HB.out)); rintro e w4 ⟨v212, rfl, ho0, hi, hb, hk⟩; refine ⟨_, rfl, ?_⟩; have n0_ := Aside0.mk (KeepBut.blk hk (g' := gb208) (o := .cells #[.int .i64 0, .int .i64 0, .slice none 0 0] 24 (0, 0)) (bK) NB208_0.out (by simp)); have n1_ := Aside0.mk (Kd.V_lower (Kd.V_mono (ok' := fun k_ => (w.heap.size ≤ k_) ∧ k_ ≠ gb208 ∧ k_ ≠ g) ho0 (fun k_ hk_ => ⟨(Nat.le_trans (keep_size (w := w) (g := g) (row := none) (kK)) hk_), (Kd.freshB (g := gb208) (o := .cells #[.int .i64 0, .int .i64 0, .slice none 0 0] 24 (0, 0)) (bK) k_ hk_), (IsS50.fresh (by repeat (first | (with_reducible first | exact HI0.out | apply IsS50.alloc | apply IsS50.drewN | apply IsS50.drew | apply IsS50.set_0 | apply IsS50.set_1 | apply IsS50.set_2 | refine IsS50.far ?_ NB0_208.out _) | exact HI0.out)) k_ hk_)⟩)) (keep_size (w := w) (g := g) (row := none) (kK))); have n2_ := Aside0.mk (KeepBut.trans (kK) hk (.inl rfl)); have n3_ := Aside0.mk (hb); have n4_ := Aside0.mk (hi); clear BK208; clear HK; clear HB; clear HI0; have BK208 := n0_; have HO213 := n1_; have HK := n2_; have HB := n3_; have HI0 := n4_; clear n0_ n1_ n2_ n3_ n4_; (try clear hb); (try clear hb2); (try clear hk); (try clear hi); (try clear ho0)) | ((with_reducible refine gate_dst (N := 3) rfl ?_); refine box_event ?hg (N := 3) ?hd (cs := #[.int .i64 0, .int .i64 0, .slice none 0 0]) (t := 24) ?hr ?_; (case hd => rfl); (case hg => rfl); (case hr => first | (go_simp; done) | (go_simp; rfl)); intro gb217 hg w5 hbox hb; have n0_ := Aside0.mk (Kd.V_below (Kd.V_elderB (by (with_reducible repeat (first | apply Kd.V_alloc | apply Kd.V_drewN | apply Kd.V_drew)); exact HO213.out) gb217 (Nat.le_of_eq hg.symm)) hb); have n1_ := Aside0.mk (IsS50.below (by repeat (first | (with_reducible first | exact HI0.out | apply IsS50.alloc | apply IsS50.drewN | apply IsS50.drew | apply IsS50.set_0 | apply IsS50.set_1 | apply IsS50.set_2 | refine IsS50.far ?_ NB0_208.out _) | exact HI0.out)) hb); have n2_ := Aside0.mk (blk_below (g := gb208) (o := .cells #[.int .i64 0, .int .i64 0, .slice none 0 0] 24 (0, 0)) (bK) hb); have n3_ := Aside0.mk (KeepBut.trans (kK) (KeepBut.of_below hb g none) (.inl rfl)); have n4_ := Aside0.mk (below_step (by repeat (first | (with_reducible first | exact HB.out | apply below_alloc | apply pw_below_drewN | apply below_drew1 | refine below_set ?_ (IsS50.ge HI0.out) | refine below_set ?_ GE208.out) | exact HB.out)) hb); have n5_ := Aside0.mk (hbox); have n6_ := Aside0.mk ((by rw [hg]; exact (keep_size (w := w) (g := g) (row := none) (kK)) : w.heap.size ≤ gb217)); have n7_ := Aside0.mk ((Nat.le_trans HW0.out (by rw [hg]; exact (keep_size (w := w) (g := g) (row := none) (kK)) : w.heap.size ≤ gb217) : w0.heap.size ≤ gb217)); have n8_ := Aside0.mk ((by rw [hg]; exact Nat.ne_of_lt (blk_lt (g := gb208) (o := .cells #[.int .i64 0, .int .i64 0, .slice none 0 0] 24 (0, 0)) (bK)) : gb208 ≠ gb217)); have n9_ := Aside0.mk ((by rw [hg]; exact Nat.ne_of_gt (blk_lt (g := gb208) (o := .cells #[.int .i64 0, .int .i64 0, .slice none 0 0] 24 (0, 0)) (bK)) : gb217 ≠ gb208)); have n10_ := Aside0.mk ((by rw [hg]; exact Nat.ne_of_lt (IsS50.lt (show IsS50 w0 _ g t214 t215 t216 from by repeat (first | (with_reducible first | exact HI0.out | apply IsS50.alloc | apply IsS50.drewN | apply IsS50.drew | apply IsS50.set_0 | apply IsS50.set_1 | apply IsS50.set_2 | refine IsS50.far ?_ NB0_208.out _) | exact HI0.out))) : g ≠ gb217)); have n11_ := Aside0.mk ((by rw [hg]; exact Nat.ne_of_gt (IsS50.lt (show IsS50 w0 _ g t214 t215 t216 from by repeat (first | (with_reducible first | exact HI0.out | apply IsS50.alloc | apply IsS50.drewN | apply IsS50.drew | apply IsS50.set_0 | apply IsS50.set_1 | apply IsS50.set_2 | refine IsS50.far ?_ NB0_208.out _) | exact HI0.out))) : gb217 ≠ g)); clear HO213; clear HI0; clear BK208; clear HK; clear HB; have HO213 := n0_; have HI0 := n1_; have BK208 := n2_; have HK := n3_; have HB := n4_; have BK217 := n5_; have GW217 := n6_; have GE217 := n7_; have NB208_217 := n8_; have NB217_208 := n9_; have NB0_217 := n10_; have NB217_0 := n11_; clear n0_ n1_ n2_ n3_ n4_ n5_ n6_ n7_ n8_ n9_ n10_ n11_; clear hb hbox hg; have hnb6 := NB217_208.out; have hnc6 := NB208_217.out; have hnb7 := NB217_0.out; have hnc7 := NB0_217.out; have hcz8_0 : w5.cell? ⟨gb217, 0, none⟩ = some (.int .i64 0) := (blk_cell BK217.out 0).trans rfl; have hcz8_1 : w5.cell? ⟨gb217, 1, none⟩ = some (.int .i64 0) := (blk_cell BK217.out 1).trans rfl; have hcz8_2 : w5.cell? ⟨gb217, 2, none⟩ = some (.slice none 0 0) := (blk_cell BK217.out 2).trans rfl; have hfz8_0 := blk_frozen BK217.out 0; have hfz8_1 := blk_frozen BK217.out 1; have hfz8_2 := blk_frozen BK217.out 2; obtain ⟨Ao9, co9, eo9⟩ := Kd.V_slice HO213.out; subst eo9))
 go_loopg [] k (fun kq w' => ∃ (x1000_1 : ByteArray) (x1001_1 : Int) (x1002_1 : Int) (x218000_1 : Int) (x218001_1 : Int) (x218002_1 : List (S24)) (u218002 : Value), Aside0 (expr_parser_postfix.l0 kq x1000_1 x1001_1 x1002_1 x218000_1 x218001_1 x218002_1 = some (r1, r2, r3, r4, r5, r6)) ∧ Aside0 (kq ≤ k) ∧ Aside0 (Kd.V k24 24 w' w.heap.size (fun k_ => (w.heap.size ≤ k_) ∧ k_ ≠ gb208 ∧ k_ ≠ gb217 ∧ k_ ≠ g) u218002 x218002_1) ∧ Aside0 (w'.heap[gb208]? = some (.cells #[.int .i64 0, .int .i64 0, (.slice none 0 0)] 24 (0, 0))) ∧ Aside0 (w'.heap[gb217]? = some (.cells #[.int .i64 x218000_1, .int .i64 x218001_1, u218002] 24 (0, 0))) ∧ Aside0 (IsS50 w0 w' g x1000_1 x1001_1 x1002_1) ∧ Aside0 (KeepBut w w' g none) ∧ Aside0 (Below w0.heap.size w0 w'))
 case atStart => exact ⟨(t214), (t215), (t216), (t209), (t210), (t211), (.slice Ao9 t211.length co9), H', ⟨Nat.le_refl _⟩, ⟨by (with_reducible repeat (first | apply Kd.V_alloc | apply Kd.V_drewN | apply Kd.V_drew)); exact Kd.V_mono (Kd.V_far (p := ⟨gb217, 2, none⟩) (Kd.V_far (p := ⟨gb217, 1, none⟩) (Kd.V_far (p := ⟨gb217, 0, none⟩) (Kd.V_mono HO213.out (fun k_ hk => (⟨hk, hk.2⟩ : _ ∧ k_ ≠ gb217))) (fun _ hk => hk.2) (.int .i64 t209)) (fun _ hk => hk.2) (.int .i64 t210)) (fun _ hk => hk.2) (.slice Ao9 t211.length co9)) (fun _ hk => ⟨hk.1.1.1, ⟨hk.1.1.2.1, ⟨hk.1.2, hk.1.1.2.2⟩⟩⟩)⟩, ⟨by (with_reducible repeat (first | refine blk_drewN ?_ _ | refine blk_drew ?_ | refine blk_alloc ?_ _)); refine blk_far ?_ NB208_217.out _; (with_reducible repeat (first | refine blk_drewN ?_ _ | refine blk_drew ?_ | refine blk_alloc ?_ _)); refine blk_far ?_ NB208_217.out _; (with_reducible repeat (first | refine blk_drewN ?_ _ | refine blk_drew ?_ | refine blk_alloc ?_ _)); refine blk_far ?_ NB208_217.out _; (with_reducible repeat (first | refine blk_drewN ?_ _ | refine blk_drew ?_ | refine blk_alloc ?_ _)); exact BK208.out⟩, ⟨by (with_reducible repeat (first | refine blk_drewN ?_ _ | refine blk_drew ?_ | refine blk_alloc ?_ _)); refine blk_put (cs := #[.int .i64 t209, .int .i64 t210, .slice none 0 0]) ?_ 2 _ rfl; (with_reducible repeat (first | refine blk_drewN ?_ _ | refine blk_drew ?_ | refine blk_alloc ?_ _)); refine blk_put (cs := #[.int .i64 t209, .int .i64 0, .slice none 0 0]) ?_ 1 _ rfl; (with_reducible repeat (first | refine blk_drewN ?_ _ | refine blk_drew ?_ | refine blk_alloc ?_ _)); refine blk_put (cs := #[.int .i64 0, .int .i64 0, .slice none 0 0]) ?_ 0 _ rfl; (with_reducible repeat (first | refine blk_drewN ?_ _ | refine blk_drew ?_ | refine blk_alloc ?_ _)); exact BK217.out⟩, ⟨by repeat (first | (with_reducible first | exact HI0.out | apply IsS50.alloc | apply IsS50.drewN | apply IsS50.drew | apply IsS50.set_0 | apply IsS50.set_1 | apply IsS50.set_2 | refine IsS50.far ?_ NB0_208.out _ | refine IsS50.far ?_ NB0_217.out _) | exact HI0.out)⟩, ⟨kK⟩, ⟨by repeat (first | (with_reducible first | exact HB.out | apply below_alloc | apply pw_below_drewN | apply below_drew1 | refine below_set ?_ (IsS50.ge HI0.out) | refine below_set ?_ GE208.out | refine below_set ?_ GE217.out) | exact HB.out)⟩⟩
 case round =>
  clear H'
  try clear c1
  try clear p2
  try clear c6
  try clear c7
  try clear c9
  try clear hcz8_0
  try clear hcz8_1
  try clear hcz8_2
  try clear hfz8_0
  try clear hfz8_1
  try clear hfz8_2
  obtain ⟨x1000_1, x1001_1, x1002_1, x218000_1, x218001_1, x218002_1, u218002, HA, HK1, HO_218002, BK208, BK217, HI0, HK, HB⟩ := hrel
  cases gk with
  | zero => exact absurd HA.out (by simp [expr_parser_postfix.l0])
  | succ k1 =>
   have H := HA.out
   clear HA
   simp only [expr_parser_postfix.l0] at H
   replace H := Option.bind_eq_some_iff.mp H
   obtain ⟨⟨t218, t219, t220, t221⟩, A100, H⟩ := H
   replace H : (if t218 = true then (expr_parser_postfix.l0 k1 t219 t220 (wrap64 (t221 + 1)) 7 0 (([(⟨x218000_1, x218001_1, x218002_1⟩ : S24)] : List (S24)))) else (some (x218000_1, x218001_1, x218002_1, t219, t220, t221))) = some (r1, r2, r3, r4, r5, r6) := H
   have A10 := Aside0.mk A100
   clear A100
   by_cases c11 : t218 = true
   ·subst c11
    have H1 : (expr_parser_postfix.l0 k1 t219 t220 (wrap64 (t221 + 1)) 7 0 (([(⟨x218000_1, x218001_1, x218002_1⟩ : S24)] : List (S24)))) = some (r1, r2, r3, r4, r5, r6) := by rw [if_pos rfl] at H; exact H
    clear H
    have H := H1
    clear H1
    obtain ⟨y222, hy222⟩ : ∃ y_ : List (S24), y_ = (([(⟨x218000_1, x218001_1, x218002_1⟩ : S24)] : List (S24))) := ⟨_, rfl⟩
    replace H : (expr_parser_postfix.l0 k1 t219 t220 (wrap64 (t221 + 1)) 7 0 y222) = some (r1, r2, r3, r4, r5, r6) := by first | (rw [hy222]; with_reducible exact H) | (have H2_ := (Option.bind_some _ _).symm.trans H; rw [hy222]; with_reducible exact H2_) | (have H2_ := (Option.bind_some _ _).symm.trans H; with_reducible exact H2_) | with_reducible exact H | (rw [hy222]; exact H) | exact H
    have Ny222 := Aside0.mk hy222
    clear hy222
    have H' := Aside0.mk H
    clear H
    go_wp2_with (first | ((with_reducible refine gate_callee (f := 83) rfl ?_); refine goesL_ (some 7) rfl rfl Try.func83 (by kernel_rfl) rfl #[.pointer (some ⟨g, 0, none⟩), .int .u8 42] rfl (by (try simp only [List.map_toArray, List.map_cons, List.map_nil]); first | done | rfl | (simp only [List.length_drop, List.length_take]; rfl) | (simp only [Int.ofNat_lt, Int.ofNat_le]; rfl)) ?_; (with_reducible refine (expr_parser_is.calls k1 g x1000_1 x1001_1 x1002_1 42 true t219 t220 t221 w0 _ ?side1 ?side2 A10.out).mono ?_); (case side1 => repeat (first | (with_reducible first | exact HI0.out | apply IsS50.alloc | apply IsS50.drewN | apply IsS50.drew | apply IsS50.set_0 | apply IsS50.set_1 | apply IsS50.set_2 | refine IsS50.far ?_ NB0_208.out _ | refine IsS50.far ?_ NB0_217.out _) | exact HI0.out)); (case side2 => repeat (first | (with_reducible first | exact HB.out | apply below_alloc | apply pw_below_drewN | apply below_drew1 | refine below_set ?_ (IsS50.ge HI0.out) | refine below_set ?_ GE208.out | refine below_set ?_ GE217.out) | exact HB.out)); rintro e w12 ⟨rfl, hi, hb, hk⟩; refine ⟨_, rfl, ?_⟩; have n0_ := Aside0.mk (Kd.V_mono (Kd.V_keep (Kd.V_mono (ok := fun k_ => (((w.heap.size ≤ k_)) ∧ (k_ ≠ gb208 ∧ (k_ ≠ gb217 ∧ k_ ≠ g)))) (by (with_reducible repeat (first | apply Kd.V_alloc | apply Kd.V_drewN | apply Kd.V_drew)); exact HO_218002.out) (fun k_ hk_ => (⟨hk_, hk_.2.2.2⟩ : _ ∧ k_ ≠ g))) hk (fun _ h => h.2)) (fun _ h => h.1)); have n1_ := Aside0.mk (KeepBut.blk hk (g' := gb208) (o := .cells #[.int .i64 0, .int .i64 0, .slice none 0 0] 24 (0, 0)) (bK) NB208_0.out (by simp)); have n2_ := Aside0.mk (KeepBut.blk hk (g' := gb217) (o := .cells #[.int .i64 x218000_1, .int .i64 x218001_1, u218002] 24 (0, 0)) (bK) NB217_0.out (by simp)); have n3_ := Aside0.mk (KeepBut.trans (kK) hk (.inl rfl)); have n4_ := Aside0.mk (hb); have n5_ := Aside0.mk (hi); clear HO_218002; clear BK208; clear BK217; clear HK; clear HB; clear HI0; have HO_218002 := n0_; have BK208 := n1_; have BK217 := n2_; have HK := n3_; have HB := n4_; have HI0 := n5_; clear n0_ n1_ n2_ n3_ n4_ n5_; (try clear hb); (try clear hb2); (try clear hk); (try clear hi); obtain ⟨HGz13, hgz13⟩ := HI0.out; have hcz13_0 := cellS50_0 HGz13; have hcz13_1 := cellS50_1 HGz13; have hcz13_2 := cellS50_2 HGz13; have hfz13_0 := blk_frozen HGz13 0; have hfz13_1 := blk_frozen HGz13 1; have hfz13_2 := blk_frozen HGz13 2; clear HGz13 hgz13) | ((with_reducible refine gate_store (t := 3) (p := 14) rfl ?_); refine store_event (t := 3) (p := 14) (v := ?vo_w14) (w1 := (w12.setCell ⟨g, 2, none⟩ (.int .i64 (wrap64 (t221 + 1))))) ?hg ?ho ?hn ?hr ?_; (case ho => rfl); (case hg => rfl); (case hn => rfl); (case hr => first | (go_simp; done) | (go_simp; rfl)); intro w14 hw; have n0_ : Aside0 (Kd.V k24 24 w14 w.heap.size (fun k_ => (w.heap.size ≤ k_) ∧ k_ ≠ gb208 ∧ k_ ≠ gb217 ∧ k_ ≠ g) u218002 x218002_1) := ⟨(by rw [hw]; exact (by (with_reducible repeat (first | apply Kd.V_alloc | apply Kd.V_drewN | apply Kd.V_drew)); exact Kd.V_mono (Kd.V_far (p := ⟨g, 2, none⟩) (Kd.V_mono HO_218002.out (fun k_ hk => (⟨hk, hk.2.2.2⟩ : _ ∧ k_ ≠ g))) (fun _ hk => hk.2) (.int .i64 (wrap64 (t221 + 1)))) (fun _ hk => ⟨hk.1.1, ⟨hk.1.2.1, ⟨hk.1.2.2.1, hk.1.2.2.2⟩⟩⟩)))⟩; have n1_ : Aside0 (w14.heap[gb208]? = some (.cells #[.int .i64 0, .int .i64 0, .slice none 0 0] 24 (0, 0))) := ⟨(by rw [hw]; exact (by (with_reducible repeat (first | refine blk_drewN ?_ _ | refine blk_drew ?_ | refine blk_alloc ?_ _)); refine blk_far ?_ NB208_0.out _; (with_reducible repeat (first | refine blk_drewN ?_ _ | refine blk_drew ?_ | refine blk_alloc ?_ _)); exact BK208.out))⟩; have n2_ : Aside0 (w14.heap[gb217]? = some (.cells #[.int .i64 x218000_1, .int .i64 x218001_1, u218002] 24 (0, 0))) := ⟨(by rw [hw]; exact (by (with_reducible repeat (first | refine blk_drewN ?_ _ | refine blk_drew ?_ | refine blk_alloc ?_ _)); refine blk_far ?_ NB217_0.out _; (with_reducible repeat (first | refine blk_drewN ?_ _ | refine blk_drew ?_ | refine blk_alloc ?_ _)); exact BK217.out))⟩; have n3_ : Aside0 (IsS50 w0 w14 g t219 t220 (wrap64 (t221 + 1))) := ⟨(by rw [hw]; exact (by repeat (first | (with_reducible first | exact HI0.out | apply IsS50.alloc | apply IsS50.drewN | apply IsS50.drew | apply IsS50.set_0 | apply IsS50.set_1 | apply IsS50.set_2 | refine IsS50.far ?_ NB0_208.out _ | refine IsS50.far ?_ NB0_217.out _) | exact HI0.out)))⟩; have n4_ : Aside0 (KeepBut w w14 g none) := ⟨(by rw [hw]; exact (kK))⟩; have n5_ : Aside0 (Below w0.heap.size w0 w14) := ⟨(by rw [hw]; exact (by repeat (first | (with_reducible first | exact HB.out | apply below_alloc | apply pw_below_drewN | apply below_drew1 | refine below_set ?_ (IsS50.ge HI0.out) | refine below_set ?_ GE208.out | refine below_set ?_ GE217.out) | exact HB.out)))⟩; clear hw; clear HO_218002; clear BK208; clear BK217; clear HI0; clear HK; clear HB; have HO_218002 := n0_; have BK208 := n1_; have BK217 := n2_; have HI0 := n3_; have HK := n4_; have HB := n5_; clear n0_ n1_ n2_ n3_ n4_ n5_; have hnb15 := NB217_208.out; have hnc15 := NB208_217.out; have hnb16 := NB217_0.out; have hnc16 := NB0_217.out; have hcz17_0 : w14.cell? ⟨gb217, 0, none⟩ = some (.int .i64 x218000_1) := (blk_cell BK217.out 0).trans rfl; have hcz17_1 : w14.cell? ⟨gb217, 1, none⟩ = some (.int .i64 x218001_1) := (blk_cell BK217.out 1).trans rfl; have hcz17_2 : w14.cell? ⟨gb217, 2, none⟩ = some (u218002) := (blk_cell BK217.out 2).trans rfl; have hfz17_0 := blk_frozen BK217.out 0; have hfz17_1 := blk_frozen BK217.out 1; have hfz17_2 := blk_frozen BK217.out 2; obtain ⟨Ao18, co18, eo18⟩ := Kd.V_slice HO_218002.out; subst eo18) | ((with_reducible refine gate_dst (N := 16) rfl ?_); refine Kd.N_lit k24 _ 24 ?hg (N' := 16) ?hd (xs := ([(⟨x218000_1, x218001_1, x218002_1⟩ : S24)] : List (S24))) (inner := [.int .i64 x218000_1, .int .i64 x218001_1, .slice Ao18 x218002_1.length co18]) (ok := (fun k_ => (w.heap.size ≤ k_) ∧ k_ ≠ gb208 ∧ k_ ≠ gb217 ∧ k_ ≠ g)) (okp := (fun k_ => (w.heap.size ≤ k_) ∧ k_ ≠ gb208 ∧ k_ ≠ gb217 ∧ k_ ≠ g)) ?hr ?hp (fun _ hk => hk) ((show ∀ k_, w14.heap.size ≤ k_ → (fun k_ => (w.heap.size ≤ k_) ∧ k_ ≠ gb208 ∧ k_ ≠ gb217 ∧ k_ ≠ g) k_ from fun k_ hk => ⟨(Nat.le_trans (keep_size (w := w) (g := g) (row := none) (kK)) hk), Kd.freshB (g := gb208) (o := .cells #[.int .i64 0, .int .i64 0, .slice none 0 0] 24 (0, 0)) (bK) k_ hk, Kd.freshB (g := gb217) (o := .cells #[.int .i64 x218000_1, .int .i64 x218001_1, .slice Ao18 x218002_1.length co18] 24 (0, 0)) (bK) k_ hk, IsS50.fresh (by repeat (first | (with_reducible first | exact HI0.out | apply IsS50.alloc | apply IsS50.drewN | apply IsS50.drew | apply IsS50.set_0 | apply IsS50.set_1 | apply IsS50.set_2 | refine IsS50.far ?_ NB0_208.out _ | refine IsS50.far ?_ NB0_217.out _) | exact HI0.out)) k_ hk⟩) _ (Nat.le_refl _)) (Below.refl _ _) (Nat.le_refl _) (by simp) ?_; (case hd => rfl); (case hg => rfl); (case hr => first | (go_simp; done) | (go_simp; rfl)); (case hp => exact (Reps.c3 (show Kd.FK k24 _ _ (⟨x218000_1, x218001_1, x218002_1⟩ : S24) [.int .i64 x218000_1, .int .i64 x218001_1, .slice Ao18 x218002_1.length co18] from (k24_mkF _ _ (⟨x218000_1, x218001_1, x218002_1⟩ : S24) (Kd.V_reads' (Kd.V_mono (ok' := (fun k_ => (w.heap.size ≤ k_) ∧ k_ ≠ gb208 ∧ k_ ≠ gb217 ∧ k_ ≠ g)) (HO_218002.out) (fun k_ hk => ⟨hk.1, ⟨hk.2.1, ⟨hk.2.2.1, hk.2.2.2⟩⟩⟩))).2.1 (Kd.V_F (Kd.V_mono (ok' := (fun k_ => (w.heap.size ≤ k_) ∧ k_ ≠ gb208 ∧ k_ ≠ gb217 ∧ k_ ≠ g)) (HO_218002.out) (fun k_ hk => ⟨hk.1, ⟨hk.2.1, ⟨hk.2.2.1, hk.2.2.2⟩⟩⟩))))) (Reps.none _ _))); intro v223 w19 ho20 hb hg_ hnew_; clear hg_ hnew_; (first | rw [← Ny222.out] at ho20 | (simp only [Int.reduceToNat] at ho20; rw [← Ny222.out] at ho20)); have n0_ := Aside0.mk (Kd.V_elder' (by (with_reducible repeat (first | apply Kd.V_alloc | apply Kd.V_drewN | apply Kd.V_drew)); exact HO_218002.out) (Kd.N_base ho20) hb); have n1_ := Aside0.mk (Kd.N_lower ho20 (keep_size (w := w) (g := g) (row := none) (kK))); have n2_ := Aside0.mk (blk_below (g := gb208) (o := .cells #[.int .i64 0, .int .i64 0, .slice none 0 0] 24 (0, 0)) (bK) hb); have n3_ := Aside0.mk (blk_below (g := gb217) (o := .cells #[.int .i64 x218000_1, .int .i64 x218001_1, .slice Ao18 x218002_1.length co18] 24 (0, 0)) (bK) hb); have n4_ := Aside0.mk (IsS50.below (by repeat (first | (with_reducible first | exact HI0.out | apply IsS50.alloc | apply IsS50.drewN | apply IsS50.drew | apply IsS50.set_0 | apply IsS50.set_1 | apply IsS50.set_2 | refine IsS50.far ?_ NB0_208.out _ | refine IsS50.far ?_ NB0_217.out _) | exact HI0.out)) hb); have n5_ := Aside0.mk (KeepBut.trans (kK) (KeepBut.of_below hb g none) (.inl rfl)); have n6_ := Aside0.mk (below_step (by repeat (first | (with_reducible first | exact HB.out | apply below_alloc | apply pw_below_drewN | apply below_drew1 | refine below_set ?_ (IsS50.ge HI0.out) | refine below_set ?_ GE208.out | refine below_set ?_ GE217.out) | exact HB.out)) hb); clear HO_218002; clear BK208; clear BK217; clear HI0; clear HK; clear HB; have HO_218002 := n0_; have HO224 := n1_; have BK208 := n2_; have BK217 := n3_; have HI0 := n4_; have HK := n5_; have HB := n6_; clear n0_ n1_ n2_ n3_ n4_ n5_ n6_; clear hb ho20; obtain ⟨Ao21, co21, eo21⟩ := Kd.N_slice HO224.out; subst eo21; have hcz22_0 : w19.cell? ⟨gb217, 0, none⟩ = some (.int .i64 x218000_1) := (blk_cell BK217.out 0).trans rfl; have hcz22_1 : w19.cell? ⟨gb217, 1, none⟩ = some (.int .i64 x218001_1) := (blk_cell BK217.out 1).trans rfl; have hcz22_2 : w19.cell? ⟨gb217, 2, none⟩ = some (.slice Ao18 x218002_1.length co18) := (blk_cell BK217.out 2).trans rfl; have hfz22_0 := blk_frozen BK217.out 0; have hfz22_1 := blk_frozen BK217.out 1; have hfz22_2 := blk_frozen BK217.out 2))
    (first | go_roundg k1 | ((simp only [add_plain] at *); go_roundg k1))
    case measure => have := HK1.out; omega
    case rel => exact ⟨(t219), (t220), (wrap64 (t221 + 1)), (7), (0), (y222), (.slice Ao21 y222.length co21), H', ⟨by have := HK1.out; omega⟩, ⟨Kd.N_V (by (with_reducible repeat (first | apply Kd.N_alloc | apply Kd.N_drewN | apply Kd.N_drew)); exact Kd.N_mono (Kd.N_far (p := ⟨gb217, 2, none⟩) (Kd.N_far (p := ⟨gb217, 1, none⟩) (Kd.N_far (p := ⟨gb217, 0, none⟩) (Kd.N_mono HO224.out (fun k_ hk => (⟨hk, hk.2.2.1⟩ : _ ∧ k_ ≠ gb217))) (fun _ hk => hk.2) (.int .i64 7)) (fun _ hk => hk.2) (.int .i64 0)) (fun _ hk => hk.2) (.slice Ao21 y222.length co21)) (fun _ hk => ⟨hk.1.1, ⟨hk.1.2.1, ⟨hk.1.2.2.1, hk.1.2.2.2⟩⟩⟩))⟩, ⟨by (with_reducible repeat (first | refine blk_drewN ?_ _ | refine blk_drew ?_ | refine blk_alloc ?_ _)); refine blk_far ?_ NB208_217.out _; (with_reducible repeat (first | refine blk_drewN ?_ _ | refine blk_drew ?_ | refine blk_alloc ?_ _)); refine blk_far ?_ NB208_217.out _; (with_reducible repeat (first | refine blk_drewN ?_ _ | refine blk_drew ?_ | refine blk_alloc ?_ _)); refine blk_far ?_ NB208_217.out _; (with_reducible repeat (first | refine blk_drewN ?_ _ | refine blk_drew ?_ | refine blk_alloc ?_ _)); exact BK208.out⟩, ⟨by (with_reducible repeat (first | refine blk_drewN ?_ _ | refine blk_drew ?_ | refine blk_alloc ?_ _)); refine blk_put (cs := #[.int .i64 7, .int .i64 0, .slice Ao18 x218002_1.length co18]) ?_ 2 _ rfl; (with_reducible repeat (first | refine blk_drewN ?_ _ | refine blk_drew ?_ | refine blk_alloc ?_ _)); refine blk_put (cs := #[.int .i64 7, .int .i64 x218001_1, .slice Ao18 x218002_1.length co18]) ?_ 1 _ rfl; (with_reducible repeat (first | refine blk_drewN ?_ _ | refine blk_drew ?_ | refine blk_alloc ?_ _)); refine blk_put (cs := #[.int .i64 x218000_1, .int .i64 x218001_1, .slice Ao18 x218002_1.length co18]) ?_ 0 _ rfl; (with_reducible repeat (first | refine blk_drewN ?_ _ | refine blk_drew ?_ | refine blk_alloc ?_ _)); exact BK217.out⟩, ⟨by repeat (first | (with_reducible first | exact HI0.out | apply IsS50.alloc | apply IsS50.drewN | apply IsS50.drew | apply IsS50.set_0 | apply IsS50.set_1 | apply IsS50.set_2 | refine IsS50.far ?_ NB0_208.out _ | refine IsS50.far ?_ NB0_217.out _) | exact HI0.out)⟩, ⟨kK⟩, ⟨by repeat (first | (with_reducible first | exact HB.out | apply below_alloc | apply pw_below_drewN | apply below_drew1 | refine below_set ?_ (IsS50.ge HI0.out) | refine below_set ?_ GE208.out | refine below_set ?_ GE217.out) | exact HB.out)⟩⟩
   ·replace c11 := Bool.eq_false_iff.mpr c11
    subst c11
    have H1 : (some (x218000_1, x218001_1, x218002_1, t219, t220, t221)) = some (r1, r2, r3, r4, r5, r6) := by rw [if_neg (show ¬ (false = true) by decide)] at H; exact H
    clear H
    have H := H1
    clear H1
    simp only [Option.some.injEq, Prod.mk.injEq] at H
    obtain ⟨rfl, rfl, rfl, rfl, rfl, rfl⟩ := H
    go_wp2_with (first | ((with_reducible refine gate_callee (f := 83) rfl ?_); refine goesL_ (some 7) rfl rfl Try.func83 (by kernel_rfl) rfl #[.pointer (some ⟨g, 0, none⟩), .int .u8 42] rfl (by (try simp only [List.map_toArray, List.map_cons, List.map_nil]); first | done | rfl | (simp only [List.length_drop, List.length_take]; rfl) | (simp only [Int.ofNat_lt, Int.ofNat_le]; rfl)) ?_; (with_reducible refine (expr_parser_is.calls k1 g x1000_1 x1001_1 x1002_1 42 false t219 t220 t221 w0 _ ?side1 ?side2 A10.out).mono ?_); (case side1 => repeat (first | (with_reducible first | exact HI0.out | apply IsS50.alloc | apply IsS50.drewN | apply IsS50.drew | apply IsS50.set_0 | apply IsS50.set_1 | apply IsS50.set_2 | refine IsS50.far ?_ NB0_208.out _ | refine IsS50.far ?_ NB0_217.out _) | exact HI0.out)); (case side2 => repeat (first | (with_reducible first | exact HB.out | apply below_alloc | apply pw_below_drewN | apply below_drew1 | refine below_set ?_ (IsS50.ge HI0.out) | refine below_set ?_ GE208.out | refine below_set ?_ GE217.out) | exact HB.out)); rintro e w23 ⟨rfl, hi, hb, hk⟩; refine ⟨_, rfl, ?_⟩; have n0_ := Aside0.mk (Kd.V_mono (Kd.V_keep (Kd.V_mono (ok := fun k_ => (((w.heap.size ≤ k_)) ∧ (k_ ≠ gb208 ∧ (k_ ≠ gb217 ∧ k_ ≠ g)))) (by (with_reducible repeat (first | apply Kd.V_alloc | apply Kd.V_drewN | apply Kd.V_drew)); exact HO_218002.out) (fun k_ hk_ => (⟨hk_, hk_.2.2.2⟩ : _ ∧ k_ ≠ g))) hk (fun _ h => h.2)) (fun _ h => h.1)); have n1_ := Aside0.mk (KeepBut.blk hk (g' := gb208) (o := .cells #[.int .i64 0, .int .i64 0, .slice none 0 0] 24 (0, 0)) (bK) NB208_0.out (by simp)); have n2_ := Aside0.mk (KeepBut.blk hk (g' := gb217) (o := .cells #[.int .i64 x218000_1, .int .i64 x218001_1, u218002] 24 (0, 0)) (bK) NB217_0.out (by simp)); have n3_ := Aside0.mk (KeepBut.trans (kK) hk (.inl rfl)); have n4_ := Aside0.mk (hb); have n5_ := Aside0.mk (hi); clear HO_218002; clear BK208; clear BK217; clear HK; clear HB; clear HI0; have HO_218002 := n0_; have BK208 := n1_; have BK217 := n2_; have HK := n3_; have HB := n4_; have HI0 := n5_; clear n0_ n1_ n2_ n3_ n4_ n5_; (try clear hb); (try clear hb2); (try clear hk); (try clear hi); have hnb24 := NB217_208.out; have hnc24 := NB208_217.out; have hnb25 := NB217_0.out; have hnc25 := NB0_217.out; have hcz26_0 : w23.cell? ⟨gb217, 0, none⟩ = some (.int .i64 x218000_1) := (blk_cell BK217.out 0).trans rfl; have hcz26_1 : w23.cell? ⟨gb217, 1, none⟩ = some (.int .i64 x218001_1) := (blk_cell BK217.out 1).trans rfl; have hcz26_2 : w23.cell? ⟨gb217, 2, none⟩ = some (u218002) := (blk_cell BK217.out 2).trans rfl; have hfz26_0 := blk_frozen BK217.out 0; have hfz26_1 := blk_frozen BK217.out 1; have hfz26_2 := blk_frozen BK217.out 2; have hnb27 := NB208_0.out; have hnc27 := NB0_208.out; have hcz28_0 : w23.cell? ⟨gb208, 0, none⟩ = some (.int .i64 0) := (blk_cell BK208.out 0).trans rfl; have hcz28_1 : w23.cell? ⟨gb208, 1, none⟩ = some (.int .i64 0) := (blk_cell BK208.out 1).trans rfl; have hcz28_2 : w23.cell? ⟨gb208, 2, none⟩ = some (.slice none 0 0) := (blk_cell BK208.out 2).trans rfl; have hfz28_0 := blk_frozen BK208.out 0; have hfz28_1 := blk_frozen BK208.out 1; have hfz28_2 := blk_frozen BK208.out 2; obtain ⟨Ao29, co29, eo29⟩ := Kd.V_slice HO_218002.out; subst eo29))
    refine bodyPost_ret (results_cell_row rfl _ _ gb208 24 #[.int .i64 x218000_1, .int .i64 x218001_1, .slice Ao29 x218002_1.length co29] (0, 0) _ rfl (by (with_reducible repeat (first | refine blk_drewN ?_ _ | refine blk_drew ?_ | refine blk_alloc ?_ _)); refine blk_put (cs := #[.int .i64 x218000_1, .int .i64 x218001_1, .slice none 0 0]) ?_ 2 _ rfl; (with_reducible repeat (first | refine blk_drewN ?_ _ | refine blk_drew ?_ | refine blk_alloc ?_ _)); refine blk_put (cs := #[.int .i64 x218000_1, .int .i64 0, .slice none 0 0]) ?_ 1 _ rfl; (with_reducible repeat (first | refine blk_drewN ?_ _ | refine blk_drew ?_ | refine blk_alloc ?_ _)); refine blk_put (cs := #[.int .i64 0, .int .i64 0, .slice none 0 0]) ?_ 0 _ rfl; (with_reducible repeat (first | refine blk_drewN ?_ _ | refine blk_drew ?_ | refine blk_alloc ?_ _)); exact BK208.out) Try.underlying24 rfl (by kernel_rfl)) rfl ?_
    exact ⟨_, by first | rfl | (simp [errW_none, errW_some] <;> rfl) | (simp [*, errW_none, errW_some] <;> rfl), by (with_reducible repeat (first | apply Kd.V_alloc | apply Kd.V_drewN | apply Kd.V_drew)); exact Kd.V_mono (Kd.V_far (p := ⟨gb208, 2, none⟩) (Kd.V_far (p := ⟨gb208, 1, none⟩) (Kd.V_far (p := ⟨gb208, 0, none⟩) (Kd.V_mono HO_218002.out (fun k_ hk => (⟨hk, hk.2.1⟩ : _ ∧ k_ ≠ gb208))) (fun _ hk => hk.2) (.int .i64 x218000_1)) (fun _ hk => hk.2) (.int .i64 x218001_1)) (fun _ hk => hk.2) (.slice Ao29 x218002_1.length co29)) (fun _ hk => hk.1.1), by repeat (first | (with_reducible first | exact HI0.out | apply IsS50.alloc | apply IsS50.drewN | apply IsS50.drew | apply IsS50.set_0 | apply IsS50.set_1 | apply IsS50.set_2 | refine IsS50.far ?_ NB0_208.out _ | refine IsS50.far ?_ NB0_217.out _) | exact HI0.out), by repeat (first | (with_reducible first | exact HB.out | apply below_alloc | apply pw_below_drewN | apply below_drew1 | refine below_set ?_ (IsS50.ge HI0.out) | refine below_set ?_ GE208.out | refine below_set ?_ GE217.out) | exact HB.out), kK⟩
end Go.Proofs.Ytjofkebiacaciaa.PAll
end
section
namespace Go.Proofs.Ytjofkebiacaciaa.PAll
open Go.RowKit Go.Proofs.YtjofkebiacaciaaW.PrintWords Go.Proofs.YtjofkebiacaciaaW.PrintLast Go.Proofs.YtjofkebiacaciaaW.PrintMore
attribute [local go_sem] max2_int min2_int max_two min_two max_three min_three max_four min_four
set_option linter.unusedVariables false
set_option linter.unusedSimpArgs false
set_option linter.all false
variable [AtomC]
mutual
def expr_parser_unary.l0 : Nat → Int → ByteArray → Int → Int → Option (Int × Int × (List (S24)) × ByteArray × Int × Int)
 | 0, _, _, _, _ => none
 | k + 1, x3, x1000, x1001, x1002 => (expr_parser_is.f k x1000 x1001 x1002 33).bind fun bt226 => (if bt226.1 = true then (expr_parser_unary.l0 k (wrap64 (x3 + 1)) bt226.2.1 bt226.2.2.1 (wrap64 (bt226.2.2.2 + 1))) else ((expr_parser_postfix.f k bt226.2.1 bt226.2.2.1 bt226.2.2.2).bind fun bt230 => (expr_parser_unary.l1 k x3 bt230.2.2.2.1 bt230.2.2.2.2.1 bt230.2.2.2.2.2 bt230.1 bt230.2.1 bt230.2.2.1)))
def expr_parser_unary.l1 : Nat → Int → ByteArray → Int → Int → Int → Int → List (S24) → Option (Int × Int × (List (S24)) × ByteArray × Int × Int)
 | 0, _, _, _, _, _, _, _ => none
 | k + 1, x3, x1000, x1001, x1002, x239000, x239001, x239002 => if x3 > 0 then (expr_parser_unary.l1 k (wrap64 (x3 - 1)) x1000 x1001 x1002 8 0 (([(⟨x239000, x239001, x239002⟩ : S24)] : List (S24)))) else (some (x239000, x239001, x239002, x1000, x1001, x1002))
end
def expr_parser_unary.f (k : Nat) (s0_0 : ByteArray) (s0_1 : Int) (s0_2 : Int) : Option (Int × Int × (List (S24)) × ByteArray × Int × Int) := expr_parser_unary.l0 k 0 s0_0 s0_1 s0_2
theorem expr_parser_unary.mono_l : ∀ k, (∀ y0 y1 y2 y3, LeO (expr_parser_unary.l0 k y0 y1 y2 y3) (expr_parser_unary.l0 (k + 1) y0 y1 y2 y3)) ∧ (∀ y0 y1 y2 y3 y4 y5 y6, LeO (expr_parser_unary.l1 k y0 y1 y2 y3 y4 y5 y6) (expr_parser_unary.l1 (k + 1) y0 y1 y2 y3 y4 y5 y6))
 | 0 => ⟨fun _ _ _ _ r h => by simp [expr_parser_unary.l0] at h, fun _ _ _ _ _ _ _ r h => by simp [expr_parser_unary.l1] at h⟩
 | k + 1 => by
  obtain ⟨ih0, ih1⟩ := expr_parser_unary.mono_l k
  refine ⟨?_, ?_⟩
  ·intro y0 y1 y2 y3
   unfold expr_parser_unary.l0
   repeat' first
   | (with_reducible exact ih0 _ _ _ _)
   | (with_reducible exact ih1 _ _ _ _ _ _ _)
   | (with_reducible exact expr_parser_is.mono _ _ _ _ _)
   | (with_reducible exact expr_parser_postfix.mono _ _ _ _)
   | (with_reducible exact LeO.refl _)
   | (with_reducible exact LeO.none _)
   | (with_reducible refine LeO.ite ?_ ?_)
   | (with_reducible refine LeO.bind ?_ (fun _ => ?_))
   | exact ih0 _ _ _ _
   | exact ih1 _ _ _ _ _ _ _
   | exact expr_parser_is.mono _ _ _ _ _
   | exact expr_parser_postfix.mono _ _ _ _
   | exact LeO.none _
   | refine LeO.ite ?_ ?_
   | refine LeO.bind ?_ (fun _ => ?_)
  ·intro y0 y1 y2 y3 y4 y5 y6
   unfold expr_parser_unary.l1
   repeat' first
   | (with_reducible exact ih0 _ _ _ _)
   | (with_reducible exact ih1 _ _ _ _ _ _ _)
   | (with_reducible exact expr_parser_is.mono _ _ _ _ _)
   | (with_reducible exact expr_parser_postfix.mono _ _ _ _)
   | (with_reducible exact LeO.refl _)
   | (with_reducible exact LeO.none _)
   | (with_reducible refine LeO.ite ?_ ?_)
   | (with_reducible refine LeO.bind ?_ (fun _ => ?_))
   | exact ih0 _ _ _ _
   | exact ih1 _ _ _ _ _ _ _
   | exact expr_parser_is.mono _ _ _ _ _
   | exact expr_parser_postfix.mono _ _ _ _
   | exact LeO.none _
   | refine LeO.ite ?_ ?_
   | refine LeO.bind ?_ (fun _ => ?_)
theorem expr_parser_unary.mono : ∀ a0 a1 a2 k, LeO (expr_parser_unary.f k a0 a1 a2) (expr_parser_unary.f (k + 1) a0 a1 a2) := by
 intro a0 a1 a2 k
 obtain ⟨ih0, ih1⟩ := expr_parser_unary.mono_l k
 unfold expr_parser_unary.f
 repeat' first
   | (with_reducible exact ih0 _ _ _ _)
   | (with_reducible exact ih1 _ _ _ _ _ _ _)
   | (with_reducible exact expr_parser_is.mono _ _ _ _ _)
   | (with_reducible exact expr_parser_postfix.mono _ _ _ _)
   | (with_reducible exact LeO.refl _)
   | (with_reducible exact LeO.none _)
   | (with_reducible refine LeO.ite ?_ ?_)
   | (with_reducible refine LeO.bind ?_ (fun _ => ?_))
   | exact ih0 _ _ _ _
   | exact ih1 _ _ _ _ _ _ _
   | exact expr_parser_is.mono _ _ _ _ _
   | exact expr_parser_postfix.mono _ _ _ _
   | exact LeO.none _
   | refine LeO.ite ?_ ?_
   | refine LeO.bind ?_ (fun _ => ?_)
set_option maxHeartbeats 8000000 in
set_option maxRecDepth 100000 in
theorem expr_parser_unary.calls (k : Nat) (g : Nat) (s0_0 : ByteArray) (s0_1 : Int) (s0_2 : Int) (r1 : Int) (r2 : Int) (r3 : List (S24)) (r4 : ByteArray) (r5 : Int) (r6 : Int) (w0 w : World) (hI : IsS50 w0 w g s0_0 s0_1 s0_2) (hB : Below w0.heap.size w0 w) (h : expr_parser_unary.f k s0_0 s0_1 s0_2 = some (r1, r2, r3, r4, r5, r6)) :
  Calls Try.prog 92 #[.pointer (some ⟨g, 0, none⟩)] w fun e w' => ∃ v2_ : Value, e = .returned (.agg #[.int .i64 r1, .int .i64 r2, v2_]) ∧ Kd.V k24 24 w' w.heap.size (fun k_ => (w.heap.size ≤ k_)) v2_ r3 ∧ IsS50 w0 w' g r4 r5 r6 ∧ Below w0.heap.size w0 w' ∧ KeepBut w w' g none := by
 have hu24 := Try.underlying24
 have HI0 := Aside0.mk hI
 have HK := Aside0.mk (KeepBut.refl w g none)
 have HL := Aside0.mk hB.size
 clear hI
 have HW0 := Aside0.mk hB.size
 have HB := Aside0.mk hB
 clear hB
 have H : (expr_parser_unary.l0 k 0 s0_0 s0_1 s0_2) = some (r1, r2, r3, r4, r5, r6) := h
 clear h
 have H' := Aside0.mk H
 clear H
 go_enter Try.func92, Try.ntmps92
 go_wp2_with (first | ((with_reducible refine gate_dst (N := 2) rfl ?_); refine box_event ?hg (N := 2) ?hd (cs := #[.int .i64 0, .int .i64 0, .slice none 0 0]) (t := 24) ?hr ?_; (case hd => rfl); (case hg => rfl); (case hr => first | (go_simp; done) | (go_simp; rfl)); intro gb225 hg w2 hbox hb; have n0_ := Aside0.mk (IsS50.below (by repeat (first | (with_reducible first | exact HI0.out | apply IsS50.alloc | apply IsS50.drewN | apply IsS50.drew | apply IsS50.set_0 | apply IsS50.set_1 | apply IsS50.set_2) | exact HI0.out)) hb); have n1_ := Aside0.mk (KeepBut.trans (kK) (KeepBut.of_below hb g none) (.inl rfl)); have n2_ := Aside0.mk (below_step (by repeat (first | (with_reducible first | exact HB.out | apply below_alloc | apply pw_below_drewN | apply below_drew1 | refine below_set ?_ (IsS50.ge HI0.out)) | exact HB.out)) hb); have n3_ := Aside0.mk (hbox); have n4_ := Aside0.mk ((by rw [hg]; exact (keep_size (w := w) (g := g) (row := none) (kK)) : w.heap.size ≤ gb225)); have n5_ := Aside0.mk ((Nat.le_trans HW0.out (by rw [hg]; exact (keep_size (w := w) (g := g) (row := none) (kK)) : w.heap.size ≤ gb225) : w0.heap.size ≤ gb225)); have n6_ := Aside0.mk ((by rw [hg]; exact Nat.ne_of_lt (IsS50.lt (show IsS50 w0 _ g s0_0 s0_1 s0_2 from by repeat (first | (with_reducible first | exact HI0.out | apply IsS50.alloc | apply IsS50.drewN | apply IsS50.drew | apply IsS50.set_0 | apply IsS50.set_1 | apply IsS50.set_2) | exact HI0.out))) : g ≠ gb225)); have n7_ := Aside0.mk ((by rw [hg]; exact Nat.ne_of_gt (IsS50.lt (show IsS50 w0 _ g s0_0 s0_1 s0_2 from by repeat (first | (with_reducible first | exact HI0.out | apply IsS50.alloc | apply IsS50.drewN | apply IsS50.drew | apply IsS50.set_0 | apply IsS50.set_1 | apply IsS50.set_2) | exact HI0.out))) : gb225 ≠ g)); clear HI0; clear HK; clear HB; have HI0 := n0_; have HK := n1_; have HB := n2_; have BK225 := n3_; have GW225 := n4_; have GE225 := n5_; have NB0_225 := n6_; have NB225_0 := n7_; clear n0_ n1_ n2_ n3_ n4_ n5_ n6_ n7_; clear hb hbox hg))
 go_loopg [3] k (fun kq v3 w' => ∃ (x3_1 : Int) (x1000_1 : ByteArray) (x1001_1 : Int) (x1002_1 : Int), v3 = .int .i64 x3_1 ∧ Aside0 (expr_parser_unary.l0 kq x3_1 x1000_1 x1001_1 x1002_1 = some (r1, r2, r3, r4, r5, r6)) ∧ Aside0 (kq ≤ k) ∧ Aside0 (w'.heap[gb225]? = some (.cells #[.int .i64 0, .int .i64 0, (.slice none 0 0)] 24 (0, 0))) ∧ Aside0 (IsS50 w0 w' g x1000_1 x1001_1 x1002_1) ∧ Aside0 (KeepBut w w' g none) ∧ Aside0 (Below w0.heap.size w0 w'))
 case atStart => exact ⟨(0), (s0_0), (s0_1), (s0_2), (by first | rfl | (simp; done) | (simp [*]; done)), H', ⟨Nat.le_refl _⟩, ⟨bK⟩, ⟨by repeat (first | (with_reducible first | exact HI0.out | apply IsS50.alloc | apply IsS50.drewN | apply IsS50.drew | apply IsS50.set_0 | apply IsS50.set_1 | apply IsS50.set_2 | refine IsS50.far ?_ NB0_225.out _) | exact HI0.out)⟩, ⟨kK⟩, ⟨by repeat (first | (with_reducible first | exact HB.out | apply below_alloc | apply pw_below_drewN | apply below_drew1 | refine below_set ?_ (IsS50.ge HI0.out) | refine below_set ?_ GE225.out) | exact HB.out)⟩⟩
 case round =>
  clear H'
  try clear p2
  obtain ⟨x3_1, x1000_1, x1001_1, x1002_1, rfl, HA, HK1, BK225, HI0, HK, HB⟩ := hrel
  cases gk with
  | zero => exact absurd HA.out (by simp [expr_parser_unary.l0])
  | succ k1 =>
   have H := HA.out
   clear HA
   simp only [expr_parser_unary.l0] at H
   replace H := Option.bind_eq_some_iff.mp H
   obtain ⟨⟨t226, t227, t228, t229⟩, A30, H⟩ := H
   replace H : (if t226 = true then (expr_parser_unary.l0 k1 (wrap64 (x3_1 + 1)) t227 t228 (wrap64 (t229 + 1))) else ((expr_parser_postfix.f k1 t227 t228 t229).bind fun bt230 => (expr_parser_unary.l1 k1 x3_1 bt230.2.2.2.1 bt230.2.2.2.2.1 bt230.2.2.2.2.2 bt230.1 bt230.2.1 bt230.2.2.1))) = some (r1, r2, r3, r4, r5, r6) := H
   have A3 := Aside0.mk A30
   clear A30
   by_cases c4 : t226 = true
   ·subst c4
    have H1 : (expr_parser_unary.l0 k1 (wrap64 (x3_1 + 1)) t227 t228 (wrap64 (t229 + 1))) = some (r1, r2, r3, r4, r5, r6) := by rw [if_pos rfl] at H; exact H
    clear H
    have H := H1
    clear H1
    have H' := Aside0.mk H
    clear H
    go_wp2_with (first | ((with_reducible refine gate_callee (f := 83) rfl ?_); refine goesL_ (some 6) rfl rfl Try.func83 (by kernel_rfl) rfl #[.pointer (some ⟨g, 0, none⟩), .int .u8 33] rfl (by (try simp only [List.map_toArray, List.map_cons, List.map_nil]); first | done | rfl | (simp only [List.length_drop, List.length_take]; rfl) | (simp only [Int.ofNat_lt, Int.ofNat_le]; rfl)) ?_; (with_reducible refine (expr_parser_is.calls k1 g x1000_1 x1001_1 x1002_1 33 true t227 t228 t229 w0 _ ?side1 ?side2 A3.out).mono ?_); (case side1 => repeat (first | (with_reducible first | exact HI0.out | apply IsS50.alloc | apply IsS50.drewN | apply IsS50.drew | apply IsS50.set_0 | apply IsS50.set_1 | apply IsS50.set_2 | refine IsS50.far ?_ NB0_225.out _) | exact HI0.out)); (case side2 => repeat (first | (with_reducible first | exact HB.out | apply below_alloc | apply pw_below_drewN | apply below_drew1 | refine below_set ?_ (IsS50.ge HI0.out) | refine below_set ?_ GE225.out) | exact HB.out)); rintro e w5 ⟨rfl, hi, hb, hk⟩; refine ⟨_, rfl, ?_⟩; have n0_ := Aside0.mk (KeepBut.blk hk (g' := gb225) (o := .cells #[.int .i64 0, .int .i64 0, .slice none 0 0] 24 (0, 0)) (bK) NB225_0.out (by simp)); have n1_ := Aside0.mk (KeepBut.trans (kK) hk (.inl rfl)); have n2_ := Aside0.mk (hb); have n3_ := Aside0.mk (hi); clear BK225; clear HK; clear HB; clear HI0; have BK225 := n0_; have HK := n1_; have HB := n2_; have HI0 := n3_; clear n0_ n1_ n2_ n3_; (try clear hb); (try clear hb2); (try clear hk); (try clear hi); obtain ⟨HGz6, hgz6⟩ := HI0.out; have hcz6_0 := cellS50_0 HGz6; have hcz6_1 := cellS50_1 HGz6; have hcz6_2 := cellS50_2 HGz6; have hfz6_0 := blk_frozen HGz6 0; have hfz6_1 := blk_frozen HGz6 1; have hfz6_2 := blk_frozen HGz6 2; clear HGz6 hgz6))
    (first | go_roundg k1 | ((simp only [add_plain] at *); go_roundg k1))
    case measure => have := HK1.out; omega
    case rel => exact ⟨(wrap64 (x3_1 + 1)), (t227), (t228), (wrap64 (t229 + 1)), (by first | rfl | (simp; done) | (simp [*]; done)), H', ⟨by have := HK1.out; omega⟩, ⟨by (with_reducible repeat (first | refine blk_drewN ?_ _ | refine blk_drew ?_ | refine blk_alloc ?_ _)); refine blk_far ?_ NB225_0.out _; (with_reducible repeat (first | refine blk_drewN ?_ _ | refine blk_drew ?_ | refine blk_alloc ?_ _)); exact BK225.out⟩, ⟨by repeat (first | (with_reducible first | exact HI0.out | apply IsS50.alloc | apply IsS50.drewN | apply IsS50.drew | apply IsS50.set_0 | apply IsS50.set_1 | apply IsS50.set_2 | refine IsS50.far ?_ NB0_225.out _) | exact HI0.out)⟩, ⟨kK⟩, ⟨by repeat (first | (with_reducible first | exact HB.out | apply below_alloc | apply pw_below_drewN | apply below_drew1 | refine below_set ?_ (IsS50.ge HI0.out) | refine below_set ?_ GE225.out) | exact HB.out)⟩⟩
   ·replace c4 := Bool.eq_false_iff.mpr c4
    subst c4
    have H1 : ((expr_parser_postfix.f k1 t227 t228 t229).bind fun bt230 => (expr_parser_unary.l1 k1 x3_1 bt230.2.2.2.1 bt230.2.2.2.2.1 bt230.2.2.2.2.2 bt230.1 bt230.2.1 bt230.2.2.1)) = some (r1, r2, r3, r4, r5, r6) := by rw [if_neg (show ¬ (false = true) by decide)] at H; exact H
    clear H
    have H := H1
    clear H1
    replace H := Option.bind_eq_some_iff.mp H
    obtain ⟨⟨t230, t231, t232, t235, t236, t237⟩, A70, H⟩ := H
    replace H : (expr_parser_unary.l1 k1 x3_1 t235 t236 t237 t230 t231 t232) = some (r1, r2, r3, r4, r5, r6) := H
    have A7 := Aside0.mk A70
    clear A70
    have H' := Aside0.mk H
    clear H
    go_wp2_with (first | ((with_reducible refine gate_callee (f := 83) rfl ?_); refine goesL_ (some 6) rfl rfl Try.func83 (by kernel_rfl) rfl #[.pointer (some ⟨g, 0, none⟩), .int .u8 33] rfl (by (try simp only [List.map_toArray, List.map_cons, List.map_nil]); first | done | rfl | (simp only [List.length_drop, List.length_take]; rfl) | (simp only [Int.ofNat_lt, Int.ofNat_le]; rfl)) ?_; (with_reducible refine (expr_parser_is.calls k1 g x1000_1 x1001_1 x1002_1 33 false t227 t228 t229 w0 _ ?side1 ?side2 A3.out).mono ?_); (case side1 => repeat (first | (with_reducible first | exact HI0.out | apply IsS50.alloc | apply IsS50.drewN | apply IsS50.drew | apply IsS50.set_0 | apply IsS50.set_1 | apply IsS50.set_2 | refine IsS50.far ?_ NB0_225.out _) | exact HI0.out)); (case side2 => repeat (first | (with_reducible first | exact HB.out | apply below_alloc | apply pw_below_drewN | apply below_drew1 | refine below_set ?_ (IsS50.ge HI0.out) | refine below_set ?_ GE225.out) | exact HB.out)); rintro e w8 ⟨rfl, hi, hb, hk⟩; refine ⟨_, rfl, ?_⟩; have n0_ := Aside0.mk (KeepBut.blk hk (g' := gb225) (o := .cells #[.int .i64 0, .int .i64 0, .slice none 0 0] 24 (0, 0)) (bK) NB225_0.out (by simp)); have n1_ := Aside0.mk (KeepBut.trans (kK) hk (.inl rfl)); have n2_ := Aside0.mk (hb); have n3_ := Aside0.mk (hi); clear BK225; clear HK; clear HB; clear HI0; have BK225 := n0_; have HK := n1_; have HB := n2_; have HI0 := n3_; clear n0_ n1_ n2_ n3_; (try clear hb); (try clear hb2); (try clear hk); (try clear hi)) | ((with_reducible refine gate_callee (f := 96) rfl ?_); (fail_if_success (have chk_ := HO234)); refine goesL_ (some 17) rfl rfl Try.func96 (by kernel_rfl) rfl #[.pointer (some ⟨g, 0, none⟩)] rfl (by (try simp only [List.map_toArray, List.map_cons, List.map_nil]); first | done | rfl | (simp only [List.length_drop, List.length_take]; rfl) | (simp only [Int.ofNat_lt, Int.ofNat_le]; rfl)) ?_; (with_reducible refine (expr_parser_postfix.calls k1 g t227 t228 t229 t230 t231 t232 t235 t236 t237 w0 _ ?side1 ?side2 A7.out).mono ?_); (case side1 => repeat (first | (with_reducible first | exact HI0.out | apply IsS50.alloc | apply IsS50.drewN | apply IsS50.drew | apply IsS50.set_0 | apply IsS50.set_1 | apply IsS50.set_2 | refine IsS50.far ?_ NB0_225.out _) | exact HI0.out)); (case side2 => repeat (first | (with_reducible first | exact HB.out | apply below_alloc | apply pw_below_drewN | apply below_drew1 | refine below_set ?_ (IsS50.ge HI0.out) | refine below_set ?_ GE225.out) | exact HB.out)); rintro e w9 ⟨v233, rfl, ho0, hi, hb, hk⟩; refine ⟨_, rfl, ?_⟩; have n0_ := Aside0.mk (KeepBut.blk hk (g' := gb225) (o := .cells #[.int .i64 0, .int .i64 0, .slice none 0 0] 24 (0, 0)) (bK) NB225_0.out (by simp)); have n1_ := Aside0.mk (Kd.V_lower (Kd.V_mono (ok' := fun k_ => (w.heap.size ≤ k_) ∧ k_ ≠ gb225 ∧ k_ ≠ g) ho0 (fun k_ hk_ => ⟨(Nat.le_trans (keep_size (w := w) (g := g) (row := none) (kK)) hk_), (Kd.freshB (g := gb225) (o := .cells #[.int .i64 0, .int .i64 0, .slice none 0 0] 24 (0, 0)) (bK) k_ hk_), (IsS50.fresh (by repeat (first | (with_reducible first | exact HI0.out | apply IsS50.alloc | apply IsS50.drewN | apply IsS50.drew | apply IsS50.set_0 | apply IsS50.set_1 | apply IsS50.set_2 | refine IsS50.far ?_ NB0_225.out _) | exact HI0.out)) k_ hk_)⟩)) (keep_size (w := w) (g := g) (row := none) (kK))); have n2_ := Aside0.mk (KeepBut.trans (kK) hk (.inl rfl)); have n3_ := Aside0.mk (hb); have n4_ := Aside0.mk (hi); clear BK225; clear HK; clear HB; clear HI0; have BK225 := n0_; have HO234 := n1_; have HK := n2_; have HB := n3_; have HI0 := n4_; clear n0_ n1_ n2_ n3_ n4_; (try clear hb); (try clear hb2); (try clear hk); (try clear hi); (try clear ho0)) | ((with_reducible refine gate_dst (N := 4) rfl ?_); refine box_event ?hg (N := 4) ?hd (cs := #[.int .i64 0, .int .i64 0, .slice none 0 0]) (t := 24) ?hr ?_; (case hd => rfl); (case hg => rfl); (case hr => first | (go_simp; done) | (go_simp; rfl)); intro gb238 hg w10 hbox hb; have n0_ := Aside0.mk (Kd.V_below (Kd.V_elderB (by (with_reducible repeat (first | apply Kd.V_alloc | apply Kd.V_drewN | apply Kd.V_drew)); exact HO234.out) gb238 (Nat.le_of_eq hg.symm)) hb); have n1_ := Aside0.mk (blk_below (g := gb225) (o := .cells #[.int .i64 0, .int .i64 0, .slice none 0 0] 24 (0, 0)) (bK) hb); have n2_ := Aside0.mk (IsS50.below (by repeat (first | (with_reducible first | exact HI0.out | apply IsS50.alloc | apply IsS50.drewN | apply IsS50.drew | apply IsS50.set_0 | apply IsS50.set_1 | apply IsS50.set_2 | refine IsS50.far ?_ NB0_225.out _) | exact HI0.out)) hb); have n3_ := Aside0.mk (KeepBut.trans (kK) (KeepBut.of_below hb g none) (.inl rfl)); have n4_ := Aside0.mk (below_step (by repeat (first | (with_reducible first | exact HB.out | apply below_alloc | apply pw_below_drewN | apply below_drew1 | refine below_set ?_ (IsS50.ge HI0.out) | refine below_set ?_ GE225.out) | exact HB.out)) hb); have n5_ := Aside0.mk (hbox); have n6_ := Aside0.mk ((by rw [hg]; exact (keep_size (w := w) (g := g) (row := none) (kK)) : w.heap.size ≤ gb238)); have n7_ := Aside0.mk ((Nat.le_trans HW0.out (by rw [hg]; exact (keep_size (w := w) (g := g) (row := none) (kK)) : w.heap.size ≤ gb238) : w0.heap.size ≤ gb238)); have n8_ := Aside0.mk ((by rw [hg]; exact Nat.ne_of_lt (blk_lt (g := gb225) (o := .cells #[.int .i64 0, .int .i64 0, .slice none 0 0] 24 (0, 0)) (bK)) : gb225 ≠ gb238)); have n9_ := Aside0.mk ((by rw [hg]; exact Nat.ne_of_gt (blk_lt (g := gb225) (o := .cells #[.int .i64 0, .int .i64 0, .slice none 0 0] 24 (0, 0)) (bK)) : gb238 ≠ gb225)); have n10_ := Aside0.mk ((by rw [hg]; exact Nat.ne_of_lt (IsS50.lt (show IsS50 w0 _ g t235 t236 t237 from by repeat (first | (with_reducible first | exact HI0.out | apply IsS50.alloc | apply IsS50.drewN | apply IsS50.drew | apply IsS50.set_0 | apply IsS50.set_1 | apply IsS50.set_2 | refine IsS50.far ?_ NB0_225.out _) | exact HI0.out))) : g ≠ gb238)); have n11_ := Aside0.mk ((by rw [hg]; exact Nat.ne_of_gt (IsS50.lt (show IsS50 w0 _ g t235 t236 t237 from by repeat (first | (with_reducible first | exact HI0.out | apply IsS50.alloc | apply IsS50.drewN | apply IsS50.drew | apply IsS50.set_0 | apply IsS50.set_1 | apply IsS50.set_2 | refine IsS50.far ?_ NB0_225.out _) | exact HI0.out))) : gb238 ≠ g)); clear HO234; clear BK225; clear HI0; clear HK; clear HB; have HO234 := n0_; have BK225 := n1_; have HI0 := n2_; have HK := n3_; have HB := n4_; have BK238 := n5_; have GW238 := n6_; have GE238 := n7_; have NB225_238 := n8_; have NB238_225 := n9_; have NB0_238 := n10_; have NB238_0 := n11_; clear n0_ n1_ n2_ n3_ n4_ n5_ n6_ n7_ n8_ n9_ n10_ n11_; clear hb hbox hg; have hnb11 := NB238_225.out; have hnc11 := NB225_238.out; have hnb12 := NB238_0.out; have hnc12 := NB0_238.out; have hcz13_0 : w10.cell? ⟨gb238, 0, none⟩ = some (.int .i64 0) := (blk_cell BK238.out 0).trans rfl; have hcz13_1 : w10.cell? ⟨gb238, 1, none⟩ = some (.int .i64 0) := (blk_cell BK238.out 1).trans rfl; have hcz13_2 : w10.cell? ⟨gb238, 2, none⟩ = some (.slice none 0 0) := (blk_cell BK238.out 2).trans rfl; have hfz13_0 := blk_frozen BK238.out 0; have hfz13_1 := blk_frozen BK238.out 1; have hfz13_2 := blk_frozen BK238.out 2; obtain ⟨Ao14, co14, eo14⟩ := Kd.V_slice HO234.out; subst eo14))
    go_loopg [3] k1 (fun kq v3 w' => ∃ (x3_2 : Int) (x239000_2 : Int) (x239001_2 : Int) (x239002_2 : List (S24)) (u239002 : Value), v3 = .int .i64 x3_2 ∧ Aside0 (expr_parser_unary.l1 kq x3_2 t235 t236 t237 x239000_2 x239001_2 x239002_2 = some (r1, r2, r3, r4, r5, r6)) ∧ Aside0 (kq ≤ k1) ∧ Aside0 (Kd.V k24 24 w' w.heap.size (fun k_ => (w.heap.size ≤ k_) ∧ k_ ≠ gb225 ∧ k_ ≠ gb238 ∧ k_ ≠ g) u239002 x239002_2) ∧ Aside0 (w'.heap[gb225]? = some (.cells #[.int .i64 0, .int .i64 0, (.slice none 0 0)] 24 (0, 0))) ∧ Aside0 (w'.heap[gb238]? = some (.cells #[.int .i64 x239000_2, .int .i64 x239001_2, u239002] 24 (0, 0))) ∧ Aside0 (IsS50 w0 w' g t235 t236 t237) ∧ Aside0 (KeepBut w w' g none) ∧ Aside0 (Below w0.heap.size w0 w'))
    case atStart => exact ⟨(x3_1), (t230), (t231), (t232), (.slice Ao14 t232.length co14), (by first | rfl | (simp; done) | (simp [*]; done)), H', ⟨Nat.le_refl _⟩, ⟨by (with_reducible repeat (first | apply Kd.V_alloc | apply Kd.V_drewN | apply Kd.V_drew)); exact Kd.V_mono (Kd.V_far (p := ⟨gb238, 2, none⟩) (Kd.V_far (p := ⟨gb238, 1, none⟩) (Kd.V_far (p := ⟨gb238, 0, none⟩) (Kd.V_mono HO234.out (fun k_ hk => (⟨hk, hk.2⟩ : _ ∧ k_ ≠ gb238))) (fun _ hk => hk.2) (.int .i64 t230)) (fun _ hk => hk.2) (.int .i64 t231)) (fun _ hk => hk.2) (.slice Ao14 t232.length co14)) (fun _ hk => ⟨hk.1.1.1, ⟨hk.1.1.2.1, ⟨hk.1.2, hk.1.1.2.2⟩⟩⟩)⟩, ⟨by (with_reducible repeat (first | refine blk_drewN ?_ _ | refine blk_drew ?_ | refine blk_alloc ?_ _)); refine blk_far ?_ NB225_238.out _; (with_reducible repeat (first | refine blk_drewN ?_ _ | refine blk_drew ?_ | refine blk_alloc ?_ _)); refine blk_far ?_ NB225_238.out _; (with_reducible repeat (first | refine blk_drewN ?_ _ | refine blk_drew ?_ | refine blk_alloc ?_ _)); refine blk_far ?_ NB225_238.out _; (with_reducible repeat (first | refine blk_drewN ?_ _ | refine blk_drew ?_ | refine blk_alloc ?_ _)); exact BK225.out⟩, ⟨by (with_reducible repeat (first | refine blk_drewN ?_ _ | refine blk_drew ?_ | refine blk_alloc ?_ _)); refine blk_put (cs := #[.int .i64 t230, .int .i64 t231, .slice none 0 0]) ?_ 2 _ rfl; (with_reducible repeat (first | refine blk_drewN ?_ _ | refine blk_drew ?_ | refine blk_alloc ?_ _)); refine blk_put (cs := #[.int .i64 t230, .int .i64 0, .slice none 0 0]) ?_ 1 _ rfl; (with_reducible repeat (first | refine blk_drewN ?_ _ | refine blk_drew ?_ | refine blk_alloc ?_ _)); refine blk_put (cs := #[.int .i64 0, .int .i64 0, .slice none 0 0]) ?_ 0 _ rfl; (with_reducible repeat (first | refine blk_drewN ?_ _ | refine blk_drew ?_ | refine blk_alloc ?_ _)); exact BK238.out⟩, ⟨by repeat (first | (with_reducible first | exact HI0.out | apply IsS50.alloc | apply IsS50.drewN | apply IsS50.drew | apply IsS50.set_0 | apply IsS50.set_1 | apply IsS50.set_2 | refine IsS50.far ?_ NB0_225.out _ | refine IsS50.far ?_ NB0_238.out _) | exact HI0.out)⟩, ⟨kK⟩, ⟨by repeat (first | (with_reducible first | exact HB.out | apply below_alloc | apply pw_below_drewN | apply below_drew1 | refine below_set ?_ (IsS50.ge HI0.out) | refine below_set ?_ GE225.out | refine below_set ?_ GE238.out) | exact HB.out)⟩⟩
    case round =>
     clear H'
     try clear c1
     try clear p2
     try clear c4
     try clear p6
     try clear c8
     try clear c9
     try clear c11
     try clear c12
     try clear hcz13_0
     try clear hcz13_1
     try clear hcz13_2
     try clear hcz6_0
     try clear hcz6_1
     try clear hcz6_2
     try clear hfz13_0
     try clear hfz13_1
     try clear hfz13_2
     try clear hfz6_0
     try clear hfz6_1
     try clear hfz6_2
     try clear p2
     obtain ⟨x3_2, x239000_2, x239001_2, x239002_2, u239002, rfl, HA, HK2, HO_239002, BK225, BK238, HI0, HK, HB⟩ := hrel
     cases gk with
     | zero => exact absurd HA.out (by simp [expr_parser_unary.l1])
     | succ k2 =>
      have H := HA.out
      clear HA
      simp only [expr_parser_unary.l1] at H
      by_cases c15 : x3_2 > 0
      ·rw [if_pos c15] at H
       have c15b0 : decide (0 < x3_2) = true := decide_eq_true c15
       clear c15
       obtain ⟨y239, hy239⟩ : ∃ y_ : List (S24), y_ = (([(⟨x239000_2, x239001_2, x239002_2⟩ : S24)] : List (S24))) := ⟨_, rfl⟩
       replace H : (expr_parser_unary.l1 k2 (wrap64 (x3_2 - 1)) t235 t236 t237 8 0 y239) = some (r1, r2, r3, r4, r5, r6) := by first | (rw [hy239]; with_reducible exact H) | (have H2_ := (Option.bind_some _ _).symm.trans H; rw [hy239]; with_reducible exact H2_) | (have H2_ := (Option.bind_some _ _).symm.trans H; with_reducible exact H2_) | with_reducible exact H | (rw [hy239]; exact H) | exact H
       have Ny239 := Aside0.mk hy239
       clear hy239
       have H' := Aside0.mk H
       clear H
       have hnb16 := NB238_225.out
       have hnc16 := NB225_238.out
       have hnb17 := NB238_0.out
       have hnc17 := NB0_238.out
       have hcz18_0 : wr.cell? ⟨gb238, 0, none⟩ = some (.int .i64 x239000_2) := (blk_cell BK238.out 0).trans rfl
       have hcz18_1 : wr.cell? ⟨gb238, 1, none⟩ = some (.int .i64 x239001_2) := (blk_cell BK238.out 1).trans rfl
       have hcz18_2 : wr.cell? ⟨gb238, 2, none⟩ = some (u239002) := (blk_cell BK238.out 2).trans rfl
       have hfz18_0 := blk_frozen BK238.out 0
       have hfz18_1 := blk_frozen BK238.out 1
       have hfz18_2 := blk_frozen BK238.out 2
       obtain ⟨Ao19, co19, eo19⟩ := Kd.V_slice HO_239002.out
       subst eo19
       go_wp2_with (first | ((with_reducible refine gate_dst (N := 23) rfl ?_); refine Kd.N_lit k24 _ 24 ?hg (N' := 23) ?hd (xs := ([(⟨x239000_2, x239001_2, x239002_2⟩ : S24)] : List (S24))) (inner := [.int .i64 x239000_2, .int .i64 x239001_2, .slice Ao19 x239002_2.length co19]) (ok := (fun k_ => (w.heap.size ≤ k_) ∧ k_ ≠ gb225 ∧ k_ ≠ gb238 ∧ k_ ≠ g)) (okp := (fun k_ => (w.heap.size ≤ k_) ∧ k_ ≠ gb225 ∧ k_ ≠ gb238 ∧ k_ ≠ g)) ?hr ?hp (fun _ hk => hk) ((show ∀ k_, wr.heap.size ≤ k_ → (fun k_ => (w.heap.size ≤ k_) ∧ k_ ≠ gb225 ∧ k_ ≠ gb238 ∧ k_ ≠ g) k_ from fun k_ hk => ⟨(Nat.le_trans (keep_size (w := w) (g := g) (row := none) (kK)) hk), Kd.freshB (g := gb225) (o := .cells #[.int .i64 0, .int .i64 0, .slice none 0 0] 24 (0, 0)) (bK) k_ hk, Kd.freshB (g := gb238) (o := .cells #[.int .i64 x239000_2, .int .i64 x239001_2, .slice Ao19 x239002_2.length co19] 24 (0, 0)) (bK) k_ hk, IsS50.fresh (by repeat (first | (with_reducible first | exact HI0.out | apply IsS50.alloc | apply IsS50.drewN | apply IsS50.drew | apply IsS50.set_0 | apply IsS50.set_1 | apply IsS50.set_2 | refine IsS50.far ?_ NB0_225.out _ | refine IsS50.far ?_ NB0_238.out _) | exact HI0.out)) k_ hk⟩) _ (Nat.le_refl _)) (Below.refl _ _) (Nat.le_refl _) (by simp) ?_; (case hd => rfl); (case hg => rfl); (case hr => first | (go_simp; done) | (go_simp; rfl)); (case hp => exact (Reps.c3 (show Kd.FK k24 _ _ (⟨x239000_2, x239001_2, x239002_2⟩ : S24) [.int .i64 x239000_2, .int .i64 x239001_2, .slice Ao19 x239002_2.length co19] from (k24_mkF _ _ (⟨x239000_2, x239001_2, x239002_2⟩ : S24) (Kd.V_reads' (Kd.V_mono (ok' := (fun k_ => (w.heap.size ≤ k_) ∧ k_ ≠ gb225 ∧ k_ ≠ gb238 ∧ k_ ≠ g)) (HO_239002.out) (fun k_ hk => ⟨hk.1, ⟨hk.2.1, ⟨hk.2.2.1, hk.2.2.2⟩⟩⟩))).2.1 (Kd.V_F (Kd.V_mono (ok' := (fun k_ => (w.heap.size ≤ k_) ∧ k_ ≠ gb225 ∧ k_ ≠ gb238 ∧ k_ ≠ g)) (HO_239002.out) (fun k_ hk => ⟨hk.1, ⟨hk.2.1, ⟨hk.2.2.1, hk.2.2.2⟩⟩⟩))))) (Reps.none _ _))); intro v240 w20 ho21 hb hg_ hnew_; clear hg_ hnew_; (first | rw [← Ny239.out] at ho21 | (simp only [Int.reduceToNat] at ho21; rw [← Ny239.out] at ho21)); have n0_ := Aside0.mk (Kd.V_elder' (by (with_reducible repeat (first | apply Kd.V_alloc | apply Kd.V_drewN | apply Kd.V_drew)); exact HO_239002.out) (Kd.N_base ho21) hb); have n1_ := Aside0.mk (Kd.N_lower ho21 (keep_size (w := w) (g := g) (row := none) (kK))); have n2_ := Aside0.mk (blk_below (g := gb225) (o := .cells #[.int .i64 0, .int .i64 0, .slice none 0 0] 24 (0, 0)) (bK) hb); have n3_ := Aside0.mk (blk_below (g := gb238) (o := .cells #[.int .i64 x239000_2, .int .i64 x239001_2, .slice Ao19 x239002_2.length co19] 24 (0, 0)) (bK) hb); have n4_ := Aside0.mk (IsS50.below (by repeat (first | (with_reducible first | exact HI0.out | apply IsS50.alloc | apply IsS50.drewN | apply IsS50.drew | apply IsS50.set_0 | apply IsS50.set_1 | apply IsS50.set_2 | refine IsS50.far ?_ NB0_225.out _ | refine IsS50.far ?_ NB0_238.out _) | exact HI0.out)) hb); have n5_ := Aside0.mk (KeepBut.trans (kK) (KeepBut.of_below hb g none) (.inl rfl)); have n6_ := Aside0.mk (below_step (by repeat (first | (with_reducible first | exact HB.out | apply below_alloc | apply pw_below_drewN | apply below_drew1 | refine below_set ?_ (IsS50.ge HI0.out) | refine below_set ?_ GE225.out | refine below_set ?_ GE238.out) | exact HB.out)) hb); clear HO_239002; clear BK225; clear BK238; clear HI0; clear HK; clear HB; have HO_239002 := n0_; have HO241 := n1_; have BK225 := n2_; have BK238 := n3_; have HI0 := n4_; have HK := n5_; have HB := n6_; clear n0_ n1_ n2_ n3_ n4_ n5_ n6_; clear hb ho21; obtain ⟨Ao22, co22, eo22⟩ := Kd.N_slice HO241.out; subst eo22; have hcz23_0 : w20.cell? ⟨gb238, 0, none⟩ = some (.int .i64 x239000_2) := (blk_cell BK238.out 0).trans rfl; have hcz23_1 : w20.cell? ⟨gb238, 1, none⟩ = some (.int .i64 x239001_2) := (blk_cell BK238.out 1).trans rfl; have hcz23_2 : w20.cell? ⟨gb238, 2, none⟩ = some (.slice Ao19 x239002_2.length co19) := (blk_cell BK238.out 2).trans rfl; have hfz23_0 := blk_frozen BK238.out 0; have hfz23_1 := blk_frozen BK238.out 1; have hfz23_2 := blk_frozen BK238.out 2))
       (first | go_roundg k2 | ((simp only [add_plain] at *); go_roundg k2))
       case measure => have := HK1.out; have := HK2.out; omega
       case rel => exact ⟨(wrap64 (x3_2 - 1)), (8), (0), (y239), (.slice Ao22 y239.length co22), (by first | rfl | (simp; done) | (simp [*]; done)), H', ⟨by have := HK1.out; have := HK2.out; omega⟩, ⟨Kd.N_V (by (with_reducible repeat (first | apply Kd.N_alloc | apply Kd.N_drewN | apply Kd.N_drew)); exact Kd.N_mono (Kd.N_far (p := ⟨gb238, 2, none⟩) (Kd.N_far (p := ⟨gb238, 1, none⟩) (Kd.N_far (p := ⟨gb238, 0, none⟩) (Kd.N_mono HO241.out (fun k_ hk => (⟨hk, hk.2.2.1⟩ : _ ∧ k_ ≠ gb238))) (fun _ hk => hk.2) (.int .i64 8)) (fun _ hk => hk.2) (.int .i64 0)) (fun _ hk => hk.2) (.slice Ao22 y239.length co22)) (fun _ hk => ⟨hk.1.1, ⟨hk.1.2.1, ⟨hk.1.2.2.1, hk.1.2.2.2⟩⟩⟩))⟩, ⟨by (with_reducible repeat (first | refine blk_drewN ?_ _ | refine blk_drew ?_ | refine blk_alloc ?_ _)); refine blk_far ?_ NB225_238.out _; (with_reducible repeat (first | refine blk_drewN ?_ _ | refine blk_drew ?_ | refine blk_alloc ?_ _)); refine blk_far ?_ NB225_238.out _; (with_reducible repeat (first | refine blk_drewN ?_ _ | refine blk_drew ?_ | refine blk_alloc ?_ _)); refine blk_far ?_ NB225_238.out _; (with_reducible repeat (first | refine blk_drewN ?_ _ | refine blk_drew ?_ | refine blk_alloc ?_ _)); exact BK225.out⟩, ⟨by (with_reducible repeat (first | refine blk_drewN ?_ _ | refine blk_drew ?_ | refine blk_alloc ?_ _)); refine blk_put (cs := #[.int .i64 8, .int .i64 0, .slice Ao19 x239002_2.length co19]) ?_ 2 _ rfl; (with_reducible repeat (first | refine blk_drewN ?_ _ | refine blk_drew ?_ | refine blk_alloc ?_ _)); refine blk_put (cs := #[.int .i64 8, .int .i64 x239001_2, .slice Ao19 x239002_2.length co19]) ?_ 1 _ rfl; (with_reducible repeat (first | refine blk_drewN ?_ _ | refine blk_drew ?_ | refine blk_alloc ?_ _)); refine blk_put (cs := #[.int .i64 x239000_2, .int .i64 x239001_2, .slice Ao19 x239002_2.length co19]) ?_ 0 _ rfl; (with_reducible repeat (first | refine blk_drewN ?_ _ | refine blk_drew ?_ | refine blk_alloc ?_ _)); exact BK238.out⟩, ⟨by repeat (first | (with_reducible first | exact HI0.out | apply IsS50.alloc | apply IsS50.drewN | apply IsS50.drew | apply IsS50.set_0 | apply IsS50.set_1 | apply IsS50.set_2 | refine IsS50.far ?_ NB0_225.out _ | refine IsS50.far ?_ NB0_238.out _) | exact HI0.out)⟩, ⟨kK⟩, ⟨by repeat (first | (with_reducible first | exact HB.out | apply below_alloc | apply pw_below_drewN | apply below_drew1 | refine below_set ?_ (IsS50.ge HI0.out) | refine below_set ?_ GE225.out | refine below_set ?_ GE238.out) | exact HB.out)⟩⟩
      ·rw [if_neg c15] at H
       have c15b0 : decide (0 < x3_2) = false := decide_eq_false c15
       clear c15
       simp only [Option.some.injEq, Prod.mk.injEq] at H
       obtain ⟨rfl, rfl, rfl, rfl, rfl, rfl⟩ := H
       have hnb24 := NB238_225.out
       have hnc24 := NB225_238.out
       have hnb25 := NB238_0.out
       have hnc25 := NB0_238.out
       have hcz26_0 : wr.cell? ⟨gb238, 0, none⟩ = some (.int .i64 x239000_2) := (blk_cell BK238.out 0).trans rfl
       have hcz26_1 : wr.cell? ⟨gb238, 1, none⟩ = some (.int .i64 x239001_2) := (blk_cell BK238.out 1).trans rfl
       have hcz26_2 : wr.cell? ⟨gb238, 2, none⟩ = some (u239002) := (blk_cell BK238.out 2).trans rfl
       have hfz26_0 := blk_frozen BK238.out 0
       have hfz26_1 := blk_frozen BK238.out 1
       have hfz26_2 := blk_frozen BK238.out 2
       have hnb27 := NB225_0.out
       have hnc27 := NB0_225.out
       have hcz28_0 : wr.cell? ⟨gb225, 0, none⟩ = some (.int .i64 0) := (blk_cell BK225.out 0).trans rfl
       have hcz28_1 : wr.cell? ⟨gb225, 1, none⟩ = some (.int .i64 0) := (blk_cell BK225.out 1).trans rfl
       have hcz28_2 : wr.cell? ⟨gb225, 2, none⟩ = some (.slice none 0 0) := (blk_cell BK225.out 2).trans rfl
       have hfz28_0 := blk_frozen BK225.out 0
       have hfz28_1 := blk_frozen BK225.out 1
       have hfz28_2 := blk_frozen BK225.out 2
       obtain ⟨Ao29, co29, eo29⟩ := Kd.V_slice HO_239002.out
       subst eo29
       go_wp2
       refine bodyPost_ret (results_cell_row rfl _ _ gb225 24 #[.int .i64 x239000_2, .int .i64 x239001_2, .slice Ao29 x239002_2.length co29] (0, 0) _ rfl (by (with_reducible repeat (first | refine blk_drewN ?_ _ | refine blk_drew ?_ | refine blk_alloc ?_ _)); refine blk_put (cs := #[.int .i64 x239000_2, .int .i64 x239001_2, .slice none 0 0]) ?_ 2 _ rfl; (with_reducible repeat (first | refine blk_drewN ?_ _ | refine blk_drew ?_ | refine blk_alloc ?_ _)); refine blk_put (cs := #[.int .i64 x239000_2, .int .i64 0, .slice none 0 0]) ?_ 1 _ rfl; (with_reducible repeat (first | refine blk_drewN ?_ _ | refine blk_drew ?_ | refine blk_alloc ?_ _)); refine blk_put (cs := #[.int .i64 0, .int .i64 0, .slice none 0 0]) ?_ 0 _ rfl; (with_reducible repeat (first | refine blk_drewN ?_ _ | refine blk_drew ?_ | refine blk_alloc ?_ _)); exact BK225.out) Try.underlying24 rfl (by kernel_rfl)) rfl ?_
       exact ⟨_, by first | rfl | (simp [errW_none, errW_some] <;> rfl) | (simp [*, errW_none, errW_some] <;> rfl), by (with_reducible repeat (first | apply Kd.V_alloc | apply Kd.V_drewN | apply Kd.V_drew)); exact Kd.V_mono (Kd.V_far (p := ⟨gb225, 2, none⟩) (Kd.V_far (p := ⟨gb225, 1, none⟩) (Kd.V_far (p := ⟨gb225, 0, none⟩) (Kd.V_mono HO_239002.out (fun k_ hk => (⟨hk, hk.2.1⟩ : _ ∧ k_ ≠ gb225))) (fun _ hk => hk.2) (.int .i64 x239000_2)) (fun _ hk => hk.2) (.int .i64 x239001_2)) (fun _ hk => hk.2) (.slice Ao29 x239002_2.length co29)) (fun _ hk => hk.1.1), by repeat (first | (with_reducible first | exact HI0.out | apply IsS50.alloc | apply IsS50.drewN | apply IsS50.drew | apply IsS50.set_0 | apply IsS50.set_1 | apply IsS50.set_2 | refine IsS50.far ?_ NB0_225.out _ | refine IsS50.far ?_ NB0_238.out _) | exact HI0.out), by repeat (first | (with_reducible first | exact HB.out | apply below_alloc | apply pw_below_drewN | apply below_drew1 | refine below_set ?_ (IsS50.ge HI0.out) | refine below_set ?_ GE225.out | refine below_set ?_ GE238.out) | exact HB.out), kK⟩
end Go.Proofs.Ytjofkebiacaciaa.PAll
end
section
namespace Go.Proofs.Ytjofkebiacaciaa.PAll
open Go.RowKit Go.Proofs.YtjofkebiacaciaaW.PrintWords Go.Proofs.YtjofkebiacaciaaW.PrintLast Go.Proofs.YtjofkebiacaciaaW.PrintMore
attribute [local go_sem] max2_int min2_int max_two min_two max_three min_three max_four min_four
set_option linter.unusedVariables false
set_option linter.unusedSimpArgs false
def expr_parser_begins.f (k : Nat) (s0_0 : ByteArray) (s0_1 : Int) (s0_2 : Int) : Option (Bool × ByteArray × Int × Int) := (expr_parser_is.f k s0_0 s0_1 s0_2 33).bind fun bt242 => (if bt242.1 = true then (some (true, bt242.2.1, bt242.2.2.1, bt242.2.2.2)) else ((expr_parser_is.f k bt242.2.1 bt242.2.2.1 bt242.2.2.2 48).bind fun bt246 => (if bt246.1 = true then (some (true, bt246.2.1, bt246.2.2.1, bt246.2.2.2)) else ((expr_parser_is.f k bt246.2.1 bt246.2.2.1 bt246.2.2.2 49).bind fun bt250 => (if bt250.1 = true then (some (true, bt250.2.1, bt250.2.2.1, bt250.2.2.2)) else ((expr_parser_is.f k bt250.2.1 bt250.2.2.1 bt250.2.2.2 40).bind fun bt254 => (if bt254.1 = true then (some (true, bt254.2.1, bt254.2.2.1, bt254.2.2.2)) else ((expr_parser_letter.f k bt254.2.1 bt254.2.2.1 bt254.2.2.2).bind fun bt258 => (some (bt258.1, bt258.2.1, bt258.2.2.1, bt258.2.2.2))))))))))
theorem expr_parser_begins.mono : ∀ a0 a1 a2 k, LeO (expr_parser_begins.f k a0 a1 a2) (expr_parser_begins.f (k + 1) a0 a1 a2) := by
 intro a0 a1 a2 k
 unfold expr_parser_begins.f
 repeat' first
   | (with_reducible exact expr_parser_is.mono _ _ _ _ _)
   | (with_reducible exact expr_parser_letter.mono _ _ _ _)
   | (with_reducible exact LeO.refl _)
   | (with_reducible exact LeO.none _)
   | (with_reducible refine LeO.ite ?_ ?_)
   | (with_reducible refine LeO.bind ?_ (fun _ => ?_))
   | exact expr_parser_is.mono _ _ _ _ _
   | exact expr_parser_letter.mono _ _ _ _
   | exact LeO.none _
   | refine LeO.ite ?_ ?_
   | refine LeO.bind ?_ (fun _ => ?_)
set_option maxHeartbeats 8000000 in
set_option maxRecDepth 100000 in
theorem expr_parser_begins.calls (k : Nat) (g : Nat) (s0_0 : ByteArray) (s0_1 : Int) (s0_2 : Int) (r1 : Bool) (r2 : ByteArray) (r3 : Int) (r4 : Int) (w0 w : World) (hI : IsS50 w0 w g s0_0 s0_1 s0_2) (hB : Below w0.heap.size w0 w) (h : expr_parser_begins.f k s0_0 s0_1 s0_2 = some (r1, r2, r3, r4)) :
  Calls Try.prog 93 #[.pointer (some ⟨g, 0, none⟩)] w fun e w' => e = .returned (.bool r1) ∧ IsS50 w0 w' g r2 r3 r4 ∧ Below w0.heap.size w0 w' ∧ KeepBut w w' g none := by
 have HI0 := Aside0.mk hI
 have HK := Aside0.mk (KeepBut.refl w g none)
 have HL := Aside0.mk hB.size
 clear hI
 have HW0 := Aside0.mk hB.size
 have HB := Aside0.mk hB
 clear hB
 have H : ((expr_parser_is.f k s0_0 s0_1 s0_2 33).bind fun bt242 => (if bt242.1 = true then (some (true, bt242.2.1, bt242.2.2.1, bt242.2.2.2)) else ((expr_parser_is.f k bt242.2.1 bt242.2.2.1 bt242.2.2.2 48).bind fun bt246 => (if bt246.1 = true then (some (true, bt246.2.1, bt246.2.2.1, bt246.2.2.2)) else ((expr_parser_is.f k bt246.2.1 bt246.2.2.1 bt246.2.2.2 49).bind fun bt250 => (if bt250.1 = true then (some (true, bt250.2.1, bt250.2.2.1, bt250.2.2.2)) else ((expr_parser_is.f k bt250.2.1 bt250.2.2.1 bt250.2.2.2 40).bind fun bt254 => (if bt254.1 = true then (some (true, bt254.2.1, bt254.2.2.1, bt254.2.2.2)) else ((expr_parser_letter.f k bt254.2.1 bt254.2.2.1 bt254.2.2.2).bind fun bt258 => (some (bt258.1, bt258.2.1, bt258.2.2.1, bt258.2.2.2))))))))))) = some (r1, r2, r3, r4) := h
 clear h
 replace H := Option.bind_eq_some_iff.mp H
 obtain ⟨⟨t242, t243, t244, t245⟩, A20, H⟩ := H
 replace H : (if t242 = true then (some (true, t243, t244, t245)) else ((expr_parser_is.f k t243 t244 t245 48).bind fun bt246 => (if bt246.1 = true then (some (true, bt246.2.1, bt246.2.2.1, bt246.2.2.2)) else ((expr_parser_is.f k bt246.2.1 bt246.2.2.1 bt246.2.2.2 49).bind fun bt250 => (if bt250.1 = true then (some (true, bt250.2.1, bt250.2.2.1, bt250.2.2.2)) else ((expr_parser_is.f k bt250.2.1 bt250.2.2.1 bt250.2.2.2 40).bind fun bt254 => (if bt254.1 = true then (some (true, bt254.2.1, bt254.2.2.1, bt254.2.2.2)) else ((expr_parser_letter.f k bt254.2.1 bt254.2.2.1 bt254.2.2.2).bind fun bt258 => (some (bt258.1, bt258.2.1, bt258.2.2.1, bt258.2.2.2)))))))))) = some (r1, r2, r3, r4) := H
 have A2 := Aside0.mk A20
 clear A20
 by_cases c3 : t242 = true
 ·subst c3
  have H1 : (some (true, t243, t244, t245)) = some (r1, r2, r3, r4) := by rw [if_pos rfl] at H; exact H
  clear H
  have H := H1
  clear H1
  simp only [Option.some.injEq, Prod.mk.injEq] at H
  obtain ⟨rfl, rfl, rfl, rfl⟩ := H
  go_enter Try.func93, Try.ntmps93
  go_wp2_with (first | ((with_reducible refine gate_callee (f := 83) rfl ?_); refine goesL_ (some 4) rfl rfl Try.func83 (by kernel_rfl) rfl #[.pointer (some ⟨g, 0, none⟩), .int .u8 33] rfl (by (try simp only [List.map_toArray, List.map_cons, List.map_nil]); first | done | rfl | (simp only [List.length_drop, List.length_take]; rfl) | (simp only [Int.ofNat_lt, Int.ofNat_le]; rfl)) ?_; (with_reducible refine (expr_parser_is.calls k g s0_0 s0_1 s0_2 33 true t243 t244 t245 w0 _ ?side1 ?side2 A2.out).mono ?_); (case side1 => repeat (first | (with_reducible first | exact HI0.out | apply IsS50.alloc | apply IsS50.drewN | apply IsS50.drew | apply IsS50.set_0 | apply IsS50.set_1 | apply IsS50.set_2) | exact HI0.out)); (case side2 => repeat (first | (with_reducible first | exact HB.out | apply below_alloc | apply pw_below_drewN | apply below_drew1 | refine below_set ?_ (IsS50.ge HI0.out)) | exact HB.out)); rintro e w4 ⟨rfl, hi, hb, hk⟩; refine ⟨_, rfl, ?_⟩; have n0_ := Aside0.mk (KeepBut.trans (kK) hk (.inl rfl)); have n1_ := Aside0.mk (hb); have n2_ := Aside0.mk (hi); clear HK; clear HB; clear HI0; have HK := n0_; have HB := n1_; have HI0 := n2_; clear n0_ n1_ n2_; (try clear hb); (try clear hb2); (try clear hk); (try clear hi)))
  go_ret
  exact ⟨by first | rfl | (simp [errW_none, errW_some] <;> rfl) | (simp [*, errW_none, errW_some] <;> rfl), by repeat (first | (with_reducible first | exact HI0.out | apply IsS50.alloc | apply IsS50.drewN | apply IsS50.drew | apply IsS50.set_0 | apply IsS50.set_1 | apply IsS50.set_2) | exact HI0.out), by repeat (first | (with_reducible first | exact HB.out | apply below_alloc | apply pw_below_drewN | apply below_drew1 | refine below_set ?_ (IsS50.ge HI0.out)) | exact HB.out), kK⟩
 ·replace c3 := Bool.eq_false_iff.mpr c3
  subst c3
  have H1 : ((expr_parser_is.f k t243 t244 t245 48).bind fun bt246 => (if bt246.1 = true then (some (true, bt246.2.1, bt246.2.2.1, bt246.2.2.2)) else ((expr_parser_is.f k bt246.2.1 bt246.2.2.1 bt246.2.2.2 49).bind fun bt250 => (if bt250.1 = true then (some (true, bt250.2.1, bt250.2.2.1, bt250.2.2.2)) else ((expr_parser_is.f k bt250.2.1 bt250.2.2.1 bt250.2.2.2 40).bind fun bt254 => (if bt254.1 = true then (some (true, bt254.2.1, bt254.2.2.1, bt254.2.2.2)) else ((expr_parser_letter.f k bt254.2.1 bt254.2.2.1 bt254.2.2.2).bind fun bt258 => (some (bt258.1, bt258.2.1, bt258.2.2.1, bt258.2.2.2))))))))) = some (r1, r2, r3, r4) := by rw [if_neg (show ¬ (false = true) by decide)] at H; exact H
  clear H
  have H := H1
  clear H1
  replace H := Option.bind_eq_some_iff.mp H
  obtain ⟨⟨t246, t247, t248, t249⟩, A50, H⟩ := H
  replace H : (if t246 = true then (some (true, t247, t248, t249)) else ((expr_parser_is.f k t247 t248 t249 49).bind fun bt250 => (if bt250.1 = true then (some (true, bt250.2.1, bt250.2.2.1, bt250.2.2.2)) else ((expr_parser_is.f k bt250.2.1 bt250.2.2.1 bt250.2.2.2 40).bind fun bt254 => (if bt254.1 = true then (some (true, bt254.2.1, bt254.2.2.1, bt254.2.2.2)) else ((expr_parser_letter.f k bt254.2.1 bt254.2.2.1 bt254.2.2.2).bind fun bt258 => (some (bt258.1, bt258.2.1, bt258.2.2.1, bt258.2.2.2)))))))) = some (r1, r2, r3, r4) := H
  have A5 := Aside0.mk A50
  clear A50
  by_cases c6 : t246 = true
  ·subst c6
   have H1 : (some (true, t247, t248, t249)) = some (r1, r2, r3, r4) := by rw [if_pos rfl] at H; exact H
   clear H
   have H := H1
   clear H1
   simp only [Option.some.injEq, Prod.mk.injEq] at H
   obtain ⟨rfl, rfl, rfl, rfl⟩ := H
   go_enter Try.func93, Try.ntmps93
   go_wp2_with (first | ((with_reducible refine gate_callee (f := 83) rfl ?_); refine goesL_ (some 4) rfl rfl Try.func83 (by kernel_rfl) rfl #[.pointer (some ⟨g, 0, none⟩), .int .u8 33] rfl (by (try simp only [List.map_toArray, List.map_cons, List.map_nil]); first | done | rfl | (simp only [List.length_drop, List.length_take]; rfl) | (simp only [Int.ofNat_lt, Int.ofNat_le]; rfl)) ?_; (with_reducible refine (expr_parser_is.calls k g s0_0 s0_1 s0_2 33 false t243 t244 t245 w0 _ ?side1 ?side2 A2.out).mono ?_); (case side1 => repeat (first | (with_reducible first | exact HI0.out | apply IsS50.alloc | apply IsS50.drewN | apply IsS50.drew | apply IsS50.set_0 | apply IsS50.set_1 | apply IsS50.set_2) | exact HI0.out)); (case side2 => repeat (first | (with_reducible first | exact HB.out | apply below_alloc | apply pw_below_drewN | apply below_drew1 | refine below_set ?_ (IsS50.ge HI0.out)) | exact HB.out)); rintro e w7 ⟨rfl, hi, hb, hk⟩; refine ⟨_, rfl, ?_⟩; have n0_ := Aside0.mk (KeepBut.trans (kK) hk (.inl rfl)); have n1_ := Aside0.mk (hb); have n2_ := Aside0.mk (hi); clear HK; clear HB; clear HI0; have HK := n0_; have HB := n1_; have HI0 := n2_; clear n0_ n1_ n2_; (try clear hb); (try clear hb2); (try clear hk); (try clear hi)) | (go_at_call 83; (with_reducible refine (expr_parser_is.calls k g t243 t244 t245 48 true t247 t248 t249 w0 _ ?side1 ?side2 A5.out).mono ?_); (case side1 => repeat (first | (with_reducible first | exact HI0.out | apply IsS50.alloc | apply IsS50.drewN | apply IsS50.drew | apply IsS50.set_0 | apply IsS50.set_1 | apply IsS50.set_2) | exact HI0.out)); (case side2 => repeat (first | (with_reducible first | exact HB.out | apply below_alloc | apply pw_below_drewN | apply below_drew1 | refine below_set ?_ (IsS50.ge HI0.out)) | exact HB.out)); rintro e w8 ⟨rfl, hi, hb, hk⟩; have n0_ := Aside0.mk (KeepBut.trans (kK) hk (.inl rfl)); have n1_ := Aside0.mk (hb); have n2_ := Aside0.mk (hi); clear HK; clear HB; clear HI0; have HK := n0_; have HB := n1_; have HI0 := n2_; clear n0_ n1_ n2_; (try clear hb); (try clear hb2); (try clear hk); (try clear hi)))
   go_ret
   exact ⟨by first | rfl | (simp [errW_none, errW_some] <;> rfl) | (simp [*, errW_none, errW_some] <;> rfl), by repeat (first | (with_reducible first | exact HI0.out | apply IsS50.alloc | apply IsS50.drewN | apply IsS50.drew | apply IsS50.set_0 | apply IsS50.set_1 | apply IsS50.set_2) | exact HI0.out), by repeat (first | (with_reducible first | exact HB.out | apply below_alloc | apply pw_below_drewN | apply below_drew1 | refine below_set ?_ (IsS50.ge HI0.out)) | exact HB.out), kK⟩
  ·replace c6 := Bool.eq_false_iff.mpr c6
   subst c6
   have H1 : ((expr_parser_is.f k t247 t248 t249 49).bind fun bt250 => (if bt250.1 = true then (some (true, bt250.2.1, bt250.2.2.1, bt250.2.2.2)) else ((expr_parser_is.f k bt250.2.1 bt250.2.2.1 bt250.2.2.2 40).bind fun bt254 => (if bt254.1 = true then (some (true, bt254.2.1, bt254.2.2.1, bt254.2.2.2)) else ((expr_parser_letter.f k bt254.2.1 bt254.2.2.1 bt254.2.2.2).bind fun bt258 => (some (bt258.1, bt258.2.1, bt258.2.2.1, bt258.2.2.2))))))) = some (r1, r2, r3, r4) := by rw [if_neg (show ¬ (false = true) by decide)] at H; exact H
   clear H
   have H := H1
   clear H1
   replace H := Option.bind_eq_some_iff.mp H
   obtain ⟨⟨t250, t251, t252, t253⟩, A90, H⟩ := H
   replace H : (if t250 = true then (some (true, t251, t252, t253)) else ((expr_parser_is.f k t251 t252 t253 40).bind fun bt254 => (if bt254.1 = true then (some (true, bt254.2.1, bt254.2.2.1, bt254.2.2.2)) else ((expr_parser_letter.f k bt254.2.1 bt254.2.2.1 bt254.2.2.2).bind fun bt258 => (some (bt258.1, bt258.2.1, bt258.2.2.1, bt258.2.2.2)))))) = some (r1, r2, r3, r4) := H
   have A9 := Aside0.mk A90
   clear A90
   by_cases c10 : t250 = true
   ·subst c10
    have H1 : (some (true, t251, t252, t253)) = some (r1, r2, r3, r4) := by rw [if_pos rfl] at H; exact H
    clear H
    have H := H1
    clear H1
    simp only [Option.some.injEq, Prod.mk.injEq] at H
    obtain ⟨rfl, rfl, rfl, rfl⟩ := H
    go_enter Try.func93, Try.ntmps93
    go_wp2_with (first | ((with_reducible refine gate_callee (f := 83) rfl ?_); refine goesL_ (some 4) rfl rfl Try.func83 (by kernel_rfl) rfl #[.pointer (some ⟨g, 0, none⟩), .int .u8 33] rfl (by (try simp only [List.map_toArray, List.map_cons, List.map_nil]); first | done | rfl | (simp only [List.length_drop, List.length_take]; rfl) | (simp only [Int.ofNat_lt, Int.ofNat_le]; rfl)) ?_; (with_reducible refine (expr_parser_is.calls k g s0_0 s0_1 s0_2 33 false t243 t244 t245 w0 _ ?side1 ?side2 A2.out).mono ?_); (case side1 => repeat (first | (with_reducible first | exact HI0.out | apply IsS50.alloc | apply IsS50.drewN | apply IsS50.drew | apply IsS50.set_0 | apply IsS50.set_1 | apply IsS50.set_2) | exact HI0.out)); (case side2 => repeat (first | (with_reducible first | exact HB.out | apply below_alloc | apply pw_below_drewN | apply below_drew1 | refine below_set ?_ (IsS50.ge HI0.out)) | exact HB.out)); rintro e w11 ⟨rfl, hi, hb, hk⟩; refine ⟨_, rfl, ?_⟩; have n0_ := Aside0.mk (KeepBut.trans (kK) hk (.inl rfl)); have n1_ := Aside0.mk (hb); have n2_ := Aside0.mk (hi); clear HK; clear HB; clear HI0; have HK := n0_; have HB := n1_; have HI0 := n2_; clear n0_ n1_ n2_; (try clear hb); (try clear hb2); (try clear hk); (try clear hi)) | (go_at_call 83; (with_reducible refine (expr_parser_is.calls k g t243 t244 t245 48 false t247 t248 t249 w0 _ ?side1 ?side2 A5.out).mono ?_); (case side1 => repeat (first | (with_reducible first | exact HI0.out | apply IsS50.alloc | apply IsS50.drewN | apply IsS50.drew | apply IsS50.set_0 | apply IsS50.set_1 | apply IsS50.set_2) | exact HI0.out)); (case side2 => repeat (first | (with_reducible first | exact HB.out | apply below_alloc | apply pw_below_drewN | apply below_drew1 | refine below_set ?_ (IsS50.ge HI0.out)) | exact HB.out)); rintro e w12 ⟨rfl, hi, hb, hk⟩; have n0_ := Aside0.mk (KeepBut.trans (kK) hk (.inl rfl)); have n1_ := Aside0.mk (hb); have n2_ := Aside0.mk (hi); clear HK; clear HB; clear HI0; have HK := n0_; have HB := n1_; have HI0 := n2_; clear n0_ n1_ n2_; (try clear hb); (try clear hb2); (try clear hk); (try clear hi)) | (go_at_call 83; (with_reducible refine (expr_parser_is.calls k g t247 t248 t249 49 true t251 t252 t253 w0 _ ?side1 ?side2 A9.out).mono ?_); (case side1 => repeat (first | (with_reducible first | exact HI0.out | apply IsS50.alloc | apply IsS50.drewN | apply IsS50.drew | apply IsS50.set_0 | apply IsS50.set_1 | apply IsS50.set_2) | exact HI0.out)); (case side2 => repeat (first | (with_reducible first | exact HB.out | apply below_alloc | apply pw_below_drewN | apply below_drew1 | refine below_set ?_ (IsS50.ge HI0.out)) | exact HB.out)); rintro e w13 ⟨rfl, hi, hb, hk⟩; have n0_ := Aside0.mk (KeepBut.trans (kK) hk (.inl rfl)); have n1_ := Aside0.mk (hb); have n2_ := Aside0.mk (hi); clear HK; clear HB; clear HI0; have HK := n0_; have HB := n1_; have HI0 := n2_; clear n0_ n1_ n2_; (try clear hb); (try clear hb2); (try clear hk); (try clear hi)))
    go_ret
    exact ⟨by first | rfl | (simp [errW_none, errW_some] <;> rfl) | (simp [*, errW_none, errW_some] <;> rfl), by repeat (first | (with_reducible first | exact HI0.out | apply IsS50.alloc | apply IsS50.drewN | apply IsS50.drew | apply IsS50.set_0 | apply IsS50.set_1 | apply IsS50.set_2) | exact HI0.out), by repeat (first | (with_reducible first | exact HB.out | apply below_alloc | apply pw_below_drewN | apply below_drew1 | refine below_set ?_ (IsS50.ge HI0.out)) | exact HB.out), kK⟩
   ·replace c10 := Bool.eq_false_iff.mpr c10
    subst c10
    have H1 : ((expr_parser_is.f k t251 t252 t253 40).bind fun bt254 => (if bt254.1 = true then (some (true, bt254.2.1, bt254.2.2.1, bt254.2.2.2)) else ((expr_parser_letter.f k bt254.2.1 bt254.2.2.1 bt254.2.2.2).bind fun bt258 => (some (bt258.1, bt258.2.1, bt258.2.2.1, bt258.2.2.2))))) = some (r1, r2, r3, r4) := by rw [if_neg (show ¬ (false = true) by decide)] at H; exact H
    clear H
    have H := H1
    clear H1
    replace H := Option.bind_eq_some_iff.mp H
    obtain ⟨⟨t254, t255, t256, t257⟩, A140, H⟩ := H
    replace H : (if t254 = true then (some (true, t255, t256, t257)) else ((expr_parser_letter.f k t255 t256 t257).bind fun bt258 => (some (bt258.1, bt258.2.1, bt258.2.2.1, bt258.2.2.2)))) = some (r1, r2, r3, r4) := H
    have A14 := Aside0.mk A140
    clear A140
    by_cases c15 : t254 = true
    ·subst c15
     have H1 : (some (true, t255, t256, t257)) = some (r1, r2, r3, r4) := by rw [if_pos rfl] at H; exact H
     clear H
     have H := H1
     clear H1
     simp only [Option.some.injEq, Prod.mk.injEq] at H
     obtain ⟨rfl, rfl, rfl, rfl⟩ := H
     go_enter Try.func93, Try.ntmps93
     go_wp2_with (first | ((with_reducible refine gate_callee (f := 83) rfl ?_); refine goesL_ (some 4) rfl rfl Try.func83 (by kernel_rfl) rfl #[.pointer (some ⟨g, 0, none⟩), .int .u8 33] rfl (by (try simp only [List.map_toArray, List.map_cons, List.map_nil]); first | done | rfl | (simp only [List.length_drop, List.length_take]; rfl) | (simp only [Int.ofNat_lt, Int.ofNat_le]; rfl)) ?_; (with_reducible refine (expr_parser_is.calls k g s0_0 s0_1 s0_2 33 false t243 t244 t245 w0 _ ?side1 ?side2 A2.out).mono ?_); (case side1 => repeat (first | (with_reducible first | exact HI0.out | apply IsS50.alloc | apply IsS50.drewN | apply IsS50.drew | apply IsS50.set_0 | apply IsS50.set_1 | apply IsS50.set_2) | exact HI0.out)); (case side2 => repeat (first | (with_reducible first | exact HB.out | apply below_alloc | apply pw_below_drewN | apply below_drew1 | refine below_set ?_ (IsS50.ge HI0.out)) | exact HB.out)); rintro e w16 ⟨rfl, hi, hb, hk⟩; refine ⟨_, rfl, ?_⟩; have n0_ := Aside0.mk (KeepBut.trans (kK) hk (.inl rfl)); have n1_ := Aside0.mk (hb); have n2_ := Aside0.mk (hi); clear HK; clear HB; clear HI0; have HK := n0_; have HB := n1_; have HI0 := n2_; clear n0_ n1_ n2_; (try clear hb); (try clear hb2); (try clear hk); (try clear hi)) | (go_at_call 83; (with_reducible refine (expr_parser_is.calls k g t243 t244 t245 48 false t247 t248 t249 w0 _ ?side1 ?side2 A5.out).mono ?_); (case side1 => repeat (first | (with_reducible first | exact HI0.out | apply IsS50.alloc | apply IsS50.drewN | apply IsS50.drew | apply IsS50.set_0 | apply IsS50.set_1 | apply IsS50.set_2) | exact HI0.out)); (case side2 => repeat (first | (with_reducible first | exact HB.out | apply below_alloc | apply pw_below_drewN | apply below_drew1 | refine below_set ?_ (IsS50.ge HI0.out)) | exact HB.out)); rintro e w17 ⟨rfl, hi, hb, hk⟩; have n0_ := Aside0.mk (KeepBut.trans (kK) hk (.inl rfl)); have n1_ := Aside0.mk (hb); have n2_ := Aside0.mk (hi); clear HK; clear HB; clear HI0; have HK := n0_; have HB := n1_; have HI0 := n2_; clear n0_ n1_ n2_; (try clear hb); (try clear hb2); (try clear hk); (try clear hi)) | (go_at_call 83; (with_reducible refine (expr_parser_is.calls k g t247 t248 t249 49 false t251 t252 t253 w0 _ ?side1 ?side2 A9.out).mono ?_); (case side1 => repeat (first | (with_reducible first | exact HI0.out | apply IsS50.alloc | apply IsS50.drewN | apply IsS50.drew | apply IsS50.set_0 | apply IsS50.set_1 | apply IsS50.set_2) | exact HI0.out)); (case side2 => repeat (first | (with_reducible first | exact HB.out | apply below_alloc | apply pw_below_drewN | apply below_drew1 | refine below_set ?_ (IsS50.ge HI0.out)) | exact HB.out)); rintro e w18 ⟨rfl, hi, hb, hk⟩; have n0_ := Aside0.mk (KeepBut.trans (kK) hk (.inl rfl)); have n1_ := Aside0.mk (hb); have n2_ := Aside0.mk (hi); clear HK; clear HB; clear HI0; have HK := n0_; have HB := n1_; have HI0 := n2_; clear n0_ n1_ n2_; (try clear hb); (try clear hb2); (try clear hk); (try clear hi)) | (go_at_call 83; (with_reducible refine (expr_parser_is.calls k g t251 t252 t253 40 true t255 t256 t257 w0 _ ?side1 ?side2 A14.out).mono ?_); (case side1 => repeat (first | (with_reducible first | exact HI0.out | apply IsS50.alloc | apply IsS50.drewN | apply IsS50.drew | apply IsS50.set_0 | apply IsS50.set_1 | apply IsS50.set_2) | exact HI0.out)); (case side2 => repeat (first | (with_reducible first | exact HB.out | apply below_alloc | apply pw_below_drewN | apply below_drew1 | refine below_set ?_ (IsS50.ge HI0.out)) | exact HB.out)); rintro e w19 ⟨rfl, hi, hb, hk⟩; have n0_ := Aside0.mk (KeepBut.trans (kK) hk (.inl rfl)); have n1_ := Aside0.mk (hb); have n2_ := Aside0.mk (hi); clear HK; clear HB; clear HI0; have HK := n0_; have HB := n1_; have HI0 := n2_; clear n0_ n1_ n2_; (try clear hb); (try clear hb2); (try clear hk); (try clear hi)))
     go_ret
     exact ⟨by first | rfl | (simp [errW_none, errW_some] <;> rfl) | (simp [*, errW_none, errW_some] <;> rfl), by repeat (first | (with_reducible first | exact HI0.out | apply IsS50.alloc | apply IsS50.drewN | apply IsS50.drew | apply IsS50.set_0 | apply IsS50.set_1 | apply IsS50.set_2) | exact HI0.out), by repeat (first | (with_reducible first | exact HB.out | apply below_alloc | apply pw_below_drewN | apply below_drew1 | refine below_set ?_ (IsS50.ge HI0.out)) | exact HB.out), kK⟩
    ·replace c15 := Bool.eq_false_iff.mpr c15
     subst c15
     have H1 : ((expr_parser_letter.f k t255 t256 t257).bind fun bt258 => (some (bt258.1, bt258.2.1, bt258.2.2.1, bt258.2.2.2))) = some (r1, r2, r3, r4) := by rw [if_neg (show ¬ (false = true) by decide)] at H; exact H
     clear H
     have H := H1
     clear H1
     replace H := Option.bind_eq_some_iff.mp H
     obtain ⟨⟨t258, t259, t260, t261⟩, A200, H⟩ := H
     replace H : (some (t258, t259, t260, t261)) = some (r1, r2, r3, r4) := H
     have A20 := Aside0.mk A200
     clear A200
     simp only [Option.some.injEq, Prod.mk.injEq] at H
     obtain ⟨rfl, rfl, rfl, rfl⟩ := H
     go_enter Try.func93, Try.ntmps93
     go_wp2_with (first | ((with_reducible refine gate_callee (f := 83) rfl ?_); refine goesL_ (some 4) rfl rfl Try.func83 (by kernel_rfl) rfl #[.pointer (some ⟨g, 0, none⟩), .int .u8 33] rfl (by (try simp only [List.map_toArray, List.map_cons, List.map_nil]); first | done | rfl | (simp only [List.length_drop, List.length_take]; rfl) | (simp only [Int.ofNat_lt, Int.ofNat_le]; rfl)) ?_; (with_reducible refine (expr_parser_is.calls k g s0_0 s0_1 s0_2 33 false t243 t244 t245 w0 _ ?side1 ?side2 A2.out).mono ?_); (case side1 => repeat (first | (with_reducible first | exact HI0.out | apply IsS50.alloc | apply IsS50.drewN | apply IsS50.drew | apply IsS50.set_0 | apply IsS50.set_1 | apply IsS50.set_2) | exact HI0.out)); (case side2 => repeat (first | (with_reducible first | exact HB.out | apply below_alloc | apply pw_below_drewN | apply below_drew1 | refine below_set ?_ (IsS50.ge HI0.out)) | exact HB.out)); rintro e w21 ⟨rfl, hi, hb, hk⟩; refine ⟨_, rfl, ?_⟩; have n0_ := Aside0.mk (KeepBut.trans (kK) hk (.inl rfl)); have n1_ := Aside0.mk (hb); have n2_ := Aside0.mk (hi); clear HK; clear HB; clear HI0; have HK := n0_; have HB := n1_; have HI0 := n2_; clear n0_ n1_ n2_; (try clear hb); (try clear hb2); (try clear hk); (try clear hi)) | (go_at_call 83; (with_reducible refine (expr_parser_is.calls k g t243 t244 t245 48 false t247 t248 t249 w0 _ ?side1 ?side2 A5.out).mono ?_); (case side1 => repeat (first | (with_reducible first | exact HI0.out | apply IsS50.alloc | apply IsS50.drewN | apply IsS50.drew | apply IsS50.set_0 | apply IsS50.set_1 | apply IsS50.set_2) | exact HI0.out)); (case side2 => repeat (first | (with_reducible first | exact HB.out | apply below_alloc | apply pw_below_drewN | apply below_drew1 | refine below_set ?_ (IsS50.ge HI0.out)) | exact HB.out)); rintro e w22 ⟨rfl, hi, hb, hk⟩; have n0_ := Aside0.mk (KeepBut.trans (kK) hk (.inl rfl)); have n1_ := Aside0.mk (hb); have n2_ := Aside0.mk (hi); clear HK; clear HB; clear HI0; have HK := n0_; have HB := n1_; have HI0 := n2_; clear n0_ n1_ n2_; (try clear hb); (try clear hb2); (try clear hk); (try clear hi)) | (go_at_call 83; (with_reducible refine (expr_parser_is.calls k g t247 t248 t249 49 false t251 t252 t253 w0 _ ?side1 ?side2 A9.out).mono ?_); (case side1 => repeat (first | (with_reducible first | exact HI0.out | apply IsS50.alloc | apply IsS50.drewN | apply IsS50.drew | apply IsS50.set_0 | apply IsS50.set_1 | apply IsS50.set_2) | exact HI0.out)); (case side2 => repeat (first | (with_reducible first | exact HB.out | apply below_alloc | apply pw_below_drewN | apply below_drew1 | refine below_set ?_ (IsS50.ge HI0.out)) | exact HB.out)); rintro e w23 ⟨rfl, hi, hb, hk⟩; have n0_ := Aside0.mk (KeepBut.trans (kK) hk (.inl rfl)); have n1_ := Aside0.mk (hb); have n2_ := Aside0.mk (hi); clear HK; clear HB; clear HI0; have HK := n0_; have HB := n1_; have HI0 := n2_; clear n0_ n1_ n2_; (try clear hb); (try clear hb2); (try clear hk); (try clear hi)) | (go_at_call 83; (with_reducible refine (expr_parser_is.calls k g t251 t252 t253 40 false t255 t256 t257 w0 _ ?side1 ?side2 A14.out).mono ?_); (case side1 => repeat (first | (with_reducible first | exact HI0.out | apply IsS50.alloc | apply IsS50.drewN | apply IsS50.drew | apply IsS50.set_0 | apply IsS50.set_1 | apply IsS50.set_2) | exact HI0.out)); (case side2 => repeat (first | (with_reducible first | exact HB.out | apply below_alloc | apply pw_below_drewN | apply below_drew1 | refine below_set ?_ (IsS50.ge HI0.out)) | exact HB.out)); rintro e w24 ⟨rfl, hi, hb, hk⟩; have n0_ := Aside0.mk (KeepBut.trans (kK) hk (.inl rfl)); have n1_ := Aside0.mk (hb); have n2_ := Aside0.mk (hi); clear HK; clear HB; clear HI0; have HK := n0_; have HB := n1_; have HI0 := n2_; clear n0_ n1_ n2_; (try clear hb); (try clear hb2); (try clear hk); (try clear hi)) | (go_at_call 97; (with_reducible refine (expr_parser_letter.calls k g t255 t256 t257 t258 t259 t260 t261 w0 _ ?side1 ?side2 A20.out).mono ?_); (case side1 => repeat (first | (with_reducible first | exact HI0.out | apply IsS50.alloc | apply IsS50.drewN | apply IsS50.drew | apply IsS50.set_0 | apply IsS50.set_1 | apply IsS50.set_2) | exact HI0.out)); (case side2 => repeat (first | (with_reducible first | exact HB.out | apply below_alloc | apply pw_below_drewN | apply below_drew1 | refine below_set ?_ (IsS50.ge HI0.out)) | exact HB.out)); rintro e w25 ⟨rfl, hi, hb, hk⟩; have n0_ := Aside0.mk (KeepBut.trans (kK) hk (.inl rfl)); have n1_ := Aside0.mk (hb); have n2_ := Aside0.mk (hi); clear HK; clear HB; clear HI0; have HK := n0_; have HB := n1_; have HI0 := n2_; clear n0_ n1_ n2_; (try clear hb); (try clear hb2); (try clear hk); (try clear hi)))
     go_ret
     exact ⟨by first | rfl | (simp [errW_none, errW_some] <;> rfl) | (simp [*, errW_none, errW_some] <;> rfl), by repeat (first | (with_reducible first | exact HI0.out | apply IsS50.alloc | apply IsS50.drewN | apply IsS50.drew | apply IsS50.set_0 | apply IsS50.set_1 | apply IsS50.set_2) | exact HI0.out), by repeat (first | (with_reducible first | exact HB.out | apply below_alloc | apply pw_below_drewN | apply below_drew1 | refine below_set ?_ (IsS50.ge HI0.out)) | exact HB.out), kK⟩
end Go.Proofs.Ytjofkebiacaciaa.PAll
end
section
namespace Go.Proofs.Ytjofkebiacaciaa.PAll
open Go.RowKit Go.Proofs.YtjofkebiacaciaaW.PrintWords Go.Proofs.YtjofkebiacaciaaW.PrintLast Go.Proofs.YtjofkebiacaciaaW.PrintMore
attribute [local go_sem] max2_int min2_int max_two min_two max_three min_three max_four min_four
set_option linter.unusedVariables false
set_option linter.unusedSimpArgs false
set_option linter.all false
variable [AtomC]
def expr_parser_cat.l0 : Nat → List (S24) → ByteArray → Int → Int → Option (Int × Int × (List (S24)) × ByteArray × Int × Int)
 | 0, _, _, _, _ => none
 | k + 1, x3, x1000, x1001, x1002 => (expr_parser_begins.f k x1000 x1001 x1002).bind fun bt274 => (if bt274.1 = true then ((expr_parser_unary.f k bt274.2.1 bt274.2.2.1 bt274.2.2.2).bind fun bt278 => (if x3.length < 3518437208883 then (expr_parser_cat.l0 k (x3 ++ [(⟨bt278.1, bt278.2.1, bt278.2.2.1⟩ : S24)]) bt278.2.2.2.1 bt278.2.2.2.2.1 bt278.2.2.2.2.2) else (none))) else ((expr_several.f 5 x3).bind fun bt289 => (some (bt289.1, bt289.2.1, bt289.2.2, bt274.2.1, bt274.2.2.1, bt274.2.2.2))))
def expr_parser_cat.f (k : Nat) (s0_0 : ByteArray) (s0_1 : Int) (s0_2 : Int) : Option (Int × Int × (List (S24)) × ByteArray × Int × Int) := (expr_parser_unary.f k s0_0 s0_1 s0_2).bind fun bt263 => (expr_parser_cat.l0 k (([(⟨bt263.1, bt263.2.1, bt263.2.2.1⟩ : S24)] : List (S24))) bt263.2.2.2.1 bt263.2.2.2.2.1 bt263.2.2.2.2.2)
theorem expr_parser_cat.mono_l : ∀ k, (∀ y0 y1 y2 y3, LeO (expr_parser_cat.l0 k y0 y1 y2 y3) (expr_parser_cat.l0 (k + 1) y0 y1 y2 y3))
 | 0 => fun _ _ _ _ r h => by simp [expr_parser_cat.l0] at h
 | k + 1 => by
  have ih0 := expr_parser_cat.mono_l k
  ·intro y0 y1 y2 y3
   unfold expr_parser_cat.l0
   repeat' first
   | (with_reducible exact ih0 _ _ _ _)
   | (with_reducible exact expr_parser_begins.mono _ _ _ _)
   | (with_reducible exact expr_parser_unary.mono _ _ _ _)
   | (with_reducible exact LeO.refl _)
   | (with_reducible exact LeO.none _)
   | (with_reducible refine LeO.ite ?_ ?_)
   | (with_reducible refine LeO.bind ?_ (fun _ => ?_))
   | exact ih0 _ _ _ _
   | exact expr_parser_begins.mono _ _ _ _
   | exact expr_parser_unary.mono _ _ _ _
   | exact LeO.none _
   | refine LeO.ite ?_ ?_
   | refine LeO.bind ?_ (fun _ => ?_)
theorem expr_parser_cat.mono : ∀ a0 a1 a2 k, LeO (expr_parser_cat.f k a0 a1 a2) (expr_parser_cat.f (k + 1) a0 a1 a2) := by
 intro a0 a1 a2 k
 have ih0 := expr_parser_cat.mono_l k
 unfold expr_parser_cat.f
 repeat' first
   | (with_reducible exact ih0 _ _ _ _)
   | (with_reducible exact expr_parser_begins.mono _ _ _ _)
   | (with_reducible exact expr_parser_unary.mono _ _ _ _)
   | (with_reducible exact LeO.refl _)
   | (with_reducible exact LeO.none _)
   | (with_reducible refine LeO.ite ?_ ?_)
   | (with_reducible refine LeO.bind ?_ (fun _ => ?_))
   | exact ih0 _ _ _ _
   | exact expr_parser_begins.mono _ _ _ _
   | exact expr_parser_unary.mono _ _ _ _
   | exact LeO.none _
   | refine LeO.ite ?_ ?_
   | refine LeO.bind ?_ (fun _ => ?_)
set_option maxHeartbeats 8000000 in
set_option maxRecDepth 100000 in
theorem expr_parser_cat.calls (k : Nat) (g : Nat) (s0_0 : ByteArray) (s0_1 : Int) (s0_2 : Int) (r1 : Int) (r2 : Int) (r3 : List (S24)) (r4 : ByteArray) (r5 : Int) (r6 : Int) (w0 w : World) (hI : IsS50 w0 w g s0_0 s0_1 s0_2) (hB : Below w0.heap.size w0 w) (h : expr_parser_cat.f k s0_0 s0_1 s0_2 = some (r1, r2, r3, r4, r5, r6)) :
  Calls Try.prog 85 #[.pointer (some ⟨g, 0, none⟩)] w fun e w' => ∃ v2_ : Value, e = .returned (.agg #[.int .i64 r1, .int .i64 r2, v2_]) ∧ Kd.V k24 24 w' w.heap.size (fun k_ => (w.heap.size ≤ k_)) v2_ r3 ∧ IsS50 w0 w' g r4 r5 r6 ∧ Below w0.heap.size w0 w' ∧ KeepBut w w' g none := by
 have hu24 := Try.underlying24
 have HI0 := Aside0.mk hI
 have HK := Aside0.mk (KeepBut.refl w g none)
 have HL := Aside0.mk hB.size
 clear hI
 have HW0 := Aside0.mk hB.size
 have HB := Aside0.mk hB
 clear hB
 have H : ((expr_parser_unary.f k s0_0 s0_1 s0_2).bind fun bt263 => (expr_parser_cat.l0 k (([(⟨bt263.1, bt263.2.1, bt263.2.2.1⟩ : S24)] : List (S24))) bt263.2.2.2.1 bt263.2.2.2.2.1 bt263.2.2.2.2.2)) = some (r1, r2, r3, r4, r5, r6) := h
 clear h
 replace H := Option.bind_eq_some_iff.mp H
 obtain ⟨⟨t263, t264, t265, t268, t269, t270⟩, A20, H⟩ := H
 replace H : (expr_parser_cat.l0 k (([(⟨t263, t264, t265⟩ : S24)] : List (S24))) t268 t269 t270) = some (r1, r2, r3, r4, r5, r6) := H
 have A2 := Aside0.mk A20
 clear A20
 obtain ⟨y271, hy271⟩ : ∃ y_ : List (S24), y_ = (([(⟨t263, t264, t265⟩ : S24)] : List (S24))) := ⟨_, rfl⟩
 replace H : (expr_parser_cat.l0 k y271 t268 t269 t270) = some (r1, r2, r3, r4, r5, r6) := by first | (rw [hy271]; with_reducible exact H) | (have H2_ := (Option.bind_some _ _).symm.trans H; rw [hy271]; with_reducible exact H2_) | (have H2_ := (Option.bind_some _ _).symm.trans H; with_reducible exact H2_) | with_reducible exact H | (rw [hy271]; exact H) | exact H
 have Ny271 := Aside0.mk hy271
 clear hy271
 have H' := Aside0.mk H
 clear H
 go_enter Try.func85, Try.ntmps85
 go_wp2_with (first | ((with_reducible refine gate_dst (N := 2) rfl ?_); refine box_event ?hg (N := 2) ?hd (cs := #[.int .i64 0, .int .i64 0, .slice none 0 0]) (t := 24) ?hr ?_; (case hd => rfl); (case hg => rfl); (case hr => first | (go_simp; done) | (go_simp; rfl)); intro gb262 hg w3 hbox hb; have n0_ := Aside0.mk (IsS50.below (by repeat (first | (with_reducible first | exact HI0.out | apply IsS50.alloc | apply IsS50.drewN | apply IsS50.drew | apply IsS50.set_0 | apply IsS50.set_1 | apply IsS50.set_2) | exact HI0.out)) hb); have n1_ := Aside0.mk (KeepBut.trans (kK) (KeepBut.of_below hb g none) (.inl rfl)); have n2_ := Aside0.mk (below_step (by repeat (first | (with_reducible first | exact HB.out | apply below_alloc | apply pw_below_drewN | apply below_drew1 | refine below_set ?_ (IsS50.ge HI0.out)) | exact HB.out)) hb); have n3_ := Aside0.mk (hbox); have n4_ := Aside0.mk ((by rw [hg]; exact (keep_size (w := w) (g := g) (row := none) (kK)) : w.heap.size ≤ gb262)); have n5_ := Aside0.mk ((Nat.le_trans HW0.out (by rw [hg]; exact (keep_size (w := w) (g := g) (row := none) (kK)) : w.heap.size ≤ gb262) : w0.heap.size ≤ gb262)); have n6_ := Aside0.mk ((by rw [hg]; exact Nat.ne_of_lt (IsS50.lt (show IsS50 w0 _ g s0_0 s0_1 s0_2 from by repeat (first | (with_reducible first | exact HI0.out | apply IsS50.alloc | apply IsS50.drewN | apply IsS50.drew | apply IsS50.set_0 | apply IsS50.set_1 | apply IsS50.set_2) | exact HI0.out))) : g ≠ gb262)); have n7_ := Aside0.mk ((by rw [hg]; exact Nat.ne_of_gt (IsS50.lt (show IsS50 w0 _ g s0_0 s0_1 s0_2 from by repeat (first | (with_reducible first | exact HI0.out | apply IsS50.alloc | apply IsS50.drewN | apply IsS50.drew | apply IsS50.set_0 | apply IsS50.set_1 | apply IsS50.set_2) | exact HI0.out))) : gb262 ≠ g)); clear HI0; clear HK; clear HB; have HI0 := n0_; have HK := n1_; have HB := n2_; have BK262 := n3_; have GW262 := n4_; have GE262 := n5_; have NB0_262 := n6_; have NB262_0 := n7_; clear n0_ n1_ n2_ n3_ n4_ n5_ n6_ n7_; clear hb hbox hg) | ((with_reducible refine gate_callee (f := 92) rfl ?_); (fail_if_success (have chk_ := HO267)); refine goesL_ (some 5) rfl rfl Try.func92 (by kernel_rfl) rfl #[.pointer (some ⟨g, 0, none⟩)] rfl (by (try simp only [List.map_toArray, List.map_cons, List.map_nil]); first | done | rfl | (simp only [List.length_drop, List.length_take]; rfl) | (simp only [Int.ofNat_lt, Int.ofNat_le]; rfl)) ?_; (with_reducible refine (expr_parser_unary.calls k g s0_0 s0_1 s0_2 t263 t264 t265 t268 t269 t270 w0 _ ?side1 ?side2 A2.out).mono ?_); (case side1 => repeat (first | (with_reducible first | exact HI0.out | apply IsS50.alloc | apply IsS50.drewN | apply IsS50.drew | apply IsS50.set_0 | apply IsS50.set_1 | apply IsS50.set_2 | refine IsS50.far ?_ NB0_262.out _) | exact HI0.out)); (case side2 => repeat (first | (with_reducible first | exact HB.out | apply below_alloc | apply pw_below_drewN | apply below_drew1 | refine below_set ?_ (IsS50.ge HI0.out) | refine below_set ?_ GE262.out) | exact HB.out)); rintro e w4 ⟨v266, rfl, ho0, hi, hb, hk⟩; refine ⟨_, rfl, ?_⟩; have n0_ := Aside0.mk (KeepBut.blk hk (g' := gb262) (o := .cells #[.int .i64 0, .int .i64 0, .slice none 0 0] 24 (0, 0)) (bK) NB262_0.out (by simp)); have n1_ := Aside0.mk (Kd.V_lower (Kd.V_mono (ok' := fun k_ => (w.heap.size ≤ k_) ∧ k_ ≠ gb262 ∧ k_ ≠ g) ho0 (fun k_ hk_ => ⟨(Nat.le_trans (keep_size (w := w) (g := g) (row := none) (kK)) hk_), (Kd.freshB (g := gb262) (o := .cells #[.int .i64 0, .int .i64 0, .slice none 0 0] 24 (0, 0)) (bK) k_ hk_), (IsS50.fresh (by repeat (first | (with_reducible first | exact HI0.out | apply IsS50.alloc | apply IsS50.drewN | apply IsS50.drew | apply IsS50.set_0 | apply IsS50.set_1 | apply IsS50.set_2 | refine IsS50.far ?_ NB0_262.out _) | exact HI0.out)) k_ hk_)⟩)) (keep_size (w := w) (g := g) (row := none) (kK))); have n2_ := Aside0.mk (KeepBut.trans (kK) hk (.inl rfl)); have n3_ := Aside0.mk (hb); have n4_ := Aside0.mk (hi); clear BK262; clear HK; clear HB; clear HI0; have BK262 := n0_; have HO267 := n1_; have HK := n2_; have HB := n3_; have HI0 := n4_; clear n0_ n1_ n2_ n3_ n4_; (try clear hb); (try clear hb2); (try clear hk); (try clear hi); (try clear ho0); obtain ⟨Ao5, co5, eo5⟩ := Kd.V_slice HO267.out; subst eo5) | ((with_reducible refine gate_dst (N := 6) rfl ?_); refine Kd.N_lit k24 _ 24 ?hg (N' := 6) ?hd (xs := ([(⟨t263, t264, t265⟩ : S24)] : List (S24))) (inner := [.int .i64 t263, .int .i64 t264, .slice Ao5 t265.length co5]) (ok := (fun k_ => (w.heap.size ≤ k_) ∧ k_ ≠ gb262 ∧ k_ ≠ g)) (okp := (fun k_ => (w.heap.size ≤ k_) ∧ k_ ≠ gb262 ∧ k_ ≠ g)) ?hr ?hp (fun _ hk => hk) ((show ∀ k_, w4.heap.size ≤ k_ → (fun k_ => (w.heap.size ≤ k_) ∧ k_ ≠ gb262 ∧ k_ ≠ g) k_ from fun k_ hk => ⟨(Nat.le_trans (keep_size (w := w) (g := g) (row := none) (kK)) hk), Kd.freshB (g := gb262) (o := .cells #[.int .i64 0, .int .i64 0, .slice none 0 0] 24 (0, 0)) (bK) k_ hk, IsS50.fresh (by repeat (first | (with_reducible first | exact HI0.out | apply IsS50.alloc | apply IsS50.drewN | apply IsS50.drew | apply IsS50.set_0 | apply IsS50.set_1 | apply IsS50.set_2 | refine IsS50.far ?_ NB0_262.out _) | exact HI0.out)) k_ hk⟩) _ (Nat.le_refl _)) (Below.refl _ _) (Nat.le_refl _) (by simp) ?_; (case hd => rfl); (case hg => rfl); (case hr => first | (go_simp; done) | (go_simp; rfl)); (case hp => exact (Reps.c3 (show Kd.FK k24 _ _ (⟨t263, t264, t265⟩ : S24) [.int .i64 t263, .int .i64 t264, .slice Ao5 t265.length co5] from (k24_mkF _ _ (⟨t263, t264, t265⟩ : S24) (Kd.V_reads' (Kd.V_mono (ok' := (fun k_ => (w.heap.size ≤ k_) ∧ k_ ≠ gb262 ∧ k_ ≠ g)) (HO267.out) (fun k_ hk => ⟨hk.1, ⟨hk.2.1, hk.2.2⟩⟩))).2.1 (Kd.V_F (Kd.V_mono (ok' := (fun k_ => (w.heap.size ≤ k_) ∧ k_ ≠ gb262 ∧ k_ ≠ g)) (HO267.out) (fun k_ hk => ⟨hk.1, ⟨hk.2.1, hk.2.2⟩⟩))))) (Reps.none _ _))); intro v272 w6 ho7 hb hg_ hnew_; clear hg_ hnew_; (first | rw [← Ny271.out] at ho7 | (simp only [Int.reduceToNat] at ho7; rw [← Ny271.out] at ho7)); have n0_ := Aside0.mk (Kd.V_elder' (by (with_reducible repeat (first | apply Kd.V_alloc | apply Kd.V_drewN | apply Kd.V_drew)); exact HO267.out) (Kd.N_base ho7) hb); have n1_ := Aside0.mk (Kd.N_lower ho7 (keep_size (w := w) (g := g) (row := none) (kK))); have n2_ := Aside0.mk (IsS50.below (by repeat (first | (with_reducible first | exact HI0.out | apply IsS50.alloc | apply IsS50.drewN | apply IsS50.drew | apply IsS50.set_0 | apply IsS50.set_1 | apply IsS50.set_2 | refine IsS50.far ?_ NB0_262.out _) | exact HI0.out)) hb); have n3_ := Aside0.mk (blk_below (g := gb262) (o := .cells #[.int .i64 0, .int .i64 0, .slice none 0 0] 24 (0, 0)) (bK) hb); have n4_ := Aside0.mk (KeepBut.trans (kK) (KeepBut.of_below hb g none) (.inl rfl)); have n5_ := Aside0.mk (below_step (by repeat (first | (with_reducible first | exact HB.out | apply below_alloc | apply pw_below_drewN | apply below_drew1 | refine below_set ?_ (IsS50.ge HI0.out) | refine below_set ?_ GE262.out) | exact HB.out)) hb); clear HO267; clear HI0; clear BK262; clear HK; clear HB; have HO267 := n0_; have HO273 := n1_; have HI0 := n2_; have BK262 := n3_; have HK := n4_; have HB := n5_; clear n0_ n1_ n2_ n3_ n4_ n5_; clear hb ho7))
 go_loopg [3] k (fun kq v3 w' => ∃ (x3_1 : List (S24)) (x1000_1 : ByteArray) (x1001_1 : Int) (x1002_1 : Int), Aside0 (expr_parser_cat.l0 kq x3_1 x1000_1 x1001_1 x1002_1 = some (r1, r2, r3, r4, r5, r6)) ∧ Aside0 (kq ≤ k) ∧ Aside0 (Kd.N k24 24 w' w.heap.size (fun k_ => (w.heap.size ≤ k_) ∧ k_ ≠ gb262 ∧ k_ ≠ g) v3 x3_1) ∧ Aside0 (w'.heap[gb262]? = some (.cells #[.int .i64 0, .int .i64 0, (.slice none 0 0)] 24 (0, 0))) ∧ Aside0 (IsS50 w0 w' g x1000_1 x1001_1 x1002_1) ∧ Aside0 (KeepBut w w' g none) ∧ Aside0 (Below w0.heap.size w0 w'))
 case atStart => exact ⟨(y271), (t268), (t269), (t270), H', ⟨Nat.le_refl _⟩, ⟨by (with_reducible repeat (first | apply Kd.N_alloc | apply Kd.N_drewN | apply Kd.N_drew)); exact HO273.out⟩, ⟨bK⟩, ⟨by repeat (first | (with_reducible first | exact HI0.out | apply IsS50.alloc | apply IsS50.drewN | apply IsS50.drew | apply IsS50.set_0 | apply IsS50.set_1 | apply IsS50.set_2 | refine IsS50.far ?_ NB0_262.out _) | exact HI0.out)⟩, ⟨kK⟩, ⟨by repeat (first | (with_reducible first | exact HB.out | apply below_alloc | apply pw_below_drewN | apply below_drew1 | refine below_set ?_ (IsS50.ge HI0.out) | refine below_set ?_ GE262.out) | exact HB.out)⟩⟩
 case round =>
  clear H'
  try clear p2
  try clear c3
  obtain ⟨x3_1, x1000_1, x1001_1, x1002_1, HA, HK1, HO_3, BK262, HI0, HK, HB⟩ := hrel
  cases gk with
  | zero => exact absurd HA.out (by simp [expr_parser_cat.l0])
  | succ k1 =>
   have H := HA.out
   clear HA
   simp only [expr_parser_cat.l0] at H
   replace H := Option.bind_eq_some_iff.mp H
   obtain ⟨⟨t274, t275, t276, t277⟩, A80, H⟩ := H
   replace H : (if t274 = true then ((expr_parser_unary.f k1 t275 t276 t277).bind fun bt278 => (if x3_1.length < 3518437208883 then (expr_parser_cat.l0 k1 (x3_1 ++ [(⟨bt278.1, bt278.2.1, bt278.2.2.1⟩ : S24)]) bt278.2.2.2.1 bt278.2.2.2.2.1 bt278.2.2.2.2.2) else (none))) else ((expr_several.f 5 x3_1).bind fun bt289 => (some (bt289.1, bt289.2.1, bt289.2.2, t275, t276, t277)))) = some (r1, r2, r3, r4, r5, r6) := H
   have A8 := Aside0.mk A80
   clear A80
   by_cases c9 : t274 = true
   ·subst c9
    have H1 : ((expr_parser_unary.f k1 t275 t276 t277).bind fun bt278 => (if x3_1.length < 3518437208883 then (expr_parser_cat.l0 k1 (x3_1 ++ [(⟨bt278.1, bt278.2.1, bt278.2.2.1⟩ : S24)]) bt278.2.2.2.1 bt278.2.2.2.2.1 bt278.2.2.2.2.2) else (none))) = some (r1, r2, r3, r4, r5, r6) := by rw [if_pos rfl] at H; exact H
    clear H
    have H := H1
    clear H1
    replace H := Option.bind_eq_some_iff.mp H
    obtain ⟨⟨t278, t279, t280, t283, t284, t285⟩, A100, H⟩ := H
    replace H : (if x3_1.length < 3518437208883 then (expr_parser_cat.l0 k1 (x3_1 ++ [(⟨t278, t279, t280⟩ : S24)]) t283 t284 t285) else (none)) = some (r1, r2, r3, r4, r5, r6) := H
    have A10 := Aside0.mk A100
    clear A100
    by_cases c11 : x3_1.length < 3518437208883
    ·rw [if_pos c11] at H
     have LMc11 := Aside0.mk c11
     clear c11
     obtain ⟨y286, hy286⟩ : ∃ y_ : List (S24), y_ = (x3_1 ++ [(⟨t278, t279, t280⟩ : S24)]) := ⟨_, rfl⟩
     replace H : (expr_parser_cat.l0 k1 y286 t283 t284 t285) = some (r1, r2, r3, r4, r5, r6) := by first | (rw [hy286]; with_reducible exact H) | (have H2_ := (Option.bind_some _ _).symm.trans H; rw [hy286]; with_reducible exact H2_) | (have H2_ := (Option.bind_some _ _).symm.trans H; with_reducible exact H2_) | with_reducible exact H | (rw [hy286]; exact H) | exact H
     have Ny286 := Aside0.mk hy286
     clear hy286
     have H' := Aside0.mk H
     clear H
     go_wp2_with (first | ((with_reducible refine gate_callee (f := 93) rfl ?_); refine goesL_ (some 8) rfl rfl Try.func93 (by kernel_rfl) rfl #[.pointer (some ⟨g, 0, none⟩)] rfl (by (try simp only [List.map_toArray, List.map_cons, List.map_nil]); first | done | rfl | (simp only [List.length_drop, List.length_take]; rfl) | (simp only [Int.ofNat_lt, Int.ofNat_le]; rfl)) ?_; (with_reducible refine (expr_parser_begins.calls k1 g x1000_1 x1001_1 x1002_1 true t275 t276 t277 w0 _ ?side1 ?side2 A8.out).mono ?_); (case side1 => repeat (first | (with_reducible first | exact HI0.out | apply IsS50.alloc | apply IsS50.drewN | apply IsS50.drew | apply IsS50.set_0 | apply IsS50.set_1 | apply IsS50.set_2 | refine IsS50.far ?_ NB0_262.out _) | exact HI0.out)); (case side2 => repeat (first | (with_reducible first | exact HB.out | apply below_alloc | apply pw_below_drewN | apply below_drew1 | refine below_set ?_ (IsS50.ge HI0.out) | refine below_set ?_ GE262.out) | exact HB.out)); rintro e w12 ⟨rfl, hi, hb, hk⟩; refine ⟨_, rfl, ?_⟩; have n0_ := Aside0.mk (Kd.N_mono (Kd.N_keep (Kd.N_mono (ok := fun k_ => (((w.heap.size ≤ k_)) ∧ (k_ ≠ gb262 ∧ k_ ≠ g))) (by (with_reducible repeat (first | apply Kd.N_alloc | apply Kd.N_drewN | apply Kd.N_drew)); exact HO_3.out) (fun k_ hk_ => (⟨hk_, hk_.2.2⟩ : _ ∧ k_ ≠ g))) hk (fun _ h => h.2)) (fun _ h => h.1)); have n1_ := Aside0.mk (KeepBut.blk hk (g' := gb262) (o := .cells #[.int .i64 0, .int .i64 0, .slice none 0 0] 24 (0, 0)) (bK) NB262_0.out (by simp)); have n2_ := Aside0.mk (KeepBut.trans (kK) hk (.inl rfl)); have n3_ := Aside0.mk (hb); have n4_ := Aside0.mk (hi); clear HO_3; clear BK262; clear HK; clear HB; clear HI0; have HO_3 := n0_; have BK262 := n1_; have HK := n2_; have HB := n3_; have HI0 := n4_; clear n0_ n1_ n2_ n3_ n4_; (try clear hb); (try clear hb2); (try clear hk); (try clear hi)) | ((with_reducible refine gate_callee (f := 92) rfl ?_); (fail_if_success (have chk_ := HO282)); refine goesL_ (some 11) rfl rfl Try.func92 (by kernel_rfl) rfl #[.pointer (some ⟨g, 0, none⟩)] rfl (by (try simp only [List.map_toArray, List.map_cons, List.map_nil]); first | done | rfl | (simp only [List.length_drop, List.length_take]; rfl) | (simp only [Int.ofNat_lt, Int.ofNat_le]; rfl)) ?_; (with_reducible refine (expr_parser_unary.calls k1 g t275 t276 t277 t278 t279 t280 t283 t284 t285 w0 _ ?side1 ?side2 A10.out).mono ?_); (case side1 => repeat (first | (with_reducible first | exact HI0.out | apply IsS50.alloc | apply IsS50.drewN | apply IsS50.drew | apply IsS50.set_0 | apply IsS50.set_1 | apply IsS50.set_2 | refine IsS50.far ?_ NB0_262.out _) | exact HI0.out)); (case side2 => repeat (first | (with_reducible first | exact HB.out | apply below_alloc | apply pw_below_drewN | apply below_drew1 | refine below_set ?_ (IsS50.ge HI0.out) | refine below_set ?_ GE262.out) | exact HB.out)); rintro e w13 ⟨v281, rfl, ho0, hi, hb, hk⟩; refine ⟨_, rfl, ?_⟩; have n0_ := Aside0.mk (Kd.N_mono (Kd.N_keep (Kd.N_mono (ok := fun k_ => (((w.heap.size ≤ k_)) ∧ (k_ ≠ gb262 ∧ k_ ≠ g))) (by (with_reducible repeat (first | apply Kd.N_alloc | apply Kd.N_drewN | apply Kd.N_drew)); exact HO_3.out) (fun k_ hk_ => (⟨hk_, hk_.2.2⟩ : _ ∧ k_ ≠ g))) hk (fun _ h => h.2)) (fun _ h => h.1)); have n1_ := Aside0.mk (KeepBut.blk hk (g' := gb262) (o := .cells #[.int .i64 0, .int .i64 0, .slice none 0 0] 24 (0, 0)) (bK) NB262_0.out (by simp)); have n2_ := Aside0.mk (Kd.V_lower (Kd.V_mono (ok' := fun k_ => (w.heap.size ≤ k_) ∧ some k_ ≠ (u3 : Value).ownBlock ∧ k_ ≠ gb262 ∧ k_ ≠ g) ho0 (fun k_ hk_ => ⟨(Nat.le_trans (keep_size (w := w) (g := g) (row := none) (kK)) hk_), (Kd.fresh' (Kd.N_lt (by (with_reducible repeat (first | apply Kd.N_alloc | apply Kd.N_drewN | apply Kd.N_drew)); exact HO_3.out)) k_ hk_), (Kd.freshB (g := gb262) (o := .cells #[.int .i64 0, .int .i64 0, .slice none 0 0] 24 (0, 0)) (bK) k_ hk_), (IsS50.fresh (by repeat (first | (with_reducible first | exact HI0.out | apply IsS50.alloc | apply IsS50.drewN | apply IsS50.drew | apply IsS50.set_0 | apply IsS50.set_1 | apply IsS50.set_2 | refine IsS50.far ?_ NB0_262.out _) | exact HI0.out)) k_ hk_)⟩)) (keep_size (w := w) (g := g) (row := none) (kK))); have n3_ := Aside0.mk (KeepBut.trans (kK) hk (.inl rfl)); have n4_ := Aside0.mk (hb); have n5_ := Aside0.mk (hi); clear HO_3; clear BK262; clear HK; clear HB; clear HI0; have HO_3 := n0_; have BK262 := n1_; have HO282 := n2_; have HK := n3_; have HB := n4_; have HI0 := n5_; clear n0_ n1_ n2_ n3_ n4_ n5_; (try clear hb); (try clear hb2); (try clear hk); (try clear hi); (try clear ho0); obtain ⟨Ao15, co15, eo15⟩ := Kd.V_slice HO282.out; subst eo15) | ((with_reducible refine gate_builtin (b := .append) (xs := #[.tmp 9, .tmp 12]) rfl ?_); at_builtin; refine Kd.N_append k24 w.heap.size rfl (.tmp 9) (.tmp 12) 22 24 (.agg #[(.int .i64 0), (.int .i64 0), (.slice none 0 0)]) 40 rfl Try.underlying22 info24 rfl (by decide) (by omega) u3 x3_1 (⟨t278, t279, t280⟩ : S24) [.int .i64 t278, .int .i64 t279, .slice Ao15 t280.length co15] (fun k_ => (w.heap.size ≤ k_) ∧ k_ ≠ gb262 ∧ k_ ≠ g) (fun k_ => ((fun k_ => (w.heap.size ≤ k_) ∧ k_ ≠ gb262 ∧ k_ ≠ g)) k_ ∧ some k_ ≠ (u3 : Value).ownBlock) rfl rfl ?aP (fun _ hk => hk) ?aF ?aO (Below.refl _ _) ?aS ?aL ?_; (case aP => exact (k24_mkF _ _ (⟨t278, t279, t280⟩ : S24) (Kd.V_reads' (Kd.V_mono (ok' := (fun k_ => ((fun k_ => (w.heap.size ≤ k_) ∧ k_ ≠ gb262 ∧ k_ ≠ g)) k_ ∧ some k_ ≠ (u3 : Value).ownBlock)) (HO282.out) (fun k_ hk => ⟨⟨hk.1, ⟨hk.2.2.1, hk.2.2.2⟩⟩, hk.2.1⟩))).2.1 (Kd.V_F (Kd.V_mono (ok' := (fun k_ => ((fun k_ => (w.heap.size ≤ k_) ∧ k_ ≠ gb262 ∧ k_ ≠ g)) k_ ∧ some k_ ≠ (u3 : Value).ownBlock)) (HO282.out) (fun k_ hk => ⟨⟨hk.1, ⟨hk.2.2.1, hk.2.2.2⟩⟩, hk.2.1⟩))))); (case aF => exact (fun k_ hk => ⟨(Nat.le_trans (keep_size (w := w) (g := g) (row := none) (kK)) hk), Kd.freshB (g := gb262) (o := .cells #[.int .i64 0, .int .i64 0, .slice none 0 0] 24 (0, 0)) (bK) k_ hk, IsS50.fresh (by repeat (first | (with_reducible first | exact HI0.out | apply IsS50.alloc | apply IsS50.drewN | apply IsS50.drew | apply IsS50.set_0 | apply IsS50.set_1 | apply IsS50.set_2 | refine IsS50.far ?_ NB0_262.out _) | exact HI0.out)) k_ hk⟩)); (case aO => exact (by (with_reducible repeat (first | apply Kd.N_alloc | apply Kd.N_drewN | apply Kd.N_drew)); exact HO_3.out)); (case aS => exact (keep_size (w := w) (g := g) (row := none) (kK))); (case aL => have := LMc11.out; omega); intro v287 w14 ho hb hg hat; rw [← Ny286.out] at ho; have n0_ := Aside0.mk (blk_grown (g := gb262) (o := .cells #[.int .i64 0, .int .i64 0, .slice none 0 0] 24 (0, 0)) (bK) hg (Kd.N_away HO_3.out (fun _ hk => hk.2.1))); have n1_ := Aside0.mk (IsS50.grown (by repeat (first | (with_reducible first | exact HI0.out | apply IsS50.alloc | apply IsS50.drewN | apply IsS50.drew | apply IsS50.set_0 | apply IsS50.set_1 | apply IsS50.set_2 | refine IsS50.far ?_ NB0_262.out _) | exact HI0.out)) hg (IsS50.own_neN HI0.out HO_3.out (by decide))); have n2_ := Aside0.mk (Kd.V_afterv (ok := (fun k_ => (w.heap.size ≤ k_) ∧ k_ ≠ gb262 ∧ k_ ≠ g)) (by (with_reducible repeat (first | apply Kd.V_alloc | apply Kd.V_drewN | apply Kd.V_drew)); exact Kd.V_mono HO282.out (fun _ hk => ⟨⟨hk.1, ⟨hk.2.2.1, hk.2.2.2⟩⟩, hk.2.1⟩)) hg hat); have n3_ := Aside0.mk (below_weaken (by repeat (first | (with_reducible first | exact HB.out | apply below_alloc | apply pw_below_drewN | apply below_drew1 | refine below_set ?_ (IsS50.ge HI0.out) | refine below_set ?_ GE262.out) | exact HB.out)) HL.out hb); have n4_ := Aside0.mk (KeepBut.trans (kK) (KeepBut.of_grown hg g) (Kd.N_base2 HO_3.out)); have n5_ := Aside0.mk (ho); clear BK262; clear HI0; clear HO282; clear HB; clear HK; clear HO_3; have BK262 := n0_; have HI0 := n1_; have HO282 := n2_; have HB := n3_; have HK := n4_; have HO288 := n5_; clear n0_ n1_ n2_ n3_ n4_ n5_; clear ho hb hg hat))
     (first | go_roundg k1 | ((simp only [add_plain] at *); go_roundg k1))
     case measure => have := HK1.out; omega
     case rel => exact ⟨(y286), (t283), (t284), (t285), H', ⟨by have := HK1.out; omega⟩, ⟨by (with_reducible repeat (first | apply Kd.N_alloc | apply Kd.N_drewN | apply Kd.N_drew)); exact HO288.out⟩, ⟨bK⟩, ⟨by repeat (first | (with_reducible first | exact HI0.out | apply IsS50.alloc | apply IsS50.drewN | apply IsS50.drew | apply IsS50.set_0 | apply IsS50.set_1 | apply IsS50.set_2 | refine IsS50.far ?_ NB0_262.out _) | exact HI0.out)⟩, ⟨kK⟩, ⟨by repeat (first | (with_reducible first | exact HB.out | apply below_alloc | apply pw_below_drewN | apply below_drew1 | refine below_set ?_ (IsS50.ge HI0.out) | refine below_set ?_ GE262.out) | exact HB.out)⟩⟩
    ·rw [if_neg c11] at H
     exact absurd H (by simp)
   ·replace c9 := Bool.eq_false_iff.mpr c9
    subst c9
    have H1 : ((expr_several.f 5 x3_1).bind fun bt289 => (some (bt289.1, bt289.2.1, bt289.2.2, t275, t276, t277))) = some (r1, r2, r3, r4, r5, r6) := by rw [if_neg (show ¬ (false = true) by decide)] at H; exact H
    clear H
    have H := H1
    clear H1
    replace H := Option.bind_eq_some_iff.mp H
    obtain ⟨⟨t289, t290, t291⟩, A160, H⟩ := H
    replace H : (some (t289, t290, t291, t275, t276, t277)) = some (r1, r2, r3, r4, r5, r6) := H
    have A16 := Aside0.mk A160
    clear A160
    simp only [Option.some.injEq, Prod.mk.injEq] at H
    obtain ⟨rfl, rfl, rfl, rfl, rfl, rfl⟩ := H
    go_wp2_with (first | ((with_reducible refine gate_callee (f := 93) rfl ?_); refine goesL_ (some 8) rfl rfl Try.func93 (by kernel_rfl) rfl #[.pointer (some ⟨g, 0, none⟩)] rfl (by (try simp only [List.map_toArray, List.map_cons, List.map_nil]); first | done | rfl | (simp only [List.length_drop, List.length_take]; rfl) | (simp only [Int.ofNat_lt, Int.ofNat_le]; rfl)) ?_; (with_reducible refine (expr_parser_begins.calls k1 g x1000_1 x1001_1 x1002_1 false t275 t276 t277 w0 _ ?side1 ?side2 A8.out).mono ?_); (case side1 => repeat (first | (with_reducible first | exact HI0.out | apply IsS50.alloc | apply IsS50.drewN | apply IsS50.drew | apply IsS50.set_0 | apply IsS50.set_1 | apply IsS50.set_2 | refine IsS50.far ?_ NB0_262.out _) | exact HI0.out)); (case side2 => repeat (first | (with_reducible first | exact HB.out | apply below_alloc | apply pw_below_drewN | apply below_drew1 | refine below_set ?_ (IsS50.ge HI0.out) | refine below_set ?_ GE262.out) | exact HB.out)); rintro e w17 ⟨rfl, hi, hb, hk⟩; refine ⟨_, rfl, ?_⟩; have n0_ := Aside0.mk (Kd.N_mono (Kd.N_keep (Kd.N_mono (ok := fun k_ => (((w.heap.size ≤ k_)) ∧ (k_ ≠ gb262 ∧ k_ ≠ g))) (by (with_reducible repeat (first | apply Kd.N_alloc | apply Kd.N_drewN | apply Kd.N_drew)); exact HO_3.out) (fun k_ hk_ => (⟨hk_, hk_.2.2⟩ : _ ∧ k_ ≠ g))) hk (fun _ h => h.2)) (fun _ h => h.1)); have n1_ := Aside0.mk (KeepBut.blk hk (g' := gb262) (o := .cells #[.int .i64 0, .int .i64 0, .slice none 0 0] 24 (0, 0)) (bK) NB262_0.out (by simp)); have n2_ := Aside0.mk (KeepBut.trans (kK) hk (.inl rfl)); have n3_ := Aside0.mk (hb); have n4_ := Aside0.mk (hi); clear HO_3; clear BK262; clear HK; clear HB; clear HI0; have HO_3 := n0_; have BK262 := n1_; have HK := n2_; have HB := n3_; have HI0 := n4_; clear n0_ n1_ n2_ n3_ n4_; (try clear hb); (try clear hb2); (try clear hk); (try clear hi); obtain ⟨Ao18, co18, eo18⟩ := Kd.N_slice HO_3.out; subst eo18) | ((with_reducible refine gate_callee (f := 84) rfl ?_); (fail_if_success (have chk_ := HO293)); refine goesL_ (some 15) rfl rfl Try.func84 (by kernel_rfl) rfl #[.int .i64 5, .slice Ao18 x3_1.length co18] rfl (by (try simp only [List.map_toArray, List.map_cons, List.map_nil]); first | done | rfl | (simp only [List.length_drop, List.length_take]; rfl) | (simp only [Int.ofNat_lt, Int.ofNat_le]; rfl)) ?_; (with_reducible refine (expr_several.calls 5 (fun k_ => ((w.heap.size ≤ k_) ∧ (k_ ≠ gb262 ∧ k_ ≠ g))) _ _ x3_1 t289 t290 t291 _ ?side1 A16.out).mono ?_); (case side1 => exact Kd.N_V (HO_3.out)); rintro e w19 ⟨v292, rfl, ho0, hb⟩; refine ⟨_, rfl, ?_⟩; have n0_ := Aside0.mk (Kd.N_below (by (with_reducible repeat (first | apply Kd.N_alloc | apply Kd.N_drewN | apply Kd.N_drew)); exact HO_3.out) hb); have n1_ := Aside0.mk (Kd.V_lower (Kd.V_mono (ok' := fun k_ => (w.heap.size ≤ k_) ∧ k_ ≠ gb262 ∧ k_ ≠ g) ho0 (fun k_ hk_ => ⟨Or.elim hk_ (fun hs_ => hs_.1) (fun hn_ => (Nat.le_trans (keep_size (w := w) (g := g) (row := none) (kK)) hn_)), Or.elim hk_ (fun hs_ => hs_.2.1) (fun hn_ => (Kd.freshB (g := gb262) (o := .cells #[.int .i64 0, .int .i64 0, .slice none 0 0] 24 (0, 0)) (bK) k_ hn_)), Or.elim hk_ (fun hs_ => hs_.2.2) (fun hn_ => (IsS50.fresh (by repeat (first | (with_reducible first | exact HI0.out | apply IsS50.alloc | apply IsS50.drewN | apply IsS50.drew | apply IsS50.set_0 | apply IsS50.set_1 | apply IsS50.set_2 | refine IsS50.far ?_ NB0_262.out _) | exact HI0.out)) k_ hn_))⟩)) (keep_size (w := w) (g := g) (row := none) (kK))); have n2_ := Aside0.mk (blk_below (g := gb262) (o := .cells #[.int .i64 0, .int .i64 0, .slice none 0 0] 24 (0, 0)) (bK) hb); have n3_ := Aside0.mk (IsS50.below (by repeat (first | (with_reducible first | exact HI0.out | apply IsS50.alloc | apply IsS50.drewN | apply IsS50.drew | apply IsS50.set_0 | apply IsS50.set_1 | apply IsS50.set_2 | refine IsS50.far ?_ NB0_262.out _) | exact HI0.out)) hb); have n4_ := Aside0.mk (KeepBut.trans (kK) (KeepBut.of_below hb g none) (.inl rfl)); have n5_ := Aside0.mk (below_step (by repeat (first | (with_reducible first | exact HB.out | apply below_alloc | apply pw_below_drewN | apply below_drew1 | refine below_set ?_ (IsS50.ge HI0.out) | refine below_set ?_ GE262.out) | exact HB.out)) hb); clear HO_3; clear BK262; clear HI0; clear HK; clear HB; have HO_3 := n0_; have HO293 := n1_; have BK262 := n2_; have HI0 := n3_; have HK := n4_; have HB := n5_; clear n0_ n1_ n2_ n3_ n4_ n5_; (try clear hb); (try clear hb2); (try clear hk); (try clear hi); (try clear ho0); have hnb20 := NB262_0.out; have hnc20 := NB0_262.out; have hcz21_0 : w19.cell? ⟨gb262, 0, none⟩ = some (.int .i64 0) := (blk_cell BK262.out 0).trans rfl; have hcz21_1 : w19.cell? ⟨gb262, 1, none⟩ = some (.int .i64 0) := (blk_cell BK262.out 1).trans rfl; have hcz21_2 : w19.cell? ⟨gb262, 2, none⟩ = some (.slice none 0 0) := (blk_cell BK262.out 2).trans rfl; have hfz21_0 := blk_frozen BK262.out 0; have hfz21_1 := blk_frozen BK262.out 1; have hfz21_2 := blk_frozen BK262.out 2; obtain ⟨Ao22, co22, eo22⟩ := Kd.V_slice HO293.out; subst eo22))
    refine bodyPost_ret (results_cell_row rfl _ _ gb262 24 #[.int .i64 t289, .int .i64 t290, .slice Ao22 t291.length co22] (0, 0) _ rfl (by (with_reducible repeat (first | refine blk_drewN ?_ _ | refine blk_drew ?_ | refine blk_alloc ?_ _)); refine blk_put (cs := #[.int .i64 t289, .int .i64 t290, .slice none 0 0]) ?_ 2 _ rfl; (with_reducible repeat (first | refine blk_drewN ?_ _ | refine blk_drew ?_ | refine blk_alloc ?_ _)); refine blk_put (cs := #[.int .i64 t289, .int .i64 0, .slice none 0 0]) ?_ 1 _ rfl; (with_reducible repeat (first | refine blk_drewN ?_ _ | refine blk_drew ?_ | refine blk_alloc ?_ _)); refine blk_put (cs := #[.int .i64 0, .int .i64 0, .slice none 0 0]) ?_ 0 _ rfl; (with_reducible repeat (first | refine blk_drewN ?_ _ | refine blk_drew ?_ | refine blk_alloc ?_ _)); exact BK262.out) Try.underlying24 rfl (by kernel_rfl)) rfl ?_
    exact ⟨_, by first | rfl | (simp [errW_none, errW_some] <;> rfl) | (simp [*, errW_none, errW_some] <;> rfl), by (with_reducible repeat (first | apply Kd.V_alloc | apply Kd.V_drewN | apply Kd.V_drew)); exact Kd.V_mono (Kd.V_far (p := ⟨gb262, 2, none⟩) (Kd.V_far (p := ⟨gb262, 1, none⟩) (Kd.V_far (p := ⟨gb262, 0, none⟩) (Kd.V_mono HO293.out (fun k_ hk => (⟨hk, hk.2.1⟩ : _ ∧ k_ ≠ gb262))) (fun _ hk => hk.2) (.int .i64 t289)) (fun _ hk => hk.2) (.int .i64 t290)) (fun _ hk => hk.2) (.slice Ao22 t291.length co22)) (fun _ hk => hk.1.1), by repeat (first | (with_reducible first | exact HI0.out | apply IsS50.alloc | apply IsS50.drewN | apply IsS50.drew | apply IsS50.set_0 | apply IsS50.set_1 | apply IsS50.set_2 | refine IsS50.far ?_ NB0_262.out _) | exact HI0.out), by repeat (first | (with_reducible first | exact HB.out | apply below_alloc | apply pw_below_drewN | apply below_drew1 | refine below_set ?_ (IsS50.ge HI0.out) | refine below_set ?_ GE262.out) | exact HB.out), kK⟩
end Go.Proofs.Ytjofkebiacaciaa.PAll
end
section
namespace Go.Proofs.Ytjofkebiacaciaa.PAll
open Go.RowKit Go.Proofs.YtjofkebiacaciaaW.PrintWords Go.Proofs.YtjofkebiacaciaaW.PrintLast Go.Proofs.YtjofkebiacaciaaW.PrintMore
set_option linter.all false
variable {P : Program} {ops : Array Oper} {Q : Exit → Act → World → Prop}
theorem gateV {o : Oper} {rest : List Oper} {a : Act} {W : World} {t : Tmp} {ts : Array TypeId} (_ho : o.op = .call { callee := .value (.tmp t), args := #[], argTypes := ts }) (h : wpList P ops Q (o :: rest) a W) : wpList P ops Q (o :: rest) a W := h
theorem goesV_ {rest : List Oper} {oi : Oper} {a : Act} {w : World} (N : Option Tmp) (hd : oi.dst = N) (hg : oi.guard = none) {f : FuncId} {fn : Func} {t : Tmp} {ts : Array TypeId} (hf : P.funcs[f]? = some fn) (hname : (fn.name == "runtime.NumGoroutine") = false) (hb : fn.body.isSome = true) (args : Array Value)
  (hop : oi.op = .call { callee := .value (.tmp t), args := #[], argTypes := ts }) (hv : a.eval (.tmp t) = .func (.func f) args #[])
  (h : Calls P f args w fun e w' => ∃ v, e = .returned v ∧ wpList P ops Q rest (a.put N v) w') : wpList P ops Q (oi :: rest) a w := by
 refine wpList_plain hg fun K hK => ?_
 have he := enters_ hf hname hb args w
 have hrun : (execOp a.eval oi).run P w = .ok (.enter f args) w := by
  unfold execOp
  simp [hop, resolve, hv, Deferred.ofValue, invoke, he]
 unfold Oper.wp
 rw [hrun, Oper.upon_enter]
 refine h.mono fun e w'' hh => ?_
 obtain ⟨v, rfl, hk⟩ := hh
 subst hd
 exact hK _ _ hk
end Go.Proofs.Ytjofkebiacaciaa.PAll
end
section
namespace Go.Proofs.Ytjofkebiacaciaa.PAll
open Go.RowKit Go.Proofs.YtjofkebiacaciaaW.PrintWords Go.Proofs.YtjofkebiacaciaaW.PrintLast Go.Proofs.YtjofkebiacaciaaW.PrintMore
attribute [local go_sem] max2_int min2_int max_two min_two max_three min_three max_four min_four
set_option linter.unusedVariables false
set_option linter.unusedSimpArgs false
set_option linter.all false
variable [AtomC]
def expr_parser_listC.l0 : Nat → Int → Int → List (S24) → ByteArray → Int → Int → Option (Int × Int × (List (S24)) × ByteArray × Int × Int)
 | 0, _, _, _, _, _, _ => none
 | k + 1, x1, x2, x9, x1000, x1001, x1002 => (expr_parser_is.f k x1000 x1001 x1002 x2).bind fun bt221 => (if bt221.1 = true then ((expr_parser_cat.f k bt221.2.1 bt221.2.2.1 (wrap64 (bt221.2.2.2 + 1))).bind fun bt225 => (if x9.length < 3518437208883 then (expr_parser_listC.l0 k x1 x2 (x9 ++ [(⟨bt225.1, bt225.2.1, bt225.2.2.1⟩ : S24)]) bt225.2.2.2.1 bt225.2.2.2.2.1 bt225.2.2.2.2.2) else (none))) else ((expr_several.f x1 x9).bind fun bt236 => (some (bt236.1, bt236.2.1, bt236.2.2, bt221.2.1, bt221.2.2.1, bt221.2.2.2))))
def expr_parser_listC.f (k : Nat) (s0_0 : ByteArray) (s0_1 : Int) (s0_2 : Int) (a1 : Int) (a2 : Int) : Option (Int × Int × (List (S24)) × ByteArray × Int × Int) := (expr_parser_cat.f k s0_0 s0_1 s0_2).bind fun bt210 => (expr_parser_listC.l0 k a1 a2 (([(⟨bt210.1, bt210.2.1, bt210.2.2.1⟩ : S24)] : List (S24))) bt210.2.2.2.1 bt210.2.2.2.2.1 bt210.2.2.2.2.2)
theorem expr_parser_listC.mono_l : ∀ k, (∀ y0 y1 y2 y3 y4 y5, LeO (expr_parser_listC.l0 k y0 y1 y2 y3 y4 y5) (expr_parser_listC.l0 (k + 1) y0 y1 y2 y3 y4 y5))
 | 0 => fun _ _ _ _ _ _ r h => by simp [expr_parser_listC.l0] at h
 | k + 1 => by
  have ih0 := expr_parser_listC.mono_l k
  ·intro y0 y1 y2 y3 y4 y5
   unfold expr_parser_listC.l0
   repeat' first
   | (with_reducible exact ih0 _ _ _ _ _ _)
   | (with_reducible exact expr_parser_cat.mono _ _ _ _)
   | (with_reducible exact expr_parser_is.mono _ _ _ _ _)
   | (with_reducible exact LeO.refl _)
   | (with_reducible exact LeO.none _)
   | (with_reducible refine LeO.ite ?_ ?_)
   | (with_reducible refine LeO.bind ?_ (fun _ => ?_))
   | exact ih0 _ _ _ _ _ _
   | exact expr_parser_cat.mono _ _ _ _
   | exact expr_parser_is.mono _ _ _ _ _
   | exact LeO.none _
   | refine LeO.ite ?_ ?_
   | refine LeO.bind ?_ (fun _ => ?_)
theorem expr_parser_listC.mono : ∀ a0 a1 a2 a3 a4 k, LeO (expr_parser_listC.f k a0 a1 a2 a3 a4) (expr_parser_listC.f (k + 1) a0 a1 a2 a3 a4) := by
 intro a0 a1 a2 a3 a4 k
 have ih0 := expr_parser_listC.mono_l k
 unfold expr_parser_listC.f
 repeat' first
   | (with_reducible exact ih0 _ _ _ _ _ _)
   | (with_reducible exact expr_parser_cat.mono _ _ _ _)
   | (with_reducible exact expr_parser_is.mono _ _ _ _ _)
   | (with_reducible exact LeO.refl _)
   | (with_reducible exact LeO.none _)
   | (with_reducible refine LeO.ite ?_ ?_)
   | (with_reducible refine LeO.bind ?_ (fun _ => ?_))
   | exact ih0 _ _ _ _ _ _
   | exact expr_parser_cat.mono _ _ _ _
   | exact expr_parser_is.mono _ _ _ _ _
   | exact LeO.none _
   | refine LeO.ite ?_ ?_
   | refine LeO.bind ?_ (fun _ => ?_)
set_option maxHeartbeats 8000000 in
set_option maxRecDepth 100000 in
theorem expr_parser_listC.calls (k : Nat) (g : Nat) (s0_0 : ByteArray) (s0_1 : Int) (s0_2 : Int) (a1 : Int) (a2 : Int) (r1 : Int) (r2 : Int) (r3 : List (S24)) (r4 : ByteArray) (r5 : Int) (r6 : Int) (w0 w : World) (hI : IsS50 w0 w g s0_0 s0_1 s0_2) (hB : Below w0.heap.size w0 w) (h : expr_parser_listC.f k s0_0 s0_1 s0_2 a1 a2 = some (r1, r2, r3, r4, r5, r6)) :
  Calls Try.prog 71 #[.pointer (some ⟨g, 0, none⟩), .int .i64 a1, .int .u8 a2, .func (.func 85) #[.pointer (some ⟨g, 0, none⟩)] #[]] w fun e w' => ∃ v2_ : Value, e = .returned (.agg #[.int .i64 r1, .int .i64 r2, v2_]) ∧ Kd.V k24 24 w' w.heap.size (fun k_ => (w.heap.size ≤ k_)) v2_ r3 ∧ IsS50 w0 w' g r4 r5 r6 ∧ Below w0.heap.size w0 w' ∧ KeepBut w w' g none := by
 have hu24 := Try.underlying24
 have HI0 := Aside0.mk hI
 have HK := Aside0.mk (KeepBut.refl w g none)
 have HL := Aside0.mk hB.size
 clear hI
 have HW0 := Aside0.mk hB.size
 have HB := Aside0.mk hB
 clear hB
 have H : ((expr_parser_cat.f k s0_0 s0_1 s0_2).bind fun bt210 => (expr_parser_listC.l0 k a1 a2 (([(⟨bt210.1, bt210.2.1, bt210.2.2.1⟩ : S24)] : List (S24))) bt210.2.2.2.1 bt210.2.2.2.2.1 bt210.2.2.2.2.2)) = some (r1, r2, r3, r4, r5, r6) := h
 clear h
 replace H := Option.bind_eq_some_iff.mp H
 obtain ⟨⟨t210, t211, t212, t215, t216, t217⟩, A40, H⟩ := H
 replace H : (expr_parser_listC.l0 k a1 a2 (([(⟨t210, t211, t212⟩ : S24)] : List (S24))) t215 t216 t217) = some (r1, r2, r3, r4, r5, r6) := H
 have A4 := Aside0.mk A40
 clear A40
 obtain ⟨y218, hy218⟩ : ∃ y_ : List (S24), y_ = (([(⟨t210, t211, t212⟩ : S24)] : List (S24))) := ⟨_, rfl⟩
 replace H : (expr_parser_listC.l0 k a1 a2 y218 t215 t216 t217) = some (r1, r2, r3, r4, r5, r6) := by first | (rw [hy218]; with_reducible exact H) | (have H2_ := (Option.bind_some _ _).symm.trans H; rw [hy218]; with_reducible exact H2_) | (have H2_ := (Option.bind_some _ _).symm.trans H; with_reducible exact H2_) | with_reducible exact H | (rw [hy218]; exact H) | exact H
 have Ny218 := Aside0.mk hy218
 clear hy218
 have H' := Aside0.mk H
 clear H
 go_enter Try.func71, Try.ntmps71
 go_wp2_with (first | ((with_reducible refine gate_dst (N := 8) rfl ?_); refine box_event ?hg (N := 8) ?hd (cs := #[.int .i64 0, .int .i64 0, .slice none 0 0]) (t := 24) ?hr ?_; (case hd => rfl); (case hg => rfl); (case hr => first | (go_simp; done) | (go_simp; rfl)); intro gb209 hg w5 hbox hb; have n0_ := Aside0.mk (IsS50.below (by repeat (first | (with_reducible first | exact HI0.out | apply IsS50.alloc | apply IsS50.drewN | apply IsS50.drew | apply IsS50.set_0 | apply IsS50.set_1 | apply IsS50.set_2) | exact HI0.out)) hb); have n1_ := Aside0.mk (KeepBut.trans (kK) (KeepBut.of_below hb g none) (.inl rfl)); have n2_ := Aside0.mk (below_step (by repeat (first | (with_reducible first | exact HB.out | apply below_alloc | apply pw_below_drewN | apply below_drew1 | refine below_set ?_ (IsS50.ge HI0.out)) | exact HB.out)) hb); have n3_ := Aside0.mk (hbox); have n4_ := Aside0.mk ((by rw [hg]; exact (keep_size (w := w) (g := g) (row := none) (kK)) : w.heap.size ≤ gb209)); have n5_ := Aside0.mk ((Nat.le_trans HW0.out (by rw [hg]; exact (keep_size (w := w) (g := g) (row := none) (kK)) : w.heap.size ≤ gb209) : w0.heap.size ≤ gb209)); have n6_ := Aside0.mk ((by rw [hg]; exact Nat.ne_of_lt (IsS50.lt (show IsS50 w0 _ g s0_0 s0_1 s0_2 from by repeat (first | (with_reducible first | exact HI0.out | apply IsS50.alloc | apply IsS50.drewN | apply IsS50.drew | apply IsS50.set_0 | apply IsS50.set_1 | apply IsS50.set_2) | exact HI0.out))) : g ≠ gb209)); have n7_ := Aside0.mk ((by rw [hg]; exact Nat.ne_of_gt (IsS50.lt (show IsS50 w0 _ g s0_0 s0_1 s0_2 from by repeat (first | (with_reducible first | exact HI0.out | apply IsS50.alloc | apply IsS50.drewN | apply IsS50.drew | apply IsS50.set_0 | apply IsS50.set_1 | apply IsS50.set_2) | exact HI0.out))) : gb209 ≠ g)); clear HI0; clear HK; clear HB; have HI0 := n0_; have HK := n1_; have HB := n2_; have BK209 := n3_; have GW209 := n4_; have GE209 := n5_; have NB0_209 := n6_; have NB209_0 := n7_; clear n0_ n1_ n2_ n3_ n4_ n5_ n6_ n7_; clear hb hbox hg) | ((with_reducible refine gateV rfl ?_); (fail_if_success (have chk_ := HO214)); refine goesV_ (some 11) rfl rfl Try.func85 (by kernel_rfl) rfl #[.pointer (some ⟨g, 0, none⟩)] rfl (by (try simp only [List.map_toArray, List.map_cons, List.map_nil]); first | done | rfl | (simp only [List.length_drop, List.length_take]; rfl)) ?_; (with_reducible refine (expr_parser_cat.calls k g s0_0 s0_1 s0_2 t210 t211 t212 t215 t216 t217 w0 _ ?side1 ?side2 A4.out).mono ?_); (case side1 => repeat (first | (with_reducible first | exact HI0.out | apply IsS50.alloc | apply IsS50.drewN | apply IsS50.drew | apply IsS50.set_0 | apply IsS50.set_1 | apply IsS50.set_2 | refine IsS50.far ?_ NB0_209.out _) | exact HI0.out)); (case side2 => repeat (first | (with_reducible first | exact HB.out | apply below_alloc | apply pw_below_drewN | apply below_drew1 | refine below_set ?_ (IsS50.ge HI0.out) | refine below_set ?_ GE209.out) | exact HB.out)); rintro e w6 ⟨v213, rfl, ho0, hi, hb, hk⟩; refine ⟨_, rfl, ?_⟩; have n0_ := Aside0.mk (KeepBut.blk hk (g' := gb209) (o := .cells #[.int .i64 0, .int .i64 0, .slice none 0 0] 24 (0, 0)) (bK) NB209_0.out (by simp)); have n1_ := Aside0.mk (Kd.V_lower (Kd.V_mono (ok' := fun k_ => (w.heap.size ≤ k_) ∧ k_ ≠ gb209 ∧ k_ ≠ g) ho0 (fun k_ hk_ => ⟨(Nat.le_trans (keep_size (w := w) (g := g) (row := none) (kK)) hk_), (Kd.freshB (g := gb209) (o := .cells #[.int .i64 0, .int .i64 0, .slice none 0 0] 24 (0, 0)) (bK) k_ hk_), (IsS50.fresh (by repeat (first | (with_reducible first | exact HI0.out | apply IsS50.alloc | apply IsS50.drewN | apply IsS50.drew | apply IsS50.set_0 | apply IsS50.set_1 | apply IsS50.set_2 | refine IsS50.far ?_ NB0_209.out _) | exact HI0.out)) k_ hk_)⟩)) (keep_size (w := w) (g := g) (row := none) (kK))); have n2_ := Aside0.mk (KeepBut.trans (kK) hk (.inl rfl)); have n3_ := Aside0.mk (hb); have n4_ := Aside0.mk (hi); clear BK209; clear HK; clear HB; clear HI0; have BK209 := n0_; have HO214 := n1_; have HK := n2_; have HB := n3_; have HI0 := n4_; clear n0_ n1_ n2_ n3_ n4_; (try clear hb); (try clear hb2); (try clear hk); (try clear hi); (try clear ho0); obtain ⟨Ao7, co7, eo7⟩ := Kd.V_slice HO214.out; subst eo7) | ((with_reducible refine gate_dst (N := 12) rfl ?_); refine Kd.N_lit k24 _ 24 ?hg (N' := 12) ?hd (xs := ([(⟨t210, t211, t212⟩ : S24)] : List (S24))) (inner := [.int .i64 t210, .int .i64 t211, .slice Ao7 t212.length co7]) (ok := (fun k_ => (w.heap.size ≤ k_) ∧ k_ ≠ gb209 ∧ k_ ≠ g)) (okp := (fun k_ => (w.heap.size ≤ k_) ∧ k_ ≠ gb209 ∧ k_ ≠ g)) ?hr ?hp (fun _ hk => hk) ((show ∀ k_, w6.heap.size ≤ k_ → (fun k_ => (w.heap.size ≤ k_) ∧ k_ ≠ gb209 ∧ k_ ≠ g) k_ from fun k_ hk => ⟨(Nat.le_trans (keep_size (w := w) (g := g) (row := none) (kK)) hk), Kd.freshB (g := gb209) (o := .cells #[.int .i64 0, .int .i64 0, .slice none 0 0] 24 (0, 0)) (bK) k_ hk, IsS50.fresh (by repeat (first | (with_reducible first | exact HI0.out | apply IsS50.alloc | apply IsS50.drewN | apply IsS50.drew | apply IsS50.set_0 | apply IsS50.set_1 | apply IsS50.set_2 | refine IsS50.far ?_ NB0_209.out _) | exact HI0.out)) k_ hk⟩) _ (Nat.le_refl _)) (Below.refl _ _) (Nat.le_refl _) (by simp) ?_; (case hd => rfl); (case hg => rfl); (case hr => first | (go_simp; done) | (go_simp; rfl)); (case hp => exact (Reps.c3 (show Kd.FK k24 _ _ (⟨t210, t211, t212⟩ : S24) [.int .i64 t210, .int .i64 t211, .slice Ao7 t212.length co7] from (k24_mkF _ _ (⟨t210, t211, t212⟩ : S24) (Kd.V_reads' (Kd.V_mono (ok' := (fun k_ => (w.heap.size ≤ k_) ∧ k_ ≠ gb209 ∧ k_ ≠ g)) (HO214.out) (fun k_ hk => ⟨hk.1, ⟨hk.2.1, hk.2.2⟩⟩))).2.1 (Kd.V_F (Kd.V_mono (ok' := (fun k_ => (w.heap.size ≤ k_) ∧ k_ ≠ gb209 ∧ k_ ≠ g)) (HO214.out) (fun k_ hk => ⟨hk.1, ⟨hk.2.1, hk.2.2⟩⟩))))) (Reps.none _ _))); intro v219 w8 ho9 hb hg_ hnew_; clear hg_ hnew_; (first | rw [← Ny218.out] at ho9 | (simp only [Int.reduceToNat] at ho9; rw [← Ny218.out] at ho9)); have n0_ := Aside0.mk (Kd.V_elder' (by (with_reducible repeat (first | apply Kd.V_alloc | apply Kd.V_drewN | apply Kd.V_drew)); exact HO214.out) (Kd.N_base ho9) hb); have n1_ := Aside0.mk (Kd.N_lower ho9 (keep_size (w := w) (g := g) (row := none) (kK))); have n2_ := Aside0.mk (IsS50.below (by repeat (first | (with_reducible first | exact HI0.out | apply IsS50.alloc | apply IsS50.drewN | apply IsS50.drew | apply IsS50.set_0 | apply IsS50.set_1 | apply IsS50.set_2 | refine IsS50.far ?_ NB0_209.out _) | exact HI0.out)) hb); have n3_ := Aside0.mk (blk_below (g := gb209) (o := .cells #[.int .i64 0, .int .i64 0, .slice none 0 0] 24 (0, 0)) (bK) hb); have n4_ := Aside0.mk (KeepBut.trans (kK) (KeepBut.of_below hb g none) (.inl rfl)); have n5_ := Aside0.mk (below_step (by repeat (first | (with_reducible first | exact HB.out | apply below_alloc | apply pw_below_drewN | apply below_drew1 | refine below_set ?_ (IsS50.ge HI0.out) | refine below_set ?_ GE209.out) | exact HB.out)) hb); clear HO214; clear HI0; clear BK209; clear HK; clear HB; have HO214 := n0_; have HO220 := n1_; have HI0 := n2_; have BK209 := n3_; have HK := n4_; have HB := n5_; clear n0_ n1_ n2_ n3_ n4_ n5_; clear hb ho9))
 go_loopg [9] k (fun kq v9 w' => ∃ (x9_1 : List (S24)) (x1000_1 : ByteArray) (x1001_1 : Int) (x1002_1 : Int), Aside0 (expr_parser_listC.l0 kq a1 a2 x9_1 x1000_1 x1001_1 x1002_1 = some (r1, r2, r3, r4, r5, r6)) ∧ Aside0 (kq ≤ k) ∧ Aside0 (Kd.N k24 24 w' w.heap.size (fun k_ => (w.heap.size ≤ k_) ∧ k_ ≠ gb209 ∧ k_ ≠ g) v9 x9_1) ∧ Aside0 (w'.heap[gb209]? = some (.cells #[.int .i64 0, .int .i64 0, (.slice none 0 0)] 24 (0, 0))) ∧ Aside0 (IsS50 w0 w' g x1000_1 x1001_1 x1002_1) ∧ Aside0 (KeepBut w w' g none) ∧ Aside0 (Below w0.heap.size w0 w'))
 case atStart => exact ⟨(y218), (t215), (t216), (t217), H', ⟨Nat.le_refl _⟩, ⟨by (with_reducible repeat (first | apply Kd.N_alloc | apply Kd.N_drewN | apply Kd.N_drew)); exact HO220.out⟩, ⟨bK⟩, ⟨by repeat (first | (with_reducible first | exact HI0.out | apply IsS50.alloc | apply IsS50.drewN | apply IsS50.drew | apply IsS50.set_0 | apply IsS50.set_1 | apply IsS50.set_2 | refine IsS50.far ?_ NB0_209.out _) | exact HI0.out)⟩, ⟨kK⟩, ⟨by repeat (first | (with_reducible first | exact HB.out | apply below_alloc | apply pw_below_drewN | apply below_drew1 | refine below_set ?_ (IsS50.ge HI0.out) | refine below_set ?_ GE209.out) | exact HB.out)⟩⟩
 case round =>
  clear H'
  try clear p2
  try clear c3
  try clear c7
  try clear c8
  obtain ⟨x9_1, x1000_1, x1001_1, x1002_1, HA, HK1, HO_9, BK209, HI0, HK, HB⟩ := hrel
  cases gk with
  | zero => exact absurd HA.out (by simp [expr_parser_listC.l0])
  | succ k1 =>
   have H := HA.out
   clear HA
   simp only [expr_parser_listC.l0] at H
   replace H := Option.bind_eq_some_iff.mp H
   obtain ⟨⟨t221, t222, t223, t224⟩, A100, H⟩ := H
   replace H : (if t221 = true then ((expr_parser_cat.f k1 t222 t223 (wrap64 (t224 + 1))).bind fun bt225 => (if x9_1.length < 3518437208883 then (expr_parser_listC.l0 k1 a1 a2 (x9_1 ++ [(⟨bt225.1, bt225.2.1, bt225.2.2.1⟩ : S24)]) bt225.2.2.2.1 bt225.2.2.2.2.1 bt225.2.2.2.2.2) else (none))) else ((expr_several.f a1 x9_1).bind fun bt236 => (some (bt236.1, bt236.2.1, bt236.2.2, t222, t223, t224)))) = some (r1, r2, r3, r4, r5, r6) := H
   have A10 := Aside0.mk A100
   clear A100
   by_cases c11 : t221 = true
   ·subst c11
    have H1 : ((expr_parser_cat.f k1 t222 t223 (wrap64 (t224 + 1))).bind fun bt225 => (if x9_1.length < 3518437208883 then (expr_parser_listC.l0 k1 a1 a2 (x9_1 ++ [(⟨bt225.1, bt225.2.1, bt225.2.2.1⟩ : S24)]) bt225.2.2.2.1 bt225.2.2.2.2.1 bt225.2.2.2.2.2) else (none))) = some (r1, r2, r3, r4, r5, r6) := by rw [if_pos rfl] at H; exact H
    clear H
    have H := H1
    clear H1
    replace H := Option.bind_eq_some_iff.mp H
    obtain ⟨⟨t225, t226, t227, t230, t231, t232⟩, A120, H⟩ := H
    replace H : (if x9_1.length < 3518437208883 then (expr_parser_listC.l0 k1 a1 a2 (x9_1 ++ [(⟨t225, t226, t227⟩ : S24)]) t230 t231 t232) else (none)) = some (r1, r2, r3, r4, r5, r6) := H
    have A12 := Aside0.mk A120
    clear A120
    by_cases c13 : x9_1.length < 3518437208883
    ·rw [if_pos c13] at H
     have LMc13 := Aside0.mk c13
     clear c13
     obtain ⟨y233, hy233⟩ : ∃ y_ : List (S24), y_ = (x9_1 ++ [(⟨t225, t226, t227⟩ : S24)]) := ⟨_, rfl⟩
     replace H : (expr_parser_listC.l0 k1 a1 a2 y233 t230 t231 t232) = some (r1, r2, r3, r4, r5, r6) := by first | (rw [hy233]; with_reducible exact H) | (have H2_ := (Option.bind_some _ _).symm.trans H; rw [hy233]; with_reducible exact H2_) | (have H2_ := (Option.bind_some _ _).symm.trans H; with_reducible exact H2_) | with_reducible exact H | (rw [hy233]; exact H) | exact H
     have Ny233 := Aside0.mk hy233
     clear hy233
     have H' := Aside0.mk H
     clear H
     go_wp2_with (first | ((with_reducible refine gate_callee (f := 83) rfl ?_); refine goesL_ (some 15) rfl rfl Try.func83 (by kernel_rfl) rfl #[.pointer (some ⟨g, 0, none⟩), .int .u8 a2] rfl (by (try simp only [List.map_toArray, List.map_cons, List.map_nil]); first | done | rfl | (simp only [List.length_drop, List.length_take]; rfl)) ?_; (with_reducible refine (expr_parser_is.calls k1 g x1000_1 x1001_1 x1002_1 a2 true t222 t223 t224 w0 _ ?side1 ?side2 A10.out).mono ?_); (case side1 => repeat (first | (with_reducible first | exact HI0.out | apply IsS50.alloc | apply IsS50.drewN | apply IsS50.drew | apply IsS50.set_0 | apply IsS50.set_1 | apply IsS50.set_2 | refine IsS50.far ?_ NB0_209.out _) | exact HI0.out)); (case side2 => repeat (first | (with_reducible first | exact HB.out | apply below_alloc | apply pw_below_drewN | apply below_drew1 | refine below_set ?_ (IsS50.ge HI0.out) | refine below_set ?_ GE209.out) | exact HB.out)); rintro e w14 ⟨rfl, hi, hb, hk⟩; refine ⟨_, rfl, ?_⟩; have n0_ := Aside0.mk (Kd.N_mono (Kd.N_keep (Kd.N_mono (ok := fun k_ => (((w.heap.size ≤ k_)) ∧ (k_ ≠ gb209 ∧ k_ ≠ g))) (by (with_reducible repeat (first | apply Kd.N_alloc | apply Kd.N_drewN | apply Kd.N_drew)); exact HO_9.out) (fun k_ hk_ => (⟨hk_, hk_.2.2⟩ : _ ∧ k_ ≠ g))) hk (fun _ h => h.2)) (fun _ h => h.1)); have n1_ := Aside0.mk (KeepBut.blk hk (g' := gb209) (o := .cells #[.int .i64 0, .int .i64 0, .slice none 0 0] 24 (0, 0)) (bK) NB209_0.out (by simp)); have n2_ := Aside0.mk (KeepBut.trans (kK) hk (.inl rfl)); have n3_ := Aside0.mk (hb); have n4_ := Aside0.mk (hi); clear HO_9; clear BK209; clear HK; clear HB; clear HI0; have HO_9 := n0_; have BK209 := n1_; have HK := n2_; have HB := n3_; have HI0 := n4_; clear n0_ n1_ n2_ n3_ n4_; (try clear hb); (try clear hb2); (try clear hk); (try clear hi); obtain ⟨HGz15, hgz15⟩ := HI0.out; have hcz15_0 := cellS50_0 HGz15; have hcz15_1 := cellS50_1 HGz15; have hcz15_2 := cellS50_2 HGz15; have hfz15_0 := blk_frozen HGz15 0; have hfz15_1 := blk_frozen HGz15 1; have hfz15_2 := blk_frozen HGz15 2; clear HGz15 hgz15) | ((with_reducible refine gateV rfl ?_); (fail_if_success (have chk_ := HO229)); refine goesV_ (some 25) rfl rfl Try.func85 (by kernel_rfl) rfl #[.pointer (some ⟨g, 0, none⟩)] rfl (by (try simp only [List.map_toArray, List.map_cons, List.map_nil]); first | done | rfl | (simp only [List.length_drop, List.length_take]; rfl)) ?_; (with_reducible refine (expr_parser_cat.calls k1 g t222 t223 (wrap64 (t224 + 1)) t225 t226 t227 t230 t231 t232 w0 _ ?side1 ?side2 A12.out).mono ?_); (case side1 => repeat (first | (with_reducible first | exact HI0.out | apply IsS50.alloc | apply IsS50.drewN | apply IsS50.drew | apply IsS50.set_0 | apply IsS50.set_1 | apply IsS50.set_2 | refine IsS50.far ?_ NB0_209.out _) | exact HI0.out)); (case side2 => repeat (first | (with_reducible first | exact HB.out | apply below_alloc | apply pw_below_drewN | apply below_drew1 | refine below_set ?_ (IsS50.ge HI0.out) | refine below_set ?_ GE209.out) | exact HB.out)); rintro e w16 ⟨v228, rfl, ho0, hi, hb, hk⟩; refine ⟨_, rfl, ?_⟩; have n0_ := Aside0.mk (Kd.N_mono (Kd.N_keep (Kd.N_mono (ok := fun k_ => (((w.heap.size ≤ k_)) ∧ (k_ ≠ gb209 ∧ k_ ≠ g))) (by (with_reducible repeat (first | apply Kd.N_alloc | apply Kd.N_drewN | apply Kd.N_drew)); exact (Kd.N_mono (Kd.N_far (p := ⟨g, 2, none⟩) (Kd.N_mono HO_9.out (fun k_ hk => (⟨hk, hk.2.2⟩ : _ ∧ k_ ≠ g))) (fun _ hk => hk.2) (.int .i64 (wrap64 (t224 + 1)))) (fun _ h_ => h_.1))) (fun k_ hk_ => (⟨hk_, hk_.2.2⟩ : _ ∧ k_ ≠ g))) hk (fun _ h => h.2)) (fun _ h => h.1)); have n1_ := Aside0.mk (KeepBut.blk hk (g' := gb209) (o := .cells #[.int .i64 0, .int .i64 0, .slice none 0 0] 24 (0, 0)) (by (with_reducible repeat (first | refine blk_drewN ?_ _ | refine blk_drew ?_ | refine blk_alloc ?_ _)); refine blk_far ?_ NB209_0.out _; (with_reducible repeat (first | refine blk_drewN ?_ _ | refine blk_drew ?_ | refine blk_alloc ?_ _)); exact BK209.out) NB209_0.out (by simp)); have n2_ := Aside0.mk (Kd.V_lower (Kd.V_mono (ok' := fun k_ => (w.heap.size ≤ k_) ∧ some k_ ≠ (u9 : Value).ownBlock ∧ k_ ≠ gb209 ∧ k_ ≠ g) ho0 (fun k_ hk_ => ⟨(Nat.le_trans (keep_size (w := w) (g := g) (row := none) (kK)) hk_), (Kd.fresh' (Kd.N_lt (by (with_reducible repeat (first | apply Kd.N_alloc | apply Kd.N_drewN | apply Kd.N_drew)); exact (Kd.N_mono (Kd.N_far (p := ⟨g, 2, none⟩) (Kd.N_mono HO_9.out (fun k_ hk => (⟨hk, hk.2.2⟩ : _ ∧ k_ ≠ g))) (fun _ hk => hk.2) (.int .i64 (wrap64 (t224 + 1)))) (fun _ h_ => h_.1)))) k_ hk_), (Kd.freshB (g := gb209) (o := .cells #[.int .i64 0, .int .i64 0, .slice none 0 0] 24 (0, 0)) (by (with_reducible repeat (first | refine blk_drewN ?_ _ | refine blk_drew ?_ | refine blk_alloc ?_ _)); refine blk_far ?_ NB209_0.out _; (with_reducible repeat (first | refine blk_drewN ?_ _ | refine blk_drew ?_ | refine blk_alloc ?_ _)); exact BK209.out) k_ hk_), (IsS50.fresh (by repeat (first | (with_reducible first | exact HI0.out | apply IsS50.alloc | apply IsS50.drewN | apply IsS50.drew | apply IsS50.set_0 | apply IsS50.set_1 | apply IsS50.set_2 | refine IsS50.far ?_ NB0_209.out _) | exact HI0.out)) k_ hk_)⟩)) (keep_size (w := w) (g := g) (row := none) (kK))); have n3_ := Aside0.mk (KeepBut.trans (kK) hk (.inl rfl)); have n4_ := Aside0.mk (hb); have n5_ := Aside0.mk (hi); clear HO_9; clear BK209; clear HK; clear HB; clear HI0; have HO_9 := n0_; have BK209 := n1_; have HO229 := n2_; have HK := n3_; have HB := n4_; have HI0 := n5_; clear n0_ n1_ n2_ n3_ n4_ n5_; (try clear hb); (try clear hb2); (try clear hk); (try clear hi); (try clear ho0); obtain ⟨Ao18, co18, eo18⟩ := Kd.V_slice HO229.out; subst eo18) | ((with_reducible refine gate_builtin (b := .append) (xs := #[.tmp 23, .tmp 26]) rfl ?_); at_builtin; refine Kd.N_append k24 w.heap.size rfl (.tmp 23) (.tmp 26) 22 24 (.agg #[(.int .i64 0), (.int .i64 0), (.slice none 0 0)]) 40 rfl Try.underlying22 info24 rfl (by decide) (by omega) u9 x9_1 (⟨t225, t226, t227⟩ : S24) [.int .i64 t225, .int .i64 t226, .slice Ao18 t227.length co18] (fun k_ => (w.heap.size ≤ k_) ∧ k_ ≠ gb209 ∧ k_ ≠ g) (fun k_ => ((fun k_ => (w.heap.size ≤ k_) ∧ k_ ≠ gb209 ∧ k_ ≠ g)) k_ ∧ some k_ ≠ (u9 : Value).ownBlock) rfl rfl ?aP (fun _ hk => hk) ?aF ?aO (Below.refl _ _) ?aS ?aL ?_; (case aP => exact (k24_mkF _ _ (⟨t225, t226, t227⟩ : S24) (Kd.V_reads' (Kd.V_mono (ok' := (fun k_ => ((fun k_ => (w.heap.size ≤ k_) ∧ k_ ≠ gb209 ∧ k_ ≠ g)) k_ ∧ some k_ ≠ (u9 : Value).ownBlock)) (HO229.out) (fun k_ hk => ⟨⟨hk.1, ⟨hk.2.2.1, hk.2.2.2⟩⟩, hk.2.1⟩))).2.1 (Kd.V_F (Kd.V_mono (ok' := (fun k_ => ((fun k_ => (w.heap.size ≤ k_) ∧ k_ ≠ gb209 ∧ k_ ≠ g)) k_ ∧ some k_ ≠ (u9 : Value).ownBlock)) (HO229.out) (fun k_ hk => ⟨⟨hk.1, ⟨hk.2.2.1, hk.2.2.2⟩⟩, hk.2.1⟩))))); (case aF => exact (fun k_ hk => ⟨(Nat.le_trans (keep_size (w := w) (g := g) (row := none) (kK)) hk), Kd.freshB (g := gb209) (o := .cells #[.int .i64 0, .int .i64 0, .slice none 0 0] 24 (0, 0)) (bK) k_ hk, IsS50.fresh (by repeat (first | (with_reducible first | exact HI0.out | apply IsS50.alloc | apply IsS50.drewN | apply IsS50.drew | apply IsS50.set_0 | apply IsS50.set_1 | apply IsS50.set_2 | refine IsS50.far ?_ NB0_209.out _) | exact HI0.out)) k_ hk⟩)); (case aO => exact (by (with_reducible repeat (first | apply Kd.N_alloc | apply Kd.N_drewN | apply Kd.N_drew)); exact HO_9.out)); (case aS => exact (keep_size (w := w) (g := g) (row := none) (kK))); (case aL => have := LMc13.out; omega); intro v234 w17 ho hb hg hat; rw [← Ny233.out] at ho; have n0_ := Aside0.mk (blk_grown (g := gb209) (o := .cells #[.int .i64 0, .int .i64 0, .slice none 0 0] 24 (0, 0)) (bK) hg (Kd.N_away HO_9.out (fun _ hk => hk.2.1))); have n1_ := Aside0.mk (IsS50.grown (by repeat (first | (with_reducible first | exact HI0.out | apply IsS50.alloc | apply IsS50.drewN | apply IsS50.drew | apply IsS50.set_0 | apply IsS50.set_1 | apply IsS50.set_2 | refine IsS50.far ?_ NB0_209.out _) | exact HI0.out)) hg (IsS50.own_neN HI0.out HO_9.out (by decide))); have n2_ := Aside0.mk (Kd.V_afterv (ok := (fun k_ => (w.heap.size ≤ k_) ∧ k_ ≠ gb209 ∧ k_ ≠ g)) (by (with_reducible repeat (first | apply Kd.V_alloc | apply Kd.V_drewN | apply Kd.V_drew)); exact Kd.V_mono HO229.out (fun _ hk => ⟨⟨hk.1, ⟨hk.2.2.1, hk.2.2.2⟩⟩, hk.2.1⟩)) hg hat); have n3_ := Aside0.mk (below_weaken (by repeat (first | (with_reducible first | exact HB.out | apply below_alloc | apply pw_below_drewN | apply below_drew1 | refine below_set ?_ (IsS50.ge HI0.out) | refine below_set ?_ GE209.out) | exact HB.out)) HL.out hb); have n4_ := Aside0.mk (KeepBut.trans (kK) (KeepBut.of_grown hg g) (Kd.N_base2 HO_9.out)); have n5_ := Aside0.mk (ho); clear BK209; clear HI0; clear HO229; clear HB; clear HK; clear HO_9; have BK209 := n0_; have HI0 := n1_; have HO229 := n2_; have HB := n3_; have HK := n4_; have HO235 := n5_; clear n0_ n1_ n2_ n3_ n4_ n5_; clear ho hb hg hat))
     (first | go_roundg k1 | ((simp only [add_plain] at *); go_roundg k1))
     case measure => have := HK1.out; omega
     case rel => exact ⟨(y233), (t230), (t231), (t232), H', ⟨by have := HK1.out; omega⟩, ⟨by (with_reducible repeat (first | apply Kd.N_alloc | apply Kd.N_drewN | apply Kd.N_drew)); exact HO235.out⟩, ⟨bK⟩, ⟨by repeat (first | (with_reducible first | exact HI0.out | apply IsS50.alloc | apply IsS50.drewN | apply IsS50.drew | apply IsS50.set_0 | apply IsS50.set_1 | apply IsS50.set_2 | refine IsS50.far ?_ NB0_209.out _) | exact HI0.out)⟩, ⟨kK⟩, ⟨by repeat (first | (with_reducible first | exact HB.out | apply below_alloc | apply pw_below_drewN | apply below_drew1 | refine below_set ?_ (IsS50.ge HI0.out) | refine below_set ?_ GE209.out) | exact HB.out)⟩⟩
    ·rw [if_neg c13] at H
     exact absurd H (by simp)
   ·replace c11 := Bool.eq_false_iff.mpr c11
    subst c11
    have H1 : ((expr_several.f a1 x9_1).bind fun bt236 => (some (bt236.1, bt236.2.1, bt236.2.2, t222, t223, t224))) = some (r1, r2, r3, r4, r5, r6) := by rw [if_neg (show ¬ (false = true) by decide)] at H; exact H
    clear H
    have H := H1
    clear H1
    replace H := Option.bind_eq_some_iff.mp H
    obtain ⟨⟨t236, t237, t238⟩, A190, H⟩ := H
    replace H : (some (t236, t237, t238, t222, t223, t224)) = some (r1, r2, r3, r4, r5, r6) := H
    have A19 := Aside0.mk A190
    clear A190
    simp only [Option.some.injEq, Prod.mk.injEq] at H
    obtain ⟨rfl, rfl, rfl, rfl, rfl, rfl⟩ := H
    go_wp2_with (first | ((with_reducible refine gate_callee (f := 83) rfl ?_); refine goesL_ (some 15) rfl rfl Try.func83 (by kernel_rfl) rfl #[.pointer (some ⟨g, 0, none⟩), .int .u8 a2] rfl (by (try simp only [List.map_toArray, List.map_cons, List.map_nil]); first | done | rfl | (simp only [List.length_drop, List.length_take]; rfl)) ?_; (with_reducible refine (expr_parser_is.calls k1 g x1000_1 x1001_1 x1002_1 a2 false t222 t223 t224 w0 _ ?side1 ?side2 A10.out).mono ?_); (case side1 => repeat (first | (with_reducible first | exact HI0.out | apply IsS50.alloc | apply IsS50.drewN | apply IsS50.drew | apply IsS50.set_0 | apply IsS50.set_1 | apply IsS50.set_2 | refine IsS50.far ?_ NB0_209.out _) | exact HI0.out)); (case side2 => repeat (first | (with_reducible first | exact HB.out | apply below_alloc | apply pw_below_drewN | apply below_drew1 | refine below_set ?_ (IsS50.ge HI0.out) | refine below_set ?_ GE209.out) | exact HB.out)); rintro e w20 ⟨rfl, hi, hb, hk⟩; refine ⟨_, rfl, ?_⟩; have n0_ := Aside0.mk (Kd.N_mono (Kd.N_keep (Kd.N_mono (ok := fun k_ => (((w.heap.size ≤ k_)) ∧ (k_ ≠ gb209 ∧ k_ ≠ g))) (by (with_reducible repeat (first | apply Kd.N_alloc | apply Kd.N_drewN | apply Kd.N_drew)); exact HO_9.out) (fun k_ hk_ => (⟨hk_, hk_.2.2⟩ : _ ∧ k_ ≠ g))) hk (fun _ h => h.2)) (fun _ h => h.1)); have n1_ := Aside0.mk (KeepBut.blk hk (g' := gb209) (o := .cells #[.int .i64 0, .int .i64 0, .slice none 0 0] 24 (0, 0)) (bK) NB209_0.out (by simp)); have n2_ := Aside0.mk (KeepBut.trans (kK) hk (.inl rfl)); have n3_ := Aside0.mk (hb); have n4_ := Aside0.mk (hi); clear HO_9; clear BK209; clear HK; clear HB; clear HI0; have HO_9 := n0_; have BK209 := n1_; have HK := n2_; have HB := n3_; have HI0 := n4_; clear n0_ n1_ n2_ n3_ n4_; (try clear hb); (try clear hb2); (try clear hk); (try clear hi); obtain ⟨Ao21, co21, eo21⟩ := Kd.N_slice HO_9.out; subst eo21) | ((with_reducible refine gate_callee (f := 84) rfl ?_); (fail_if_success (have chk_ := HO240)); refine goesL_ (some 30) rfl rfl Try.func84 (by kernel_rfl) rfl #[.int .i64 a1, .slice Ao21 x9_1.length co21] rfl (by (try simp only [List.map_toArray, List.map_cons, List.map_nil]); first | done | rfl | (simp only [List.length_drop, List.length_take]; rfl)) ?_; (with_reducible refine (expr_several.calls a1 (fun k_ => ((w.heap.size ≤ k_) ∧ (k_ ≠ gb209 ∧ k_ ≠ g))) _ _ x9_1 t236 t237 t238 _ ?side1 A19.out).mono ?_); (case side1 => exact Kd.N_V (HO_9.out)); rintro e w22 ⟨v239, rfl, ho0, hb⟩; refine ⟨_, rfl, ?_⟩; have n0_ := Aside0.mk (Kd.N_below (by (with_reducible repeat (first | apply Kd.N_alloc | apply Kd.N_drewN | apply Kd.N_drew)); exact HO_9.out) hb); have n1_ := Aside0.mk (Kd.V_lower (Kd.V_mono (ok' := fun k_ => (w.heap.size ≤ k_) ∧ k_ ≠ gb209 ∧ k_ ≠ g) ho0 (fun k_ hk_ => ⟨Or.elim hk_ (fun hs_ => hs_.1) (fun hn_ => (Nat.le_trans (keep_size (w := w) (g := g) (row := none) (kK)) hn_)), Or.elim hk_ (fun hs_ => hs_.2.1) (fun hn_ => (Kd.freshB (g := gb209) (o := .cells #[.int .i64 0, .int .i64 0, .slice none 0 0] 24 (0, 0)) (bK) k_ hn_)), Or.elim hk_ (fun hs_ => hs_.2.2) (fun hn_ => (IsS50.fresh (by repeat (first | (with_reducible first | exact HI0.out | apply IsS50.alloc | apply IsS50.drewN | apply IsS50.drew | apply IsS50.set_0 | apply IsS50.set_1 | apply IsS50.set_2 | refine IsS50.far ?_ NB0_209.out _) | exact HI0.out)) k_ hn_))⟩)) (keep_size (w := w) (g := g) (row := none) (kK))); have n2_ := Aside0.mk (blk_below (g := gb209) (o := .cells #[.int .i64 0, .int .i64 0, .slice none 0 0] 24 (0, 0)) (bK) hb); have n3_ := Aside0.mk (IsS50.below (by repeat (first | (with_reducible first | exact HI0.out | apply IsS50.alloc | apply IsS50.drewN | apply IsS50.drew | apply IsS50.set_0 | apply IsS50.set_1 | apply IsS50.set_2 | refine IsS50.far ?_ NB0_209.out _) | exact HI0.out)) hb); have n4_ := Aside0.mk (KeepBut.trans (kK) (KeepBut.of_below hb g none) (.inl rfl)); have n5_ := Aside0.mk (below_step (by repeat (first | (with_reducible first | exact HB.out | apply below_alloc | apply pw_below_drewN | apply below_drew1 | refine below_set ?_ (IsS50.ge HI0.out) | refine below_set ?_ GE209.out) | exact HB.out)) hb); clear HO_9; clear BK209; clear HI0; clear HK; clear HB; have HO_9 := n0_; have HO240 := n1_; have BK209 := n2_; have HI0 := n3_; have HK := n4_; have HB := n5_; clear n0_ n1_ n2_ n3_ n4_ n5_; (try clear hb); (try clear hb2); (try clear hk); (try clear hi); (try clear ho0); have hnb23 := NB209_0.out; have hnc23 := NB0_209.out; have hcz24_0 : w22.cell? ⟨gb209, 0, none⟩ = some (.int .i64 0) := (blk_cell BK209.out 0).trans rfl; have hcz24_1 : w22.cell? ⟨gb209, 1, none⟩ = some (.int .i64 0) := (blk_cell BK209.out 1).trans rfl; have hcz24_2 : w22.cell? ⟨gb209, 2, none⟩ = some (.slice none 0 0) := (blk_cell BK209.out 2).trans rfl; have hfz24_0 := blk_frozen BK209.out 0; have hfz24_1 := blk_frozen BK209.out 1; have hfz24_2 := blk_frozen BK209.out 2; obtain ⟨Ao25, co25, eo25⟩ := Kd.V_slice HO240.out; subst eo25))
    refine bodyPost_ret (results_cell_row rfl _ _ gb209 24 #[.int .i64 t236, .int .i64 t237, .slice Ao25 t238.length co25] (0, 0) _ rfl (by (with_reducible repeat (first | refine blk_drewN ?_ _ | refine blk_drew ?_ | refine blk_alloc ?_ _)); refine blk_put (cs := #[.int .i64 t236, .int .i64 t237, .slice none 0 0]) ?_ 2 _ rfl; (with_reducible repeat (first | refine blk_drewN ?_ _ | refine blk_drew ?_ | refine blk_alloc ?_ _)); refine blk_put (cs := #[.int .i64 t236, .int .i64 0, .slice none 0 0]) ?_ 1 _ rfl; (with_reducible repeat (first | refine blk_drewN ?_ _ | refine blk_drew ?_ | refine blk_alloc ?_ _)); refine blk_put (cs := #[.int .i64 0, .int .i64 0, .slice none 0 0]) ?_ 0 _ rfl; (with_reducible repeat (first | refine blk_drewN ?_ _ | refine blk_drew ?_ | refine blk_alloc ?_ _)); exact BK209.out) Try.underlying24 rfl (by kernel_rfl)) rfl ?_
    exact ⟨_, by first | rfl | (simp [errW_none, errW_some] <;> rfl) | (simp [*, errW_none, errW_some] <;> rfl), by (with_reducible repeat (first | apply Kd.V_alloc | apply Kd.V_drewN | apply Kd.V_drew)); exact Kd.V_mono (Kd.V_far (p := ⟨gb209, 2, none⟩) (Kd.V_far (p := ⟨gb209, 1, none⟩) (Kd.V_far (p := ⟨gb209, 0, none⟩) (Kd.V_mono HO240.out (fun k_ hk => (⟨hk, hk.2.1⟩ : _ ∧ k_ ≠ gb209))) (fun _ hk => hk.2) (.int .i64 t236)) (fun _ hk => hk.2) (.int .i64 t237)) (fun _ hk => hk.2) (.slice Ao25 t238.length co25)) (fun _ hk => hk.1.1), by repeat (first | (with_reducible first | exact HI0.out | apply IsS50.alloc | apply IsS50.drewN | apply IsS50.drew | apply IsS50.set_0 | apply IsS50.set_1 | apply IsS50.set_2 | refine IsS50.far ?_ NB0_209.out _) | exact HI0.out), by repeat (first | (with_reducible first | exact HB.out | apply below_alloc | apply pw_below_drewN | apply below_drew1 | refine below_set ?_ (IsS50.ge HI0.out) | refine below_set ?_ GE209.out) | exact HB.out), kK⟩
end Go.Proofs.Ytjofkebiacaciaa.PAll
end
section
namespace Go.Proofs.Ytjofkebiacaciaa.PAll
open Go.RowKit Go.Proofs.YtjofkebiacaciaaW.PrintWords Go.Proofs.YtjofkebiacaciaaW.PrintLast Go.Proofs.YtjofkebiacaciaaW.PrintMore
attribute [local go_sem] max2_int min2_int max_two min_two max_three min_three max_four min_four
set_option linter.unusedVariables false
set_option linter.unusedSimpArgs false
set_option linter.all false
variable [AtomC]
def expr_parser_and.f (k : Nat) (s0_0 : ByteArray) (s0_1 : Int) (s0_2 : Int) : Option (Int × Int × (List (S24)) × ByteArray × Int × Int) := (expr_parser_listC.f k s0_0 s0_1 s0_2 6 38).bind fun bt242 => (some (bt242.1, bt242.2.1, bt242.2.2.1, bt242.2.2.2.1, bt242.2.2.2.2.1, bt242.2.2.2.2.2))
theorem expr_parser_and.mono : ∀ a0 a1 a2 k, LeO (expr_parser_and.f k a0 a1 a2) (expr_parser_and.f (k + 1) a0 a1 a2) := by
 intro a0 a1 a2 k
 unfold expr_parser_and.f
 repeat' first
   | (with_reducible exact expr_parser_listC.mono _ _ _ _ _ _)
   | (with_reducible exact LeO.refl _)
   | (with_reducible exact LeO.none _)
   | (with_reducible refine LeO.ite ?_ ?_)
   | (with_reducible refine LeO.bind ?_ (fun _ => ?_))
   | exact expr_parser_listC.mono _ _ _ _ _ _
   | exact LeO.none _
   | refine LeO.ite ?_ ?_
   | refine LeO.bind ?_ (fun _ => ?_)
set_option maxHeartbeats 8000000 in
set_option maxRecDepth 100000 in
theorem expr_parser_and.calls (k : Nat) (g : Nat) (s0_0 : ByteArray) (s0_1 : Int) (s0_2 : Int) (r1 : Int) (r2 : Int) (r3 : List (S24)) (r4 : ByteArray) (r5 : Int) (r6 : Int) (w0 w : World) (hI : IsS50 w0 w g s0_0 s0_1 s0_2) (hB : Below w0.heap.size w0 w) (h : expr_parser_and.f k s0_0 s0_1 s0_2 = some (r1, r2, r3, r4, r5, r6)) :
  Calls Try.prog 72 #[.pointer (some ⟨g, 0, none⟩)] w fun e w' => ∃ v2_ : Value, e = .returned (.agg #[.int .i64 r1, .int .i64 r2, v2_]) ∧ Kd.V k24 24 w' w.heap.size (fun k_ => (w.heap.size ≤ k_)) v2_ r3 ∧ IsS50 w0 w' g r4 r5 r6 ∧ Below w0.heap.size w0 w' ∧ KeepBut w w' g none := by
 have hu24 := Try.underlying24
 have HI0 := Aside0.mk hI
 have HK := Aside0.mk (KeepBut.refl w g none)
 have HL := Aside0.mk hB.size
 clear hI
 have HW0 := Aside0.mk hB.size
 have HB := Aside0.mk hB
 clear hB
 have H : ((expr_parser_listC.f k s0_0 s0_1 s0_2 6 38).bind fun bt242 => (some (bt242.1, bt242.2.1, bt242.2.2.1, bt242.2.2.2.1, bt242.2.2.2.2.1, bt242.2.2.2.2.2))) = some (r1, r2, r3, r4, r5, r6) := h
 clear h
 replace H := Option.bind_eq_some_iff.mp H
 obtain ⟨⟨t242, t243, t244, t247, t248, t249⟩, A20, H⟩ := H
 replace H : (some (t242, t243, t244, t247, t248, t249)) = some (r1, r2, r3, r4, r5, r6) := H
 have A2 := Aside0.mk A20
 clear A20
 simp only [Option.some.injEq, Prod.mk.injEq] at H
 obtain ⟨rfl, rfl, rfl, rfl, rfl, rfl⟩ := H
 go_enter Try.func72, Try.ntmps72
 go_wp2_with (first | ((with_reducible refine gate_dst (N := 2) rfl ?_); refine box_event ?hg (N := 2) ?hd (cs := #[.int .i64 0, .int .i64 0, .slice none 0 0]) (t := 24) ?hr ?_; (case hd => rfl); (case hg => rfl); (case hr => first | (go_simp; done) | (go_simp; rfl)); intro gb241 hg w3 hbox hb; have n0_ := Aside0.mk (IsS50.below (by repeat (first | (with_reducible first | exact HI0.out | apply IsS50.alloc | apply IsS50.drewN | apply IsS50.drew | apply IsS50.set_0 | apply IsS50.set_1 | apply IsS50.set_2) | exact HI0.out)) hb); have n1_ := Aside0.mk (KeepBut.trans (kK) (KeepBut.of_below hb g none) (.inl rfl)); have n2_ := Aside0.mk (below_step (by repeat (first | (with_reducible first | exact HB.out | apply below_alloc | apply pw_below_drewN | apply below_drew1 | refine below_set ?_ (IsS50.ge HI0.out)) | exact HB.out)) hb); have n3_ := Aside0.mk (hbox); have n4_ := Aside0.mk ((by rw [hg]; exact (keep_size (w := w) (g := g) (row := none) (kK)) : w.heap.size ≤ gb241)); have n5_ := Aside0.mk ((Nat.le_trans HW0.out (by rw [hg]; exact (keep_size (w := w) (g := g) (row := none) (kK)) : w.heap.size ≤ gb241) : w0.heap.size ≤ gb241)); have n6_ := Aside0.mk ((by rw [hg]; exact Nat.ne_of_lt (IsS50.lt (show IsS50 w0 _ g s0_0 s0_1 s0_2 from by repeat (first | (with_reducible first | exact HI0.out | apply IsS50.alloc | apply IsS50.drewN | apply IsS50.drew | apply IsS50.set_0 | apply IsS50.set_1 | apply IsS50.set_2) | exact HI0.out))) : g ≠ gb241)); have n7_ := Aside0.mk ((by rw [hg]; exact Nat.ne_of_gt (IsS50.lt (show IsS50 w0 _ g s0_0 s0_1 s0_2 from by repeat (first | (with_reducible first | exact HI0.out | apply IsS50.alloc | apply IsS50.drewN | apply IsS50.drew | apply IsS50.set_0 | apply IsS50.set_1 | apply IsS50.set_2) | exact HI0.out))) : gb241 ≠ g)); clear HI0; clear HK; clear HB; have HI0 := n0_; have HK := n1_; have HB := n2_; have BK241 := n3_; have GW241 := n4_; have GE241 := n5_; have NB0_241 := n6_; have NB241_0 := n7_; clear n0_ n1_ n2_ n3_ n4_ n5_ n6_ n7_; clear hb hbox hg) | ((with_reducible refine gate_callee (f := 71) rfl ?_); (fail_if_success (have chk_ := HO246)); refine goesL_ (some 6) rfl rfl Try.func71 (by kernel_rfl) rfl #[.pointer (some ⟨g, 0, none⟩), .int .i64 6, .int .u8 38, .func (.func 85) #[.pointer (some ⟨g, 0, none⟩)] #[]] rfl (by (try simp only [List.map_toArray, List.map_cons, List.map_nil]); first | done | rfl | (simp only [List.length_drop, List.length_take]; rfl)) ?_; (with_reducible refine (expr_parser_listC.calls k g s0_0 s0_1 s0_2 6 38 t242 t243 t244 t247 t248 t249 w0 _ ?side1 ?side2 A2.out).mono ?_); (case side1 => repeat (first | (with_reducible first | exact HI0.out | apply IsS50.alloc | apply IsS50.drewN | apply IsS50.drew | apply IsS50.set_0 | apply IsS50.set_1 | apply IsS50.set_2 | refine IsS50.far ?_ NB0_241.out _) | exact HI0.out)); (case side2 => repeat (first | (with_reducible first | exact HB.out | apply below_alloc | apply pw_below_drewN | apply below_drew1 | refine below_set ?_ (IsS50.ge HI0.out) | refine below_set ?_ GE241.out) | exact HB.out)); rintro e w4 ⟨v245, rfl, ho0, hi, hb, hk⟩; refine ⟨_, rfl, ?_⟩; have n0_ := Aside0.mk (KeepBut.blk hk (g' := gb241) (o := .cells #[.int .i64 0, .int .i64 0, .slice none 0 0] 24 (0, 0)) (bK) NB241_0.out (by simp)); have n1_ := Aside0.mk (Kd.V_lower (Kd.V_mono (ok' := fun k_ => (w.heap.size ≤ k_) ∧ k_ ≠ gb241 ∧ k_ ≠ g) ho0 (fun k_ hk_ => ⟨(Nat.le_trans (keep_size (w := w) (g := g) (row := none) (kK)) hk_), (Kd.freshB (g := gb241) (o := .cells #[.int .i64 0, .int .i64 0, .slice none 0 0] 24 (0, 0)) (bK) k_ hk_), (IsS50.fresh (by repeat (first | (with_reducible first | exact HI0.out | apply IsS50.alloc | apply IsS50.drewN | apply IsS50.drew | apply IsS50.set_0 | apply IsS50.set_1 | apply IsS50.set_2 | refine IsS50.far ?_ NB0_241.out _) | exact HI0.out)) k_ hk_)⟩)) (keep_size (w := w) (g := g) (row := none) (kK))); have n2_ := Aside0.mk (KeepBut.trans (kK) hk (.inl rfl)); have n3_ := Aside0.mk (hb); have n4_ := Aside0.mk (hi); clear BK241; clear HK; clear HB; clear HI0; have BK241 := n0_; have HO246 := n1_; have HK := n2_; have HB := n3_; have HI0 := n4_; clear n0_ n1_ n2_ n3_ n4_; (try clear hb); (try clear hb2); (try clear hk); (try clear hi); (try clear ho0); have hnb5 := NB241_0.out; have hnc5 := NB0_241.out; have hcz6_0 : w4.cell? ⟨gb241, 0, none⟩ = some (.int .i64 0) := (blk_cell BK241.out 0).trans rfl; have hcz6_1 : w4.cell? ⟨gb241, 1, none⟩ = some (.int .i64 0) := (blk_cell BK241.out 1).trans rfl; have hcz6_2 : w4.cell? ⟨gb241, 2, none⟩ = some (.slice none 0 0) := (blk_cell BK241.out 2).trans rfl; have hfz6_0 := blk_frozen BK241.out 0; have hfz6_1 := blk_frozen BK241.out 1; have hfz6_2 := blk_frozen BK241.out 2; obtain ⟨Ao7, co7, eo7⟩ := Kd.V_slice HO246.out; subst eo7))
 refine bodyPost_ret (results_cell_row rfl _ _ gb241 24 #[.int .i64 t242, .int .i64 t243, .slice Ao7 t244.length co7] (0, 0) _ rfl (by (with_reducible repeat (first | refine blk_drewN ?_ _ | refine blk_drew ?_ | refine blk_alloc ?_ _)); refine blk_put (cs := #[.int .i64 t242, .int .i64 t243, .slice none 0 0]) ?_ 2 _ rfl; (with_reducible repeat (first | refine blk_drewN ?_ _ | refine blk_drew ?_ | refine blk_alloc ?_ _)); refine blk_put (cs := #[.int .i64 t242, .int .i64 0, .slice none 0 0]) ?_ 1 _ rfl; (with_reducible repeat (first | refine blk_drewN ?_ _ | refine blk_drew ?_ | refine blk_alloc ?_ _)); refine blk_put (cs := #[.int .i64 0, .int .i64 0, .slice none 0 0]) ?_ 0 _ rfl; (with_reducible repeat (first | refine blk_drewN ?_ _ | refine blk_drew ?_ | refine blk_alloc ?_ _)); exact BK241.out) Try.underlying24 rfl (by kernel_rfl)) rfl ?_
 exact ⟨_, by first | rfl | (simp [errW_none, errW_some] <;> rfl) | (simp [*, errW_none, errW_some] <;> rfl), by (with_reducible repeat (first | apply Kd.V_alloc | apply Kd.V_drewN | apply Kd.V_drew)); exact Kd.V_mono (Kd.V_far (p := ⟨gb241, 2, none⟩) (Kd.V_far (p := ⟨gb241, 1, none⟩) (Kd.V_far (p := ⟨gb241, 0, none⟩) (Kd.V_mono HO246.out (fun k_ hk => (⟨hk, hk.2.1⟩ : _ ∧ k_ ≠ gb241))) (fun _ hk => hk.2) (.int .i64 t242)) (fun _ hk => hk.2) (.int .i64 t243)) (fun _ hk => hk.2) (.slice Ao7 t244.length co7)) (fun _ hk => hk.1.1), by repeat (first | (with_reducible first | exact HI0.out | apply IsS50.alloc | apply IsS50.drewN | apply IsS50.drew | apply IsS50.set_0 | apply IsS50.set_1 | apply IsS50.set_2 | refine IsS50.far ?_ NB0_241.out _) | exact HI0.out), by repeat (first | (with_reducible first | exact HB.out | apply below_alloc | apply pw_below_drewN | apply below_drew1 | refine below_set ?_ (IsS50.ge HI0.out) | refine below_set ?_ GE241.out) | exact HB.out), kK⟩
end Go.Proofs.Ytjofkebiacaciaa.PAll
end
section
namespace Go.Proofs.Ytjofkebiacaciaa.PAll
open Go.RowKit Go.Proofs.YtjofkebiacaciaaW.PrintWords Go.Proofs.YtjofkebiacaciaaW.PrintLast Go.Proofs.YtjofkebiacaciaaW.PrintMore
attribute [local go_sem] max2_int min2_int max_two min_two max_three min_three max_four min_four
set_option linter.unusedVariables false
set_option linter.unusedSimpArgs false
set_option linter.all false
variable [AtomC]
def expr_parser_listA.l0 : Nat → Int → Int → List (S24) → ByteArray → Int → Int → Option (Int × Int × (List (S24)) × ByteArray × Int × Int)
 | 0, _, _, _, _, _, _ => none
 | k + 1, x1, x2, x9, x1000, x1001, x1002 => (expr_parser_is.f k x1000 x1001 x1002 x2).bind fun bt221 => (if bt221.1 = true then ((expr_parser_and.f k bt221.2.1 bt221.2.2.1 (wrap64 (bt221.2.2.2 + 1))).bind fun bt225 => (if x9.length < 3518437208883 then (expr_parser_listA.l0 k x1 x2 (x9 ++ [(⟨bt225.1, bt225.2.1, bt225.2.2.1⟩ : S24)]) bt225.2.2.2.1 bt225.2.2.2.2.1 bt225.2.2.2.2.2) else (none))) else ((expr_several.f x1 x9).bind fun bt236 => (some (bt236.1, bt236.2.1, bt236.2.2, bt221.2.1, bt221.2.2.1, bt221.2.2.2))))
def expr_parser_listA.f (k : Nat) (s0_0 : ByteArray) (s0_1 : Int) (s0_2 : Int) (a1 : Int) (a2 : Int) : Option (Int × Int × (List (S24)) × ByteArray × Int × Int) := (expr_parser_and.f k s0_0 s0_1 s0_2).bind fun bt210 => (expr_parser_listA.l0 k a1 a2 (([(⟨bt210.1, bt210.2.1, bt210.2.2.1⟩ : S24)] : List (S24))) bt210.2.2.2.1 bt210.2.2.2.2.1 bt210.2.2.2.2.2)
theorem expr_parser_listA.mono_l : ∀ k, (∀ y0 y1 y2 y3 y4 y5, LeO (expr_parser_listA.l0 k y0 y1 y2 y3 y4 y5) (expr_parser_listA.l0 (k + 1) y0 y1 y2 y3 y4 y5))
 | 0 => fun _ _ _ _ _ _ r h => by simp [expr_parser_listA.l0] at h
 | k + 1 => by
  have ih0 := expr_parser_listA.mono_l k
  ·intro y0 y1 y2 y3 y4 y5
   unfold expr_parser_listA.l0
   repeat' first
   | (with_reducible exact ih0 _ _ _ _ _ _)
   | (with_reducible exact expr_parser_and.mono _ _ _ _)
   | (with_reducible exact expr_parser_is.mono _ _ _ _ _)
   | (with_reducible exact LeO.refl _)
   | (with_reducible exact LeO.none _)
   | (with_reducible refine LeO.ite ?_ ?_)
   | (with_reducible refine LeO.bind ?_ (fun _ => ?_))
   | exact ih0 _ _ _ _ _ _
   | exact expr_parser_and.mono _ _ _ _
   | exact expr_parser_is.mono _ _ _ _ _
   | exact LeO.none _
   | refine LeO.ite ?_ ?_
   | refine LeO.bind ?_ (fun _ => ?_)
theorem expr_parser_listA.mono : ∀ a0 a1 a2 a3 a4 k, LeO (expr_parser_listA.f k a0 a1 a2 a3 a4) (expr_parser_listA.f (k + 1) a0 a1 a2 a3 a4) := by
 intro a0 a1 a2 a3 a4 k
 have ih0 := expr_parser_listA.mono_l k
 unfold expr_parser_listA.f
 repeat' first
   | (with_reducible exact ih0 _ _ _ _ _ _)
   | (with_reducible exact expr_parser_and.mono _ _ _ _)
   | (with_reducible exact expr_parser_is.mono _ _ _ _ _)
   | (with_reducible exact LeO.refl _)
   | (with_reducible exact LeO.none _)
   | (with_reducible refine LeO.ite ?_ ?_)
   | (with_reducible refine LeO.bind ?_ (fun _ => ?_))
   | exact ih0 _ _ _ _ _ _
   | exact expr_parser_and.mono _ _ _ _
   | exact expr_parser_is.mono _ _ _ _ _
   | exact LeO.none _
   | refine LeO.ite ?_ ?_
   | refine LeO.bind ?_ (fun _ => ?_)
set_option maxHeartbeats 8000000 in
set_option maxRecDepth 100000 in
theorem expr_parser_listA.calls (k : Nat) (g : Nat) (s0_0 : ByteArray) (s0_1 : Int) (s0_2 : Int) (a1 : Int) (a2 : Int) (r1 : Int) (r2 : Int) (r3 : List (S24)) (r4 : ByteArray) (r5 : Int) (r6 : Int) (w0 w : World) (hI : IsS50 w0 w g s0_0 s0_1 s0_2) (hB : Below w0.heap.size w0 w) (h : expr_parser_listA.f k s0_0 s0_1 s0_2 a1 a2 = some (r1, r2, r3, r4, r5, r6)) :
  Calls Try.prog 71 #[.pointer (some ⟨g, 0, none⟩), .int .i64 a1, .int .u8 a2, .func (.func 72) #[.pointer (some ⟨g, 0, none⟩)] #[]] w fun e w' => ∃ v2_ : Value, e = .returned (.agg #[.int .i64 r1, .int .i64 r2, v2_]) ∧ Kd.V k24 24 w' w.heap.size (fun k_ => (w.heap.size ≤ k_)) v2_ r3 ∧ IsS50 w0 w' g r4 r5 r6 ∧ Below w0.heap.size w0 w' ∧ KeepBut w w' g none := by
 have hu24 := Try.underlying24
 have HI0 := Aside0.mk hI
 have HK := Aside0.mk (KeepBut.refl w g none)
 have HL := Aside0.mk hB.size
 clear hI
 have HW0 := Aside0.mk hB.size
 have HB := Aside0.mk hB
 clear hB
 have H : ((expr_parser_and.f k s0_0 s0_1 s0_2).bind fun bt210 => (expr_parser_listA.l0 k a1 a2 (([(⟨bt210.1, bt210.2.1, bt210.2.2.1⟩ : S24)] : List (S24))) bt210.2.2.2.1 bt210.2.2.2.2.1 bt210.2.2.2.2.2)) = some (r1, r2, r3, r4, r5, r6) := h
 clear h
 replace H := Option.bind_eq_some_iff.mp H
 obtain ⟨⟨t210, t211, t212, t215, t216, t217⟩, A40, H⟩ := H
 replace H : (expr_parser_listA.l0 k a1 a2 (([(⟨t210, t211, t212⟩ : S24)] : List (S24))) t215 t216 t217) = some (r1, r2, r3, r4, r5, r6) := H
 have A4 := Aside0.mk A40
 clear A40
 obtain ⟨y218, hy218⟩ : ∃ y_ : List (S24), y_ = (([(⟨t210, t211, t212⟩ : S24)] : List (S24))) := ⟨_, rfl⟩
 replace H : (expr_parser_listA.l0 k a1 a2 y218 t215 t216 t217) = some (r1, r2, r3, r4, r5, r6) := by first | (rw [hy218]; with_reducible exact H) | (have H2_ := (Option.bind_some _ _).symm.trans H; rw [hy218]; with_reducible exact H2_) | (have H2_ := (Option.bind_some _ _).symm.trans H; with_reducible exact H2_) | with_reducible exact H | (rw [hy218]; exact H) | exact H
 have Ny218 := Aside0.mk hy218
 clear hy218
 have H' := Aside0.mk H
 clear H
 go_enter Try.func71, Try.ntmps71
 go_wp2_with (first | ((with_reducible refine gate_dst (N := 8) rfl ?_); refine box_event ?hg (N := 8) ?hd (cs := #[.int .i64 0, .int .i64 0, .slice none 0 0]) (t := 24) ?hr ?_; (case hd => rfl); (case hg => rfl); (case hr => first | (go_simp; done) | (go_simp; rfl)); intro gb209 hg w5 hbox hb; have n0_ := Aside0.mk (IsS50.below (by repeat (first | (with_reducible first | exact HI0.out | apply IsS50.alloc | apply IsS50.drewN | apply IsS50.drew | apply IsS50.set_0 | apply IsS50.set_1 | apply IsS50.set_2) | exact HI0.out)) hb); have n1_ := Aside0.mk (KeepBut.trans (kK) (KeepBut.of_below hb g none) (.inl rfl)); have n2_ := Aside0.mk (below_step (by repeat (first | (with_reducible first | exact HB.out | apply below_alloc | apply pw_below_drewN | apply below_drew1 | refine below_set ?_ (IsS50.ge HI0.out)) | exact HB.out)) hb); have n3_ := Aside0.mk (hbox); have n4_ := Aside0.mk ((by rw [hg]; exact (keep_size (w := w) (g := g) (row := none) (kK)) : w.heap.size ≤ gb209)); have n5_ := Aside0.mk ((Nat.le_trans HW0.out (by rw [hg]; exact (keep_size (w := w) (g := g) (row := none) (kK)) : w.heap.size ≤ gb209) : w0.heap.size ≤ gb209)); have n6_ := Aside0.mk ((by rw [hg]; exact Nat.ne_of_lt (IsS50.lt (show IsS50 w0 _ g s0_0 s0_1 s0_2 from by repeat (first | (with_reducible first | exact HI0.out | apply IsS50.alloc | apply IsS50.drewN | apply IsS50.drew | apply IsS50.set_0 | apply IsS50.set_1 | apply IsS50.set_2) | exact HI0.out))) : g ≠ gb209)); have n7_ := Aside0.mk ((by rw [hg]; exact Nat.ne_of_gt (IsS50.lt (show IsS50 w0 _ g s0_0 s0_1 s0_2 from by repeat (first | (with_reducible first | exact HI0.out | apply IsS50.alloc | apply IsS50.drewN | apply IsS50.drew | apply IsS50.set_0 | apply IsS50.set_1 | apply IsS50.set_2) | exact HI0.out))) : gb209 ≠ g)); clear HI0; clear HK; clear HB; have HI0 := n0_; have HK := n1_; have HB := n2_; have BK209 := n3_; have GW209 := n4_; have GE209 := n5_; have NB0_209 := n6_; have NB209_0 := n7_; clear n0_ n1_ n2_ n3_ n4_ n5_ n6_ n7_; clear hb hbox hg) | ((with_reducible refine gateV rfl ?_); (fail_if_success (have chk_ := HO214)); refine goesV_ (some 11) rfl rfl Try.func72 (by kernel_rfl) rfl #[.pointer (some ⟨g, 0, none⟩)] rfl (by (try simp only [List.map_toArray, List.map_cons, List.map_nil]); first | done | rfl | (simp only [List.length_drop, List.length_take]; rfl)) ?_; (with_reducible refine (expr_parser_and.calls k g s0_0 s0_1 s0_2 t210 t211 t212 t215 t216 t217 w0 _ ?side1 ?side2 A4.out).mono ?_); (case side1 => repeat (first | (with_reducible first | exact HI0.out | apply IsS50.alloc | apply IsS50.drewN | apply IsS50.drew | apply IsS50.set_0 | apply IsS50.set_1 | apply IsS50.set_2 | refine IsS50.far ?_ NB0_209.out _) | exact HI0.out)); (case side2 => repeat (first | (with_reducible first | exact HB.out | apply below_alloc | apply pw_below_drewN | apply below_drew1 | refine below_set ?_ (IsS50.ge HI0.out) | refine below_set ?_ GE209.out) | exact HB.out)); rintro e w6 ⟨v213, rfl, ho0, hi, hb, hk⟩; refine ⟨_, rfl, ?_⟩; have n0_ := Aside0.mk (KeepBut.blk hk (g' := gb209) (o := .cells #[.int .i64 0, .int .i64 0, .slice none 0 0] 24 (0, 0)) (bK) NB209_0.out (by simp)); have n1_ := Aside0.mk (Kd.V_lower (Kd.V_mono (ok' := fun k_ => (w.heap.size ≤ k_) ∧ k_ ≠ gb209 ∧ k_ ≠ g) ho0 (fun k_ hk_ => ⟨(Nat.le_trans (keep_size (w := w) (g := g) (row := none) (kK)) hk_), (Kd.freshB (g := gb209) (o := .cells #[.int .i64 0, .int .i64 0, .slice none 0 0] 24 (0, 0)) (bK) k_ hk_), (IsS50.fresh (by repeat (first | (with_reducible first | exact HI0.out | apply IsS50.alloc | apply IsS50.drewN | apply IsS50.drew | apply IsS50.set_0 | apply IsS50.set_1 | apply IsS50.set_2 | refine IsS50.far ?_ NB0_209.out _) | exact HI0.out)) k_ hk_)⟩)) (keep_size (w := w) (g := g) (row := none) (kK))); have n2_ := Aside0.mk (KeepBut.trans (kK) hk (.inl rfl)); have n3_ := Aside0.mk (hb); have n4_ := Aside0.mk (hi); clear BK209; clear HK; clear HB; clear HI0; have BK209 := n0_; have HO214 := n1_; have HK := n2_; have HB := n3_; have HI0 := n4_; clear n0_ n1_ n2_ n3_ n4_; (try clear hb); (try clear hb2); (try clear hk); (try clear hi); (try clear ho0); obtain ⟨Ao7, co7, eo7⟩ := Kd.V_slice HO214.out; subst eo7) | ((with_reducible refine gate_dst (N := 12) rfl ?_); refine Kd.N_lit k24 _ 24 ?hg (N' := 12) ?hd (xs := ([(⟨t210, t211, t212⟩ : S24)] : List (S24))) (inner := [.int .i64 t210, .int .i64 t211, .slice Ao7 t212.length co7]) (ok := (fun k_ => (w.heap.size ≤ k_) ∧ k_ ≠ gb209 ∧ k_ ≠ g)) (okp := (fun k_ => (w.heap.size ≤ k_) ∧ k_ ≠ gb209 ∧ k_ ≠ g)) ?hr ?hp (fun _ hk => hk) ((show ∀ k_, w6.heap.size ≤ k_ → (fun k_ => (w.heap.size ≤ k_) ∧ k_ ≠ gb209 ∧ k_ ≠ g) k_ from fun k_ hk => ⟨(Nat.le_trans (keep_size (w := w) (g := g) (row := none) (kK)) hk), Kd.freshB (g := gb209) (o := .cells #[.int .i64 0, .int .i64 0, .slice none 0 0] 24 (0, 0)) (bK) k_ hk, IsS50.fresh (by repeat (first | (with_reducible first | exact HI0.out | apply IsS50.alloc | apply IsS50.drewN | apply IsS50.drew | apply IsS50.set_0 | apply IsS50.set_1 | apply IsS50.set_2 | refine IsS50.far ?_ NB0_209.out _) | exact HI0.out)) k_ hk⟩) _ (Nat.le_refl _)) (Below.refl _ _) (Nat.le_refl _) (by simp) ?_; (case hd => rfl); (case hg => rfl); (case hr => first | (go_simp; done) | (go_simp; rfl)); (case hp => exact (Reps.c3 (show Kd.FK k24 _ _ (⟨t210, t211, t212⟩ : S24) [.int .i64 t210, .int .i64 t211, .slice Ao7 t212.length co7] from (k24_mkF _ _ (⟨t210, t211, t212⟩ : S24) (Kd.V_reads' (Kd.V_mono (ok' := (fun k_ => (w.heap.size ≤ k_) ∧ k_ ≠ gb209 ∧ k_ ≠ g)) (HO214.out) (fun k_ hk => ⟨hk.1, ⟨hk.2.1, hk.2.2⟩⟩))).2.1 (Kd.V_F (Kd.V_mono (ok' := (fun k_ => (w.heap.size ≤ k_) ∧ k_ ≠ gb209 ∧ k_ ≠ g)) (HO214.out) (fun k_ hk => ⟨hk.1, ⟨hk.2.1, hk.2.2⟩⟩))))) (Reps.none _ _))); intro v219 w8 ho9 hb hg_ hnew_; clear hg_ hnew_; (first | rw [← Ny218.out] at ho9 | (simp only [Int.reduceToNat] at ho9; rw [← Ny218.out] at ho9)); have n0_ := Aside0.mk (Kd.V_elder' (by (with_reducible repeat (first | apply Kd.V_alloc | apply Kd.V_drewN | apply Kd.V_drew)); exact HO214.out) (Kd.N_base ho9) hb); have n1_ := Aside0.mk (Kd.N_lower ho9 (keep_size (w := w) (g := g) (row := none) (kK))); have n2_ := Aside0.mk (IsS50.below (by repeat (first | (with_reducible first | exact HI0.out | apply IsS50.alloc | apply IsS50.drewN | apply IsS50.drew | apply IsS50.set_0 | apply IsS50.set_1 | apply IsS50.set_2 | refine IsS50.far ?_ NB0_209.out _) | exact HI0.out)) hb); have n3_ := Aside0.mk (blk_below (g := gb209) (o := .cells #[.int .i64 0, .int .i64 0, .slice none 0 0] 24 (0, 0)) (bK) hb); have n4_ := Aside0.mk (KeepBut.trans (kK) (KeepBut.of_below hb g none) (.inl rfl)); have n5_ := Aside0.mk (below_step (by repeat (first | (with_reducible first | exact HB.out | apply below_alloc | apply pw_below_drewN | apply below_drew1 | refine below_set ?_ (IsS50.ge HI0.out) | refine below_set ?_ GE209.out) | exact HB.out)) hb); clear HO214; clear HI0; clear BK209; clear HK; clear HB; have HO214 := n0_; have HO220 := n1_; have HI0 := n2_; have BK209 := n3_; have HK := n4_; have HB := n5_; clear n0_ n1_ n2_ n3_ n4_ n5_; clear hb ho9))
 go_loopg [9] k (fun kq v9 w' => ∃ (x9_1 : List (S24)) (x1000_1 : ByteArray) (x1001_1 : Int) (x1002_1 : Int), Aside0 (expr_parser_listA.l0 kq a1 a2 x9_1 x1000_1 x1001_1 x1002_1 = some (r1, r2, r3, r4, r5, r6)) ∧ Aside0 (kq ≤ k) ∧ Aside0 (Kd.N k24 24 w' w.heap.size (fun k_ => (w.heap.size ≤ k_) ∧ k_ ≠ gb209 ∧ k_ ≠ g) v9 x9_1) ∧ Aside0 (w'.heap[gb209]? = some (.cells #[.int .i64 0, .int .i64 0, (.slice none 0 0)] 24 (0, 0))) ∧ Aside0 (IsS50 w0 w' g x1000_1 x1001_1 x1002_1) ∧ Aside0 (KeepBut w w' g none) ∧ Aside0 (Below w0.heap.size w0 w'))
 case atStart => exact ⟨(y218), (t215), (t216), (t217), H', ⟨Nat.le_refl _⟩, ⟨by (with_reducible repeat (first | apply Kd.N_alloc | apply Kd.N_drewN | apply Kd.N_drew)); exact HO220.out⟩, ⟨bK⟩, ⟨by repeat (first | (with_reducible first | exact HI0.out | apply IsS50.alloc | apply IsS50.drewN | apply IsS50.drew | apply IsS50.set_0 | apply IsS50.set_1 | apply IsS50.set_2 | refine IsS50.far ?_ NB0_209.out _) | exact HI0.out)⟩, ⟨kK⟩, ⟨by repeat (first | (with_reducible first | exact HB.out | apply below_alloc | apply pw_below_drewN | apply below_drew1 | refine below_set ?_ (IsS50.ge HI0.out) | refine below_set ?_ GE209.out) | exact HB.out)⟩⟩
 case round =>
  clear H'
  try clear p2
  try clear c3
  try clear c7
  try clear c8
  obtain ⟨x9_1, x1000_1, x1001_1, x1002_1, HA, HK1, HO_9, BK209, HI0, HK, HB⟩ := hrel
  cases gk with
  | zero => exact absurd HA.out (by simp [expr_parser_listA.l0])
  | succ k1 =>
   have H := HA.out
   clear HA
   simp only [expr_parser_listA.l0] at H
   replace H := Option.bind_eq_some_iff.mp H
   obtain ⟨⟨t221, t222, t223, t224⟩, A100, H⟩ := H
   replace H : (if t221 = true then ((expr_parser_and.f k1 t222 t223 (wrap64 (t224 + 1))).bind fun bt225 => (if x9_1.length < 3518437208883 then (expr_parser_listA.l0 k1 a1 a2 (x9_1 ++ [(⟨bt225.1, bt225.2.1, bt225.2.2.1⟩ : S24)]) bt225.2.2.2.1 bt225.2.2.2.2.1 bt225.2.2.2.2.2) else (none))) else ((expr_several.f a1 x9_1).bind fun bt236 => (some (bt236.1, bt236.2.1, bt236.2.2, t222, t223, t224)))) = some (r1, r2, r3, r4, r5, r6) := H
   have A10 := Aside0.mk A100
   clear A100
   by_cases c11 : t221 = true
   ·subst c11
    have H1 : ((expr_parser_and.f k1 t222 t223 (wrap64 (t224 + 1))).bind fun bt225 => (if x9_1.length < 3518437208883 then (expr_parser_listA.l0 k1 a1 a2 (x9_1 ++ [(⟨bt225.1, bt225.2.1, bt225.2.2.1⟩ : S24)]) bt225.2.2.2.1 bt225.2.2.2.2.1 bt225.2.2.2.2.2) else (none))) = some (r1, r2, r3, r4, r5, r6) := by rw [if_pos rfl] at H; exact H
    clear H
    have H := H1
    clear H1
    replace H := Option.bind_eq_some_iff.mp H
    obtain ⟨⟨t225, t226, t227, t230, t231, t232⟩, A120, H⟩ := H
    replace H : (if x9_1.length < 3518437208883 then (expr_parser_listA.l0 k1 a1 a2 (x9_1 ++ [(⟨t225, t226, t227⟩ : S24)]) t230 t231 t232) else (none)) = some (r1, r2, r3, r4, r5, r6) := H
    have A12 := Aside0.mk A120
    clear A120
    by_cases c13 : x9_1.length < 3518437208883
    ·rw [if_pos c13] at H
     have LMc13 := Aside0.mk c13
     clear c13
     obtain ⟨y233, hy233⟩ : ∃ y_ : List (S24), y_ = (x9_1 ++ [(⟨t225, t226, t227⟩ : S24)]) := ⟨_, rfl⟩
     replace H : (expr_parser_listA.l0 k1 a1 a2 y233 t230 t231 t232) = some (r1, r2, r3, r4, r5, r6) := by first | (rw [hy233]; with_reducible exact H) | (have H2_ := (Option.bind_some _ _).symm.trans H; rw [hy233]; with_reducible exact H2_) | (have H2_ := (Option.bind_some _ _).symm.trans H; with_reducible exact H2_) | with_reducible exact H | (rw [hy233]; exact H) | exact H
     have Ny233 := Aside0.mk hy233
     clear hy233
     have H' := Aside0.mk H
     clear H
     go_wp2_with (first | ((with_reducible refine gate_callee (f := 83) rfl ?_); refine goesL_ (some 15) rfl rfl Try.func83 (by kernel_rfl) rfl #[.pointer (some ⟨g, 0, none⟩), .int .u8 a2] rfl (by (try simp only [List.map_toArray, List.map_cons, List.map_nil]); first | done | rfl | (simp only [List.length_drop, List.length_take]; rfl)) ?_; (with_reducible refine (expr_parser_is.calls k1 g x1000_1 x1001_1 x1002_1 a2 true t222 t223 t224 w0 _ ?side1 ?side2 A10.out).mono ?_); (case side1 => repeat (first | (with_reducible first | exact HI0.out | apply IsS50.alloc | apply IsS50.drewN | apply IsS50.drew | apply IsS50.set_0 | apply IsS50.set_1 | apply IsS50.set_2 | refine IsS50.far ?_ NB0_209.out _) | exact HI0.out)); (case side2 => repeat (first | (with_reducible first | exact HB.out | apply below_alloc | apply pw_below_drewN | apply below_drew1 | refine below_set ?_ (IsS50.ge HI0.out) | refine below_set ?_ GE209.out) | exact HB.out)); rintro e w14 ⟨rfl, hi, hb, hk⟩; refine ⟨_, rfl, ?_⟩; have n0_ := Aside0.mk (Kd.N_mono (Kd.N_keep (Kd.N_mono (ok := fun k_ => (((w.heap.size ≤ k_)) ∧ (k_ ≠ gb209 ∧ k_ ≠ g))) (by (with_reducible repeat (first | apply Kd.N_alloc | apply Kd.N_drewN | apply Kd.N_drew)); exact HO_9.out) (fun k_ hk_ => (⟨hk_, hk_.2.2⟩ : _ ∧ k_ ≠ g))) hk (fun _ h => h.2)) (fun _ h => h.1)); have n1_ := Aside0.mk (KeepBut.blk hk (g' := gb209) (o := .cells #[.int .i64 0, .int .i64 0, .slice none 0 0] 24 (0, 0)) (bK) NB209_0.out (by simp)); have n2_ := Aside0.mk (KeepBut.trans (kK) hk (.inl rfl)); have n3_ := Aside0.mk (hb); have n4_ := Aside0.mk (hi); clear HO_9; clear BK209; clear HK; clear HB; clear HI0; have HO_9 := n0_; have BK209 := n1_; have HK := n2_; have HB := n3_; have HI0 := n4_; clear n0_ n1_ n2_ n3_ n4_; (try clear hb); (try clear hb2); (try clear hk); (try clear hi); obtain ⟨HGz15, hgz15⟩ := HI0.out; have hcz15_0 := cellS50_0 HGz15; have hcz15_1 := cellS50_1 HGz15; have hcz15_2 := cellS50_2 HGz15; have hfz15_0 := blk_frozen HGz15 0; have hfz15_1 := blk_frozen HGz15 1; have hfz15_2 := blk_frozen HGz15 2; clear HGz15 hgz15) | ((with_reducible refine gateV rfl ?_); (fail_if_success (have chk_ := HO229)); refine goesV_ (some 25) rfl rfl Try.func72 (by kernel_rfl) rfl #[.pointer (some ⟨g, 0, none⟩)] rfl (by (try simp only [List.map_toArray, List.map_cons, List.map_nil]); first | done | rfl | (simp only [List.length_drop, List.length_take]; rfl)) ?_; (with_reducible refine (expr_parser_and.calls k1 g t222 t223 (wrap64 (t224 + 1)) t225 t226 t227 t230 t231 t232 w0 _ ?side1 ?side2 A12.out).mono ?_); (case side1 => repeat (first | (with_reducible first | exact HI0.out | apply IsS50.alloc | apply IsS50.drewN | apply IsS50.drew | apply IsS50.set_0 | apply IsS50.set_1 | apply IsS50.set_2 | refine IsS50.far ?_ NB0_209.out _) | exact HI0.out)); (case side2 => repeat (first | (with_reducible first | exact HB.out | apply below_alloc | apply pw_below_drewN | apply below_drew1 | refine below_set ?_ (IsS50.ge HI0.out) | refine below_set ?_ GE209.out) | exact HB.out)); rintro e w16 ⟨v228, rfl, ho0, hi, hb, hk⟩; refine ⟨_, rfl, ?_⟩; have n0_ := Aside0.mk (Kd.N_mono (Kd.N_keep (Kd.N_mono (ok := fun k_ => (((w.heap.size ≤ k_)) ∧ (k_ ≠ gb209 ∧ k_ ≠ g))) (by (with_reducible repeat (first | apply Kd.N_alloc | apply Kd.N_drewN | apply Kd.N_drew)); exact (Kd.N_mono (Kd.N_far (p := ⟨g, 2, none⟩) (Kd.N_mono HO_9.out (fun k_ hk => (⟨hk, hk.2.2⟩ : _ ∧ k_ ≠ g))) (fun _ hk => hk.2) (.int .i64 (wrap64 (t224 + 1)))) (fun _ h_ => h_.1))) (fun k_ hk_ => (⟨hk_, hk_.2.2⟩ : _ ∧ k_ ≠ g))) hk (fun _ h => h.2)) (fun _ h => h.1)); have n1_ := Aside0.mk (KeepBut.blk hk (g' := gb209) (o := .cells #[.int .i64 0, .int .i64 0, .slice none 0 0] 24 (0, 0)) (by (with_reducible repeat (first | refine blk_drewN ?_ _ | refine blk_drew ?_ | refine blk_alloc ?_ _)); refine blk_far ?_ NB209_0.out _; (with_reducible repeat (first | refine blk_drewN ?_ _ | refine blk_drew ?_ | refine blk_alloc ?_ _)); exact BK209.out) NB209_0.out (by simp)); have n2_ := Aside0.mk (Kd.V_lower (Kd.V_mono (ok' := fun k_ => (w.heap.size ≤ k_) ∧ some k_ ≠ (u9 : Value).ownBlock ∧ k_ ≠ gb209 ∧ k_ ≠ g) ho0 (fun k_ hk_ => ⟨(Nat.le_trans (keep_size (w := w) (g := g) (row := none) (kK)) hk_), (Kd.fresh' (Kd.N_lt (by (with_reducible repeat (first | apply Kd.N_alloc | apply Kd.N_drewN | apply Kd.N_drew)); exact (Kd.N_mono (Kd.N_far (p := ⟨g, 2, none⟩) (Kd.N_mono HO_9.out (fun k_ hk => (⟨hk, hk.2.2⟩ : _ ∧ k_ ≠ g))) (fun _ hk => hk.2) (.int .i64 (wrap64 (t224 + 1)))) (fun _ h_ => h_.1)))) k_ hk_), (Kd.freshB (g := gb209) (o := .cells #[.int .i64 0, .int .i64 0, .slice none 0 0] 24 (0, 0)) (by (with_reducible repeat (first | refine blk_drewN ?_ _ | refine blk_drew ?_ | refine blk_alloc ?_ _)); refine blk_far ?_ NB209_0.out _; (with_reducible repeat (first | refine blk_drewN ?_ _ | refine blk_drew ?_ | refine blk_alloc ?_ _)); exact BK209.out) k_ hk_), (IsS50.fresh (by repeat (first | (with_reducible first | exact HI0.out | apply IsS50.alloc | apply IsS50.drewN | apply IsS50.drew | apply IsS50.set_0 | apply IsS50.set_1 | apply IsS50.set_2 | refine IsS50.far ?_ NB0_209.out _) | exact HI0.out)) k_ hk_)⟩)) (keep_size (w := w) (g := g) (row := none) (kK))); have n3_ := Aside0.mk (KeepBut.trans (kK) hk (.inl rfl)); have n4_ := Aside0.mk (hb); have n5_ := Aside0.mk (hi); clear HO_9; clear BK209; clear HK; clear HB; clear HI0; have HO_9 := n0_; have BK209 := n1_; have HO229 := n2_; have HK := n3_; have HB := n4_; have HI0 := n5_; clear n0_ n1_ n2_ n3_ n4_ n5_; (try clear hb); (try clear hb2); (try clear hk); (try clear hi); (try clear ho0); obtain ⟨Ao18, co18, eo18⟩ := Kd.V_slice HO229.out; subst eo18) | ((with_reducible refine gate_builtin (b := .append) (xs := #[.tmp 23, .tmp 26]) rfl ?_); at_builtin; refine Kd.N_append k24 w.heap.size rfl (.tmp 23) (.tmp 26) 22 24 (.agg #[(.int .i64 0), (.int .i64 0), (.slice none 0 0)]) 40 rfl Try.underlying22 info24 rfl (by decide) (by omega) u9 x9_1 (⟨t225, t226, t227⟩ : S24) [.int .i64 t225, .int .i64 t226, .slice Ao18 t227.length co18] (fun k_ => (w.heap.size ≤ k_) ∧ k_ ≠ gb209 ∧ k_ ≠ g) (fun k_ => ((fun k_ => (w.heap.size ≤ k_) ∧ k_ ≠ gb209 ∧ k_ ≠ g)) k_ ∧ some k_ ≠ (u9 : Value).ownBlock) rfl rfl ?aP (fun _ hk => hk) ?aF ?aO (Below.refl _ _) ?aS ?aL ?_; (case aP => exact (k24_mkF _ _ (⟨t225, t226, t227⟩ : S24) (Kd.V_reads' (Kd.V_mono (ok' := (fun k_ => ((fun k_ => (w.heap.size ≤ k_) ∧ k_ ≠ gb209 ∧ k_ ≠ g)) k_ ∧ some k_ ≠ (u9 : Value).ownBlock)) (HO229.out) (fun k_ hk => ⟨⟨hk.1, ⟨hk.2.2.1, hk.2.2.2⟩⟩, hk.2.1⟩))).2.1 (Kd.V_F (Kd.V_mono (ok' := (fun k_ => ((fun k_ => (w.heap.size ≤ k_) ∧ k_ ≠ gb209 ∧ k_ ≠ g)) k_ ∧ some k_ ≠ (u9 : Value).ownBlock)) (HO229.out) (fun k_ hk => ⟨⟨hk.1, ⟨hk.2.2.1, hk.2.2.2⟩⟩, hk.2.1⟩))))); (case aF => exact (fun k_ hk => ⟨(Nat.le_trans (keep_size (w := w) (g := g) (row := none) (kK)) hk), Kd.freshB (g := gb209) (o := .cells #[.int .i64 0, .int .i64 0, .slice none 0 0] 24 (0, 0)) (bK) k_ hk, IsS50.fresh (by repeat (first | (with_reducible first | exact HI0.out | apply IsS50.alloc | apply IsS50.drewN | apply IsS50.drew | apply IsS50.set_0 | apply IsS50.set_1 | apply IsS50.set_2 | refine IsS50.far ?_ NB0_209.out _) | exact HI0.out)) k_ hk⟩)); (case aO => exact (by (with_reducible repeat (first | apply Kd.N_alloc | apply Kd.N_drewN | apply Kd.N_drew)); exact HO_9.out)); (case aS => exact (keep_size (w := w) (g := g) (row := none) (kK))); (case aL => have := LMc13.out; omega); intro v234 w17 ho hb hg hat; rw [← Ny233.out] at ho; have n0_ := Aside0.mk (blk_grown (g := gb209) (o := .cells #[.int .i64 0, .int .i64 0, .slice none 0 0] 24 (0, 0)) (bK) hg (Kd.N_away HO_9.out (fun _ hk => hk.2.1))); have n1_ := Aside0.mk (IsS50.grown (by repeat (first | (with_reducible first | exact HI0.out | apply IsS50.alloc | apply IsS50.drewN | apply IsS50.drew | apply IsS50.set_0 | apply IsS50.set_1 | apply IsS50.set_2 | refine IsS50.far ?_ NB0_209.out _) | exact HI0.out)) hg (IsS50.own_neN HI0.out HO_9.out (by decide))); have n2_ := Aside0.mk (Kd.V_afterv (ok := (fun k_ => (w.heap.size ≤ k_) ∧ k_ ≠ gb209 ∧ k_ ≠ g)) (by (with_reducible repeat (first | apply Kd.V_alloc | apply Kd.V_drewN | apply Kd.V_drew)); exact Kd.V_mono HO229.out (fun _ hk => ⟨⟨hk.1, ⟨hk.2.2.1, hk.2.2.2⟩⟩, hk.2.1⟩)) hg hat); have n3_ := Aside0.mk (below_weaken (by repeat (first | (with_reducible first | exact HB.out | apply below_alloc | apply pw_below_drewN | apply below_drew1 | refine below_set ?_ (IsS50.ge HI0.out) | refine below_set ?_ GE209.out) | exact HB.out)) HL.out hb); have n4_ := Aside0.mk (KeepBut.trans (kK) (KeepBut.of_grown hg g) (Kd.N_base2 HO_9.out)); have n5_ := Aside0.mk (ho); clear BK209; clear HI0; clear HO229; clear HB; clear HK; clear HO_9; have BK209 := n0_; have HI0 := n1_; have HO229 := n2_; have HB := n3_; have HK := n4_; have HO235 := n5_; clear n0_ n1_ n2_ n3_ n4_ n5_; clear ho hb hg hat))
     (first | go_roundg k1 | ((simp only [add_plain] at *); go_roundg k1))
     case measure => have := HK1.out; omega
     case rel => exact ⟨(y233), (t230), (t231), (t232), H', ⟨by have := HK1.out; omega⟩, ⟨by (with_reducible repeat (first | apply Kd.N_alloc | apply Kd.N_drewN | apply Kd.N_drew)); exact HO235.out⟩, ⟨bK⟩, ⟨by repeat (first | (with_reducible first | exact HI0.out | apply IsS50.alloc | apply IsS50.drewN | apply IsS50.drew | apply IsS50.set_0 | apply IsS50.set_1 | apply IsS50.set_2 | refine IsS50.far ?_ NB0_209.out _) | exact HI0.out)⟩, ⟨kK⟩, ⟨by repeat (first | (with_reducible first | exact HB.out | apply below_alloc | apply pw_below_drewN | apply below_drew1 | refine below_set ?_ (IsS50.ge HI0.out) | refine below_set ?_ GE209.out) | exact HB.out)⟩⟩
    ·rw [if_neg c13] at H
     exact absurd H (by simp)
   ·replace c11 := Bool.eq_false_iff.mpr c11
    subst c11
    have H1 : ((expr_several.f a1 x9_1).bind fun bt236 => (some (bt236.1, bt236.2.1, bt236.2.2, t222, t223, t224))) = some (r1, r2, r3, r4, r5, r6) := by rw [if_neg (show ¬ (false = true) by decide)] at H; exact H
    clear H
    have H := H1
    clear H1
    replace H := Option.bind_eq_some_iff.mp H
    obtain ⟨⟨t236, t237, t238⟩, A190, H⟩ := H
    replace H : (some (t236, t237, t238, t222, t223, t224)) = some (r1, r2, r3, r4, r5, r6) := H
    have A19 := Aside0.mk A190
    clear A190
    simp only [Option.some.injEq, Prod.mk.injEq] at H
    obtain ⟨rfl, rfl, rfl, rfl, rfl, rfl⟩ := H
    go_wp2_with (first | ((with_reducible refine gate_callee (f := 83) rfl ?_); refine goesL_ (some 15) rfl rfl Try.func83 (by kernel_rfl) rfl #[.pointer (some ⟨g, 0, none⟩), .int .u8 a2] rfl (by (try simp only [List.map_toArray, List.map_cons, List.map_nil]); first | done | rfl | (simp only [List.length_drop, List.length_take]; rfl)) ?_; (with_reducible refine (expr_parser_is.calls k1 g x1000_1 x1001_1 x1002_1 a2 false t222 t223 t224 w0 _ ?side1 ?side2 A10.out).mono ?_); (case side1 => repeat (first | (with_reducible first | exact HI0.out | apply IsS50.alloc | apply IsS50.drewN | apply IsS50.drew | apply IsS50.set_0 | apply IsS50.set_1 | apply IsS50.set_2 | refine IsS50.far ?_ NB0_209.out _) | exact HI0.out)); (case side2 => repeat (first | (with_reducible first | exact HB.out | apply below_alloc | apply pw_below_drewN | apply below_drew1 | refine below_set ?_ (IsS50.ge HI0.out) | refine below_set ?_ GE209.out) | exact HB.out)); rintro e w20 ⟨rfl, hi, hb, hk⟩; refine ⟨_, rfl, ?_⟩; have n0_ := Aside0.mk (Kd.N_mono (Kd.N_keep (Kd.N_mono (ok := fun k_ => (((w.heap.size ≤ k_)) ∧ (k_ ≠ gb209 ∧ k_ ≠ g))) (by (with_reducible repeat (first | apply Kd.N_alloc | apply Kd.N_drewN | apply Kd.N_drew)); exact HO_9.out) (fun k_ hk_ => (⟨hk_, hk_.2.2⟩ : _ ∧ k_ ≠ g))) hk (fun _ h => h.2)) (fun _ h => h.1)); have n1_ := Aside0.mk (KeepBut.blk hk (g' := gb209) (o := .cells #[.int .i64 0, .int .i64 0, .slice none 0 0] 24 (0, 0)) (bK) NB209_0.out (by simp)); have n2_ := Aside0.mk (KeepBut.trans (kK) hk (.inl rfl)); have n3_ := Aside0.mk (hb); have n4_ := Aside0.mk (hi); clear HO_9; clear BK209; clear HK; clear HB; clear HI0; have HO_9 := n0_; have BK209 := n1_; have HK := n2_; have HB := n3_; have HI0 := n4_; clear n0_ n1_ n2_ n3_ n4_; (try clear hb); (try clear hb2); (try clear hk); (try clear hi); obtain ⟨Ao21, co21, eo21⟩ := Kd.N_slice HO_9.out; subst eo21) | ((with_reducible refine gate_callee (f := 84) rfl ?_); (fail_if_success (have chk_ := HO240)); refine goesL_ (some 30) rfl rfl Try.func84 (by kernel_rfl) rfl #[.int .i64 a1, .slice Ao21 x9_1.length co21] rfl (by (try simp only [List.map_toArray, List.map_cons, List.map_nil]); first | done | rfl | (simp only [List.length_drop, List.length_take]; rfl)) ?_; (with_reducible refine (expr_several.calls a1 (fun k_ => ((w.heap.size ≤ k_) ∧ (k_ ≠ gb209 ∧ k_ ≠ g))) _ _ x9_1 t236 t237 t238 _ ?side1 A19.out).mono ?_); (case side1 => exact Kd.N_V (HO_9.out)); rintro e w22 ⟨v239, rfl, ho0, hb⟩; refine ⟨_, rfl, ?_⟩; have n0_ := Aside0.mk (Kd.N_below (by (with_reducible repeat (first | apply Kd.N_alloc | apply Kd.N_drewN | apply Kd.N_drew)); exact HO_9.out) hb); have n1_ := Aside0.mk (Kd.V_lower (Kd.V_mono (ok' := fun k_ => (w.heap.size ≤ k_) ∧ k_ ≠ gb209 ∧ k_ ≠ g) ho0 (fun k_ hk_ => ⟨Or.elim hk_ (fun hs_ => hs_.1) (fun hn_ => (Nat.le_trans (keep_size (w := w) (g := g) (row := none) (kK)) hn_)), Or.elim hk_ (fun hs_ => hs_.2.1) (fun hn_ => (Kd.freshB (g := gb209) (o := .cells #[.int .i64 0, .int .i64 0, .slice none 0 0] 24 (0, 0)) (bK) k_ hn_)), Or.elim hk_ (fun hs_ => hs_.2.2) (fun hn_ => (IsS50.fresh (by repeat (first | (with_reducible first | exact HI0.out | apply IsS50.alloc | apply IsS50.drewN | apply IsS50.drew | apply IsS50.set_0 | apply IsS50.set_1 | apply IsS50.set_2 | refine IsS50.far ?_ NB0_209.out _) | exact HI0.out)) k_ hn_))⟩)) (keep_size (w := w) (g := g) (row := none) (kK))); have n2_ := Aside0.mk (blk_below (g := gb209) (o := .cells #[.int .i64 0, .int .i64 0, .slice none 0 0] 24 (0, 0)) (bK) hb); have n3_ := Aside0.mk (IsS50.below (by repeat (first | (with_reducible first | exact HI0.out | apply IsS50.alloc | apply IsS50.drewN | apply IsS50.drew | apply IsS50.set_0 | apply IsS50.set_1 | apply IsS50.set_2 | refine IsS50.far ?_ NB0_209.out _) | exact HI0.out)) hb); have n4_ := Aside0.mk (KeepBut.trans (kK) (KeepBut.of_below hb g none) (.inl rfl)); have n5_ := Aside0.mk (below_step (by repeat (first | (with_reducible first | exact HB.out | apply below_alloc | apply pw_below_drewN | apply below_drew1 | refine below_set ?_ (IsS50.ge HI0.out) | refine below_set ?_ GE209.out) | exact HB.out)) hb); clear HO_9; clear BK209; clear HI0; clear HK; clear HB; have HO_9 := n0_; have HO240 := n1_; have BK209 := n2_; have HI0 := n3_; have HK := n4_; have HB := n5_; clear n0_ n1_ n2_ n3_ n4_ n5_; (try clear hb); (try clear hb2); (try clear hk); (try clear hi); (try clear ho0); have hnb23 := NB209_0.out; have hnc23 := NB0_209.out; have hcz24_0 : w22.cell? ⟨gb209, 0, none⟩ = some (.int .i64 0) := (blk_cell BK209.out 0).trans rfl; have hcz24_1 : w22.cell? ⟨gb209, 1, none⟩ = some (.int .i64 0) := (blk_cell BK209.out 1).trans rfl; have hcz24_2 : w22.cell? ⟨gb209, 2, none⟩ = some (.slice none 0 0) := (blk_cell BK209.out 2).trans rfl; have hfz24_0 := blk_frozen BK209.out 0; have hfz24_1 := blk_frozen BK209.out 1; have hfz24_2 := blk_frozen BK209.out 2; obtain ⟨Ao25, co25, eo25⟩ := Kd.V_slice HO240.out; subst eo25))
    refine bodyPost_ret (results_cell_row rfl _ _ gb209 24 #[.int .i64 t236, .int .i64 t237, .slice Ao25 t238.length co25] (0, 0) _ rfl (by (with_reducible repeat (first | refine blk_drewN ?_ _ | refine blk_drew ?_ | refine blk_alloc ?_ _)); refine blk_put (cs := #[.int .i64 t236, .int .i64 t237, .slice none 0 0]) ?_ 2 _ rfl; (with_reducible repeat (first | refine blk_drewN ?_ _ | refine blk_drew ?_ | refine blk_alloc ?_ _)); refine blk_put (cs := #[.int .i64 t236, .int .i64 0, .slice none 0 0]) ?_ 1 _ rfl; (with_reducible repeat (first | refine blk_drewN ?_ _ | refine blk_drew ?_ | refine blk_alloc ?_ _)); refine blk_put (cs := #[.int .i64 0, .int .i64 0, .slice none 0 0]) ?_ 0 _ rfl; (with_reducible repeat (first | refine blk_drewN ?_ _ | refine blk_drew ?_ | refine blk_alloc ?_ _)); exact BK209.out) Try.underlying24 rfl (by kernel_rfl)) rfl ?_
    exact ⟨_, by first | rfl | (simp [errW_none, errW_some] <;> rfl) | (simp [*, errW_none, errW_some] <;> rfl), by (with_reducible repeat (first | apply Kd.V_alloc | apply Kd.V_drewN | apply Kd.V_drew)); exact Kd.V_mono (Kd.V_far (p := ⟨gb209, 2, none⟩) (Kd.V_far (p := ⟨gb209, 1, none⟩) (Kd.V_far (p := ⟨gb209, 0, none⟩) (Kd.V_mono HO240.out (fun k_ hk => (⟨hk, hk.2.1⟩ : _ ∧ k_ ≠ gb209))) (fun _ hk => hk.2) (.int .i64 t236)) (fun _ hk => hk.2) (.int .i64 t237)) (fun _ hk => hk.2) (.slice Ao25 t238.length co25)) (fun _ hk => hk.1.1), by repeat (first | (with_reducible first | exact HI0.out | apply IsS50.alloc | apply IsS50.drewN | apply IsS50.drew | apply IsS50.set_0 | apply IsS50.set_1 | apply IsS50.set_2 | refine IsS50.far ?_ NB0_209.out _) | exact HI0.out), by repeat (first | (with_reducible first | exact HB.out | apply below_alloc | apply pw_below_drewN | apply below_drew1 | refine below_set ?_ (IsS50.ge HI0.out) | refine below_set ?_ GE209.out) | exact HB.out), kK⟩
end Go.Proofs.Ytjofkebiacaciaa.PAll
end
section
namespace Go.Proofs.Ytjofkebiacaciaa.PAll
open Go.RowKit Go.Proofs.YtjofkebiacaciaaW.PrintWords Go.Proofs.YtjofkebiacaciaaW.PrintLast Go.Proofs.YtjofkebiacaciaaW.PrintMore
attribute [local go_sem] max2_int min2_int max_two min_two max_three min_three max_four min_four
set_option linter.unusedVariables false
set_option linter.unusedSimpArgs false
set_option linter.all false
variable [AtomC]
def expr_parser_union.f (k : Nat) (s0_0 : ByteArray) (s0_1 : Int) (s0_2 : Int) : Option (Int × Int × (List (S24)) × ByteArray × Int × Int) := (expr_parser_listA.f k s0_0 s0_1 s0_2 4 124).bind fun bt242 => (some (bt242.1, bt242.2.1, bt242.2.2.1, bt242.2.2.2.1, bt242.2.2.2.2.1, bt242.2.2.2.2.2))
theorem expr_parser_union.mono : ∀ a0 a1 a2 k, LeO (expr_parser_union.f k a0 a1 a2) (expr_parser_union.f (k + 1) a0 a1 a2) := by
 intro a0 a1 a2 k
 unfold expr_parser_union.f
 repeat' first
   | (with_reducible exact expr_parser_listA.mono _ _ _ _ _ _)
   | (with_reducible exact LeO.refl _)
   | (with_reducible exact LeO.none _)
   | (with_reducible refine LeO.ite ?_ ?_)
   | (with_reducible refine LeO.bind ?_ (fun _ => ?_))
   | exact expr_parser_listA.mono _ _ _ _ _ _
   | exact LeO.none _
   | refine LeO.ite ?_ ?_
   | refine LeO.bind ?_ (fun _ => ?_)
set_option maxHeartbeats 8000000 in
set_option maxRecDepth 100000 in
theorem expr_parser_union.calls (k : Nat) (g : Nat) (s0_0 : ByteArray) (s0_1 : Int) (s0_2 : Int) (r1 : Int) (r2 : Int) (r3 : List (S24)) (r4 : ByteArray) (r5 : Int) (r6 : Int) (w0 w : World) (hI : IsS50 w0 w g s0_0 s0_1 s0_2) (hB : Below w0.heap.size w0 w) (h : expr_parser_union.f k s0_0 s0_1 s0_2 = some (r1, r2, r3, r4, r5, r6)) :
  Calls Try.prog 50 #[.pointer (some ⟨g, 0, none⟩)] w fun e w' => ∃ v2_ : Value, e = .returned (.agg #[.int .i64 r1, .int .i64 r2, v2_]) ∧ Kd.V k24 24 w' w.heap.size (fun k_ => (w.heap.size ≤ k_)) v2_ r3 ∧ IsS50 w0 w' g r4 r5 r6 ∧ Below w0.heap.size w0 w' ∧ KeepBut w w' g none := by
 have hu24 := Try.underlying24
 have HI0 := Aside0.mk hI
 have HK := Aside0.mk (KeepBut.refl w g none)
 have HL := Aside0.mk hB.size
 clear hI
 have HW0 := Aside0.mk hB.size
 have HB := Aside0.mk hB
 clear hB
 have H : ((expr_parser_listA.f k s0_0 s0_1 s0_2 4 124).bind fun bt242 => (some (bt242.1, bt242.2.1, bt242.2.2.1, bt242.2.2.2.1, bt242.2.2.2.2.1, bt242.2.2.2.2.2))) = some (r1, r2, r3, r4, r5, r6) := h
 clear h
 replace H := Option.bind_eq_some_iff.mp H
 obtain ⟨⟨t242, t243, t244, t247, t248, t249⟩, A20, H⟩ := H
 replace H : (some (t242, t243, t244, t247, t248, t249)) = some (r1, r2, r3, r4, r5, r6) := H
 have A2 := Aside0.mk A20
 clear A20
 simp only [Option.some.injEq, Prod.mk.injEq] at H
 obtain ⟨rfl, rfl, rfl, rfl, rfl, rfl⟩ := H
 go_enter Try.func50, Try.ntmps50
 go_wp2_with (first | ((with_reducible refine gate_dst (N := 2) rfl ?_); refine box_event ?hg (N := 2) ?hd (cs := #[.int .i64 0, .int .i64 0, .slice none 0 0]) (t := 24) ?hr ?_; (case hd => rfl); (case hg => rfl); (case hr => first | (go_simp; done) | (go_simp; rfl)); intro gb241 hg w3 hbox hb; have n0_ := Aside0.mk (IsS50.below (by repeat (first | (with_reducible first | exact HI0.out | apply IsS50.alloc | apply IsS50.drewN | apply IsS50.drew | apply IsS50.set_0 | apply IsS50.set_1 | apply IsS50.set_2) | exact HI0.out)) hb); have n1_ := Aside0.mk (KeepBut.trans (kK) (KeepBut.of_below hb g none) (.inl rfl)); have n2_ := Aside0.mk (below_step (by repeat (first | (with_reducible first | exact HB.out | apply below_alloc | apply pw_below_drewN | apply below_drew1 | refine below_set ?_ (IsS50.ge HI0.out)) | exact HB.out)) hb); have n3_ := Aside0.mk (hbox); have n4_ := Aside0.mk ((by rw [hg]; exact (keep_size (w := w) (g := g) (row := none) (kK)) : w.heap.size ≤ gb241)); have n5_ := Aside0.mk ((Nat.le_trans HW0.out (by rw [hg]; exact (keep_size (w := w) (g := g) (row := none) (kK)) : w.heap.size ≤ gb241) : w0.heap.size ≤ gb241)); have n6_ := Aside0.mk ((by rw [hg]; exact Nat.ne_of_lt (IsS50.lt (show IsS50 w0 _ g s0_0 s0_1 s0_2 from by repeat (first | (with_reducible first | exact HI0.out | apply IsS50.alloc | apply IsS50.drewN | apply IsS50.drew | apply IsS50.set_0 | apply IsS50.set_1 | apply IsS50.set_2) | exact HI0.out))) : g ≠ gb241)); have n7_ := Aside0.mk ((by rw [hg]; exact Nat.ne_of_gt (IsS50.lt (show IsS50 w0 _ g s0_0 s0_1 s0_2 from by repeat (first | (with_reducible first | exact HI0.out | apply IsS50.alloc | apply IsS50.drewN | apply IsS50.drew | apply IsS50.set_0 | apply IsS50.set_1 | apply IsS50.set_2) | exact HI0.out))) : gb241 ≠ g)); clear HI0; clear HK; clear HB; have HI0 := n0_; have HK := n1_; have HB := n2_; have BK241 := n3_; have GW241 := n4_; have GE241 := n5_; have NB0_241 := n6_; have NB241_0 := n7_; clear n0_ n1_ n2_ n3_ n4_ n5_ n6_ n7_; clear hb hbox hg) | ((with_reducible refine gate_callee (f := 71) rfl ?_); (fail_if_success (have chk_ := HO246)); refine goesL_ (some 6) rfl rfl Try.func71 (by kernel_rfl) rfl #[.pointer (some ⟨g, 0, none⟩), .int .i64 4, .int .u8 124, .func (.func 72) #[.pointer (some ⟨g, 0, none⟩)] #[]] rfl (by (try simp only [List.map_toArray, List.map_cons, List.map_nil]); first | done | rfl | (simp only [List.length_drop, List.length_take]; rfl)) ?_; (with_reducible refine (expr_parser_listA.calls k g s0_0 s0_1 s0_2 4 124 t242 t243 t244 t247 t248 t249 w0 _ ?side1 ?side2 A2.out).mono ?_); (case side1 => repeat (first | (with_reducible first | exact HI0.out | apply IsS50.alloc | apply IsS50.drewN | apply IsS50.drew | apply IsS50.set_0 | apply IsS50.set_1 | apply IsS50.set_2 | refine IsS50.far ?_ NB0_241.out _) | exact HI0.out)); (case side2 => repeat (first | (with_reducible first | exact HB.out | apply below_alloc | apply pw_below_drewN | apply below_drew1 | refine below_set ?_ (IsS50.ge HI0.out) | refine below_set ?_ GE241.out) | exact HB.out)); rintro e w4 ⟨v245, rfl, ho0, hi, hb, hk⟩; refine ⟨_, rfl, ?_⟩; have n0_ := Aside0.mk (KeepBut.blk hk (g' := gb241) (o := .cells #[.int .i64 0, .int .i64 0, .slice none 0 0] 24 (0, 0)) (bK) NB241_0.out (by simp)); have n1_ := Aside0.mk (Kd.V_lower (Kd.V_mono (ok' := fun k_ => (w.heap.size ≤ k_) ∧ k_ ≠ gb241 ∧ k_ ≠ g) ho0 (fun k_ hk_ => ⟨(Nat.le_trans (keep_size (w := w) (g := g) (row := none) (kK)) hk_), (Kd.freshB (g := gb241) (o := .cells #[.int .i64 0, .int .i64 0, .slice none 0 0] 24 (0, 0)) (bK) k_ hk_), (IsS50.fresh (by repeat (first | (with_reducible first | exact HI0.out | apply IsS50.alloc | apply IsS50.drewN | apply IsS50.drew | apply IsS50.set_0 | apply IsS50.set_1 | apply IsS50.set_2 | refine IsS50.far ?_ NB0_241.out _) | exact HI0.out)) k_ hk_)⟩)) (keep_size (w := w) (g := g) (row := none) (kK))); have n2_ := Aside0.mk (KeepBut.trans (kK) hk (.inl rfl)); have n3_ := Aside0.mk (hb); have n4_ := Aside0.mk (hi); clear BK241; clear HK; clear HB; clear HI0; have BK241 := n0_; have HO246 := n1_; have HK := n2_; have HB := n3_; have HI0 := n4_; clear n0_ n1_ n2_ n3_ n4_; (try clear hb); (try clear hb2); (try clear hk); (try clear hi); (try clear ho0); have hnb5 := NB241_0.out; have hnc5 := NB0_241.out; have hcz6_0 : w4.cell? ⟨gb241, 0, none⟩ = some (.int .i64 0) := (blk_cell BK241.out 0).trans rfl; have hcz6_1 : w4.cell? ⟨gb241, 1, none⟩ = some (.int .i64 0) := (blk_cell BK241.out 1).trans rfl; have hcz6_2 : w4.cell? ⟨gb241, 2, none⟩ = some (.slice none 0 0) := (blk_cell BK241.out 2).trans rfl; have hfz6_0 := blk_frozen BK241.out 0; have hfz6_1 := blk_frozen BK241.out 1; have hfz6_2 := blk_frozen BK241.out 2; obtain ⟨Ao7, co7, eo7⟩ := Kd.V_slice HO246.out; subst eo7))
 refine bodyPost_ret (results_cell_row rfl _ _ gb241 24 #[.int .i64 t242, .int .i64 t243, .slice Ao7 t244.length co7] (0, 0) _ rfl (by (with_reducible repeat (first | refine blk_drewN ?_ _ | refine blk_drew ?_ | refine blk_alloc ?_ _)); refine blk_put (cs := #[.int .i64 t242, .int .i64 t243, .slice none 0 0]) ?_ 2 _ rfl; (with_reducible repeat (first | refine blk_drewN ?_ _ | refine blk_drew ?_ | refine blk_alloc ?_ _)); refine blk_put (cs := #[.int .i64 t242, .int .i64 0, .slice none 0 0]) ?_ 1 _ rfl; (with_reducible repeat (first | refine blk_drewN ?_ _ | refine blk_drew ?_ | refine blk_alloc ?_ _)); refine blk_put (cs := #[.int .i64 0, .int .i64 0, .slice none 0 0]) ?_ 0 _ rfl; (with_reducible repeat (first | refine blk_drewN ?_ _ | refine blk_drew ?_ | refine blk_alloc ?_ _)); exact BK241.out) Try.underlying24 rfl (by kernel_rfl)) rfl ?_
 exact ⟨_, by first | rfl | (simp [errW_none, errW_some] <;> rfl) | (simp [*, errW_none, errW_some] <;> rfl), by (with_reducible repeat (first | apply Kd.V_alloc | apply Kd.V_drewN | apply Kd.V_drew)); exact Kd.V_mono (Kd.V_far (p := ⟨gb241, 2, none⟩) (Kd.V_far (p := ⟨gb241, 1, none⟩) (Kd.V_far (p := ⟨gb241, 0, none⟩) (Kd.V_mono HO246.out (fun k_ hk => (⟨hk, hk.2.1⟩ : _ ∧ k_ ≠ gb241))) (fun _ hk => hk.2) (.int .i64 t242)) (fun _ hk => hk.2) (.int .i64 t243)) (fun _ hk => hk.2) (.slice Ao7 t244.length co7)) (fun _ hk => hk.1.1), by repeat (first | (with_reducible first | exact HI0.out | apply IsS50.alloc | apply IsS50.drewN | apply IsS50.drew | apply IsS50.set_0 | apply IsS50.set_1 | apply IsS50.set_2 | refine IsS50.far ?_ NB0_241.out _) | exact HI0.out), by repeat (first | (with_reducible first | exact HB.out | apply below_alloc | apply pw_below_drewN | apply below_drew1 | refine below_set ?_ (IsS50.ge HI0.out) | refine below_set ?_ GE241.out) | exact HB.out), kK⟩
end Go.Proofs.Ytjofkebiacaciaa.PAll
end
