/-
  cachemeta: Chunk, Mode, Clean, Flush.
  cachemeta: Begin.
  cachemeta: End.
  cachemeta: Put, where it refuses.
  Disks: Down.
-/
import Derived.Test.YtpiffapnbjnjiaaGf
namespace Go.Proofs.Ytpiffapnbjnjiaa
set_option linter.unusedVariables false
open Go.RowKit
attribute [local go_sem] Oper.semAt_some

theorem chunk_any (W : World) (m : Nat) (x y : Value) (chunk mode : Int) (op : Bool) (hC : Cs W m 89 #[x, y, .int .i64 chunk, .int .i64 mode, .bool op]) :
    Calls Try.prog 17 #[.pointer (some ⟨m, 0, none⟩)] W fun e w' => e = .returned (.int .i64 chunk) ∧ W = w' := by
  have c2 : W.cell? ⟨m, 2, none⟩ = some (.int .i64 chunk) := hC.cell 2
  go_enter Try.func17, Try.ntmps17
  go_wp2_with fail
  go_ret
  exact ⟨rfl, rfl⟩
theorem mode_any (W : World) (m : Nat) (x y : Value) (chunk mode : Int) (op : Bool) (hC : Cs W m 89 #[x, y, .int .i64 chunk, .int .i64 mode, .bool op]) :
    Calls Try.prog 18 #[.pointer (some ⟨m, 0, none⟩)] W fun e w' => e = .returned (.int .i64 mode) ∧ W = w' := by
  have c3 : W.cell? ⟨m, 3, none⟩ = some (.int .i64 mode) := hC.cell 3
  go_enter Try.func18, Try.ntmps18
  go_wp2_with fail
  go_ret
  exact ⟨rfl, rfl⟩
theorem clean_any (W : World) (m : Nat) (x y : Value) (chunk mode : Int) (op : Bool) (hC : Cs W m 89 #[x, y, .int .i64 chunk, .int .i64 mode, .bool op]) :
    Calls Try.prog 19 #[.pointer (some ⟨m, 0, none⟩)] W fun e w' => e = .returned (.bool (!op)) ∧ W = w' := by
  have c4 : W.cell? ⟨m, 4, none⟩ = some (.bool op) := hC.cell 4
  cases op
  · go_enter Try.func19, Try.ntmps19
    go_wp2_with fail
    go_ret
    exact ⟨rfl, rfl⟩
  · go_enter Try.func19, Try.ntmps19
    go_wp2_with fail
    go_ret
    exact ⟨rfl, rfl⟩

set_option maxRecDepth 100000 in
set_option maxHeartbeats 1000000 in
theorem mflush_any (W : World) (F : Nat → Prop) (g sp i n m : Nat) (S : DS) (y1 y2 y3 y4 : Value) (h : DskAt W F g S) (hs : SpanAt W sp g i n) (hsp : ¬ F sp) (hC : Cs W m 89 #[spanV sp, y1, y2, y3, y4]) (hlog : S.log.length ≤ 1000000) :
    Calls Try.prog 35 #[.pointer (some ⟨m, 0, none⟩)] W (FlushP W F g S (i : Int)) := by
  have x0 := hC.cell 0
  change _ = some (spanV sp) at x0
  unfold spanV at x0
  go_enter Try.func35, Try.ntmps35
  go_wp2_with fail
  rw [m_flush]
  go_wp2_with fail
  refine (sflush_any W F g sp i n S h hs hsp hlog).mono ?_
  rintro e w1 ⟨rfl, F1, hd1, ht1⟩
  go_wp2_with fail
  go_ret
  exact ⟨rfl, F1, hd1, ht1⟩

end Go.Proofs.Ytpiffapnbjnjiaa

namespace Go.Proofs.Ytpiffapnbjnjiaa
set_option linter.unusedVariables false
open Go.RowKit
attribute [local go_sem] Oper.semAt_some

theorem begin_no (W : World) (m : Nat) (mode : Int) (h1 : mode ≠ 1) (h2 : mode ≠ 2) :
    Calls Try.prog 32 #[.pointer (some ⟨m, 0, none⟩), .int .i64 mode] W fun e w' => e = .returned (.int .i64 1) ∧ W = w' := by
  have t1 : (mode != 1) = true := by simpa using h1
  have t2 : (mode != 2) = true := by simpa using h2
  go_enter Try.func32, Try.ntmps32
  go_wp2_with fail
  go_ret
  exact ⟨rfl, rfl⟩

def BeginP (W : World) (F : Nat → Prop) (g sp m k c : Nat) (A : Option Addr) (chunk mode wr : Int) (now : List Nat) (e : Ending) (W' : World) : Prop :=
  e = .returned (.int .i64 0) ∧ ∃ F', DskAt W' F' g (one (now.set 0 (hdI k chunk mode true)) (now.set 0 (hdI k chunk mode true)) [] 0 false (wr + 1)) ∧
    Cs W' m 89 #[spanV sp, .slice A k c, .int .i64 chunk, .int .i64 mode, .bool true] ∧ Fr (fun j => F j ∨ j = m) W W' ∧ ∀ j, F' j → F j ∨ W.heap.size ≤ j

set_option maxRecDepth 100000 in
set_option maxHeartbeats 2000000 in
theorem begin1_any (W : World) (F : Nat → Prop) (g sp n m k c : Nat) (A : Option Addr) (chunk mode0 wr : Int) (op : Bool) (now dur : List Nat) (log : List (Nat × Nat × Nat)) (h : DskAt W F g (one now dur log 0 false wr)) (hs : SpanAt W sp g 0 n) (hsp : ¬ F sp) (hmF : ¬ F m) (hspm : sp ≠ m) (hC : Cs W m 89 #[spanV sp, .slice A k c, .int .i64 chunk, .int .i64 mode0, .bool op])
    (hy : Syn now dur log) (hn : now.length = n) (h1 : 1 ≤ n) (hn2 : n ≤ 65536) (hk : k ≤ 1024) (hlog : log.length < 1000000) (hwr : wr ≤ 1000000) :
    Calls Try.prog 32 #[.pointer (some ⟨m, 0, none⟩), .int .i64 1] W (BeginP W F g sp m k c A chunk 1 wr now) := by
  have x0 : W.cell? ⟨m, 0, none⟩ = some (.iface 126 (.pointer (some ⟨sp, 0, none⟩))) := hC.cell 0
  have x1 : W.cell? ⟨m, 1, none⟩ = some (.slice A k c) := hC.cell 1
  have x2 : W.cell? ⟨m, 2, none⟩ = some (.int .i64 chunk) := hC.cell 2
  have x3 : W.cell? ⟨m, 3, none⟩ = some (.int .i64 mode0) := hC.cell 3
  have x4 : W.cell? ⟨m, 4, none⟩ = some (.bool op) := hC.cell 4
  have HDt := Lib.hid h.tight
  have HS := Lib.hid hs
  have HC := Lib.hid hC
  have HSP := Lib.hid hsp
  have hml := hC.lt
  have hspl := Cs.lt hs
  have HF := Lib.hid (one_first hy wr (hdI k chunk 1 true) n hn h1)
  have hvl := hdI_lt k chunk 1 true
  clear h hs hC hsp hy
  go_enter Try.func32, Try.ntmps32
  go_wp2_with fail
  have hb0 : Below W.heap.size W (W.alloc (.cells #[.iface 126 (.pointer (some ⟨sp, 0, none⟩)), .slice A k c, .int .i64 chunk, .int .i64 1, .bool true] 89)) := (Below.refl _ W).alloc (Nat.le_refl _) _
  have hCn := Cs.new W 89 #[.iface 126 (.pointer (some ⟨sp, 0, none⟩)), .slice A k c, .int .i64 chunk, .int .i64 1, .bool true]
  refine (mhead_any _ W.heap.size k c A _ chunk 1 true hCn (by omega)).mono ?_
  rintro e w1 ⟨rfl, hb1⟩
  have hb01 : Below W.heap.size W w1 := hb0.trans (hb1.mono hb0.size)
  have HC1 := Lib.hid (hCn.below hb1 hCn.lt)
  have HB := Lib.hid hb01
  clear hb0 hb1 hCn hb01
  go_wp2_with fail
  have hnF : ¬ (F W.heap.size ∧ W.heap.size < W.heap.size) := fun hh => by omega
  have hspF : ¬ (F sp ∧ sp < W.heap.size) := fun hh => HSP.out hh.1
  have hmF2 : ¬ (F m ∧ m < W.heap.size) := fun hh => hmF hh.1
  have HCm := Lib.hid (HC.out.below HB.out hml)
  refine (first_any w1 _ g sp 0 n W.heap.size (hdI k chunk 1 true) _ _ _ _ _ (HDt.out.keep HB.out) (Cs.below HS.out HB.out hspl) hspF HC1.out hnF hn2 hvl (by show log.length < _; omega) (by show wr ≤ _; omega)).mono ?_
  rintro e w2 ⟨rfl, F2, hd2, ht2⟩
  rw [HF.out.1] at hd2
  rw [HF.out.2]
  have HD2 := Lib.hid hd2
  have hCm2 := HCm.out.fr ht2.1 hmF2
  have hmw1 : m < w1.heap.size := HCm.out.lt
  have HM2 := Lib.hid (ht2.out hmw1 hmF2)
  have HT2 := Lib.hid (((Turn.of_below (F := fun j => F j ∧ j < W.heap.size) HB.out).trans ht2).tg)
  have f3 := hCm2.free 3
  have hC4 : Cs (w2.setCell ⟨m, 3, none⟩ (.int .i64 1)) m 89 #[spanV sp, .slice A k c, .int .i64 chunk, .int .i64 1, .bool op] := heap_setCell_same w2 m 3 _ _ (.int .i64 1) hCm2
  have f4 := hC4.free 4
  have y5 : (w2.setCell ⟨m, 3, none⟩ (.int .i64 1)).cell? ⟨m, 4, none⟩ = some (.bool op) := hC4.cell 4
  clear hC4
  have c3 := hCm2.cell 3
  have HC3 : Hid (Cs ((w2.setCell ⟨m, 3, none⟩ (.int .i64 1)).setCell ⟨m, 4, none⟩ (.bool true)) m 89 #[spanV sp, .slice A k c, .int .i64 chunk, .int .i64 1, .bool true]) := heap_setCell_same _ m 4 _ _ (.bool true) (heap_setCell_same w2 m 3 _ _ (.int .i64 1) hCm2)
  have y3 : w2.cell? ⟨m, 3, none⟩ = some (.int .i64 mode0) := c3
  have y4 : w2.cell? ⟨m, 4, none⟩ = some (.bool op) := hCm2.cell 4
  clear c3 ht2 hd2 HF hCm2
  go_wp2_with fail
  go_ret
  refine ⟨rfl, F2, ?_, HC3.out, ?_, HT2.out.2⟩
  · exact (HD2.out.fr (fr_set w2 m 3 _) (fun j hj e => HM2.out (e ▸ hj))).fr (fr_set _ m 4 _) (fun j hj e => HM2.out (e ▸ hj))
  · exact ((HT2.out.1.mono (H := fun j => F j ∨ j = m) (fun j _ hj => Or.inl hj)).set (.inl (.inr rfl)) _).set (.inl (.inr rfl)) _

set_option maxRecDepth 100000 in
set_option maxHeartbeats 2000000 in
theorem begin2_any (W : World) (F : Nat → Prop) (g sp n m k c : Nat) (A : Option Addr) (chunk mode0 wr : Int) (op : Bool) (now dur : List Nat) (log : List (Nat × Nat × Nat)) (h : DskAt W F g (one now dur log 0 false wr)) (hs : SpanAt W sp g 0 n) (hsp : ¬ F sp) (hmF : ¬ F m) (hspm : sp ≠ m) (hC : Cs W m 89 #[spanV sp, .slice A k c, .int .i64 chunk, .int .i64 mode0, .bool op])
    (hy : Syn now dur log) (hn : now.length = n) (h1 : 1 ≤ n) (hn2 : n ≤ 65536) (hk : k ≤ 1024) (hlog : log.length < 1000000) (hwr : wr ≤ 1000000) :
    Calls Try.prog 32 #[.pointer (some ⟨m, 0, none⟩), .int .i64 2] W (BeginP W F g sp m k c A chunk 2 wr now) := by
  have x0 : W.cell? ⟨m, 0, none⟩ = some (.iface 126 (.pointer (some ⟨sp, 0, none⟩))) := hC.cell 0
  have x1 : W.cell? ⟨m, 1, none⟩ = some (.slice A k c) := hC.cell 1
  have x2 : W.cell? ⟨m, 2, none⟩ = some (.int .i64 chunk) := hC.cell 2
  have x3 : W.cell? ⟨m, 3, none⟩ = some (.int .i64 mode0) := hC.cell 3
  have x4 : W.cell? ⟨m, 4, none⟩ = some (.bool op) := hC.cell 4
  have HDt := Lib.hid h.tight
  have HS := Lib.hid hs
  have HC := Lib.hid hC
  have HSP := Lib.hid hsp
  have hml := hC.lt
  have hspl := Cs.lt hs
  have HF := Lib.hid (one_first hy wr (hdI k chunk 2 true) n hn h1)
  have hvl := hdI_lt k chunk 2 true
  clear h hs hC hsp hy
  go_enter Try.func32, Try.ntmps32
  go_wp2_with fail
  have hb0 : Below W.heap.size W (W.alloc (.cells #[.iface 126 (.pointer (some ⟨sp, 0, none⟩)), .slice A k c, .int .i64 chunk, .int .i64 2, .bool true] 89)) := (Below.refl _ W).alloc (Nat.le_refl _) _
  have hCn := Cs.new W 89 #[.iface 126 (.pointer (some ⟨sp, 0, none⟩)), .slice A k c, .int .i64 chunk, .int .i64 2, .bool true]
  refine (mhead_any _ W.heap.size k c A _ chunk 2 true hCn (by omega)).mono ?_
  rintro e w1 ⟨rfl, hb1⟩
  have hb01 : Below W.heap.size W w1 := hb0.trans (hb1.mono hb0.size)
  have HC1 := Lib.hid (hCn.below hb1 hCn.lt)
  have HB := Lib.hid hb01
  clear hb0 hb1 hCn hb01
  go_wp2_with fail
  have hnF : ¬ (F W.heap.size ∧ W.heap.size < W.heap.size) := fun hh => by omega
  have hspF : ¬ (F sp ∧ sp < W.heap.size) := fun hh => HSP.out hh.1
  have hmF2 : ¬ (F m ∧ m < W.heap.size) := fun hh => hmF hh.1
  have HCm := Lib.hid (HC.out.below HB.out hml)
  refine (first_any w1 _ g sp 0 n W.heap.size (hdI k chunk 2 true) _ _ _ _ _ (HDt.out.keep HB.out) (Cs.below HS.out HB.out hspl) hspF HC1.out hnF hn2 hvl (by show log.length < _; omega) (by show wr ≤ _; omega)).mono ?_
  rintro e w2 ⟨rfl, F2, hd2, ht2⟩
  rw [HF.out.1] at hd2
  rw [HF.out.2]
  have HD2 := Lib.hid hd2
  have hCm2 := HCm.out.fr ht2.1 hmF2
  have hmw1 : m < w1.heap.size := HCm.out.lt
  have HM2 := Lib.hid (ht2.out hmw1 hmF2)
  have HT2 := Lib.hid (((Turn.of_below (F := fun j => F j ∧ j < W.heap.size) HB.out).trans ht2).tg)
  have f3 := hCm2.free 3
  have hC4 : Cs (w2.setCell ⟨m, 3, none⟩ (.int .i64 2)) m 89 #[spanV sp, .slice A k c, .int .i64 chunk, .int .i64 2, .bool op] := heap_setCell_same w2 m 3 _ _ (.int .i64 2) hCm2
  have f4 := hC4.free 4
  have y5 : (w2.setCell ⟨m, 3, none⟩ (.int .i64 2)).cell? ⟨m, 4, none⟩ = some (.bool op) := hC4.cell 4
  clear hC4
  have c3 := hCm2.cell 3
  have HC3 : Hid (Cs ((w2.setCell ⟨m, 3, none⟩ (.int .i64 2)).setCell ⟨m, 4, none⟩ (.bool true)) m 89 #[spanV sp, .slice A k c, .int .i64 chunk, .int .i64 2, .bool true]) := heap_setCell_same _ m 4 _ _ (.bool true) (heap_setCell_same w2 m 3 _ _ (.int .i64 2) hCm2)
  have y3 : w2.cell? ⟨m, 3, none⟩ = some (.int .i64 mode0) := c3
  have y4 : w2.cell? ⟨m, 4, none⟩ = some (.bool op) := hCm2.cell 4
  clear c3 ht2 hd2 HF hCm2
  go_wp2_with fail
  go_ret
  refine ⟨rfl, F2, ?_, HC3.out, ?_, HT2.out.2⟩
  · exact (HD2.out.fr (fr_set w2 m 3 _) (fun j hj e => HM2.out (e ▸ hj))).fr (fr_set _ m 4 _) (fun j hj e => HM2.out (e ▸ hj))
  · exact ((HT2.out.1.mono (H := fun j => F j ∨ j = m) (fun j _ hj => Or.inl hj)).set (.inl (.inr rfl)) _).set (.inl (.inr rfl)) _

end Go.Proofs.Ytpiffapnbjnjiaa

namespace Go.Proofs.Ytpiffapnbjnjiaa
set_option linter.unusedVariables false
open Go.RowKit
attribute [local go_sem] Oper.semAt_some

def EndP (W : World) (F : Nat → Prop) (g sp m k c : Nat) (A : Option Addr) (chunk mode wr : Int) (now : List Nat) (e : Ending) (W' : World) : Prop :=
  e = .returned (.int .i64 0) ∧ ∃ F', DskAt W' F' g (one (now.set 0 (hdI k chunk mode false)) (now.set 0 (hdI k chunk mode false)) [] 0 false (wr + 1)) ∧
    Cs W' m 89 #[spanV sp, .slice A k c, .int .i64 chunk, .int .i64 mode, .bool false] ∧ Fr (fun j => F j ∨ j = m) W W' ∧ ∀ j, F' j → F j ∨ W.heap.size ≤ j

set_option maxRecDepth 100000 in
set_option maxHeartbeats 2000000 in
theorem end_any (W : World) (F : Nat → Prop) (g sp n m k c : Nat) (A : Option Addr) (chunk mode wr : Int) (op : Bool) (now dur : List Nat) (log : List (Nat × Nat × Nat)) (h : DskAt W F g (one now dur log 0 false wr)) (hs : SpanAt W sp g 0 n) (hsp : ¬ F sp) (hmF : ¬ F m) (hC : Cs W m 89 #[spanV sp, .slice A k c, .int .i64 chunk, .int .i64 mode, .bool op])
    (hy : Syn now dur log) (hn : now.length = n) (h1 : 1 ≤ n) (hn2 : n ≤ 65536) (hk : k ≤ 1024) (hlog : log.length < 1000000) (hwr : wr ≤ 1000000) :
    Calls Try.prog 33 #[.pointer (some ⟨m, 0, none⟩)] W (EndP W F g sp m k c A chunk mode wr now) := by
  have x0 : W.cell? ⟨m, 0, none⟩ = some (.iface 126 (.pointer (some ⟨sp, 0, none⟩))) := hC.cell 0
  have HF := Lib.hid (one_first (Syn.refl now) wr (hdI k chunk mode false) n hn h1)
  have hvl := hdI_lt k chunk mode false
  go_enter Try.func33, Try.ntmps33
  go_wp2_with fail
  rw [m_flush]
  go_wp2_with fail
  refine (sflush_any W F g sp 0 n _ h hs hsp (by show log.length ≤ _; omega)).mono ?_
  rintro e w0 ⟨rfl, F0, hd0, ht0⟩
  rw [show ((0 : Nat) : Int) = 0 from rfl, one_flush_syn hy] at hd0
  rw [show ((0 : Nat) : Int) = 0 from rfl, one_chkF]
  have HDt := Lib.hid hd0.tight
  have HS : Hid (SpanAt w0 sp g 0 n) := Cs.fr hs ht0.1 hsp
  have HSP := Lib.hid (ht0.out (Cs.lt hs) hsp)
  have hM0 := ht0.out hC.lt hmF
  have HC := Lib.hid (hC.fr ht0.1 hmF)
  have HT0 := Lib.hid ht0
  have hml := HC.out.lt
  have hspl := Cs.lt HS.out
  have y0 : w0.cell? ⟨m, 0, none⟩ = some (.iface 126 (.pointer (some ⟨sp, 0, none⟩))) := HC.out.cell 0
  have y1 : w0.cell? ⟨m, 1, none⟩ = some (.slice A k c) := HC.out.cell 1
  have y2 : w0.cell? ⟨m, 2, none⟩ = some (.int .i64 chunk) := HC.out.cell 2
  have y3 : w0.cell? ⟨m, 3, none⟩ = some (.int .i64 mode) := HC.out.cell 3
  have y4 : w0.cell? ⟨m, 4, none⟩ = some (.bool op) := HC.out.cell 4
  clear h hs hC hsp hy hd0 ht0 x0
  go_wp2_with fail
  have hb0 : Below w0.heap.size w0 (w0.alloc (.cells #[.iface 126 (.pointer (some ⟨sp, 0, none⟩)), .slice A k c, .int .i64 chunk, .int .i64 mode, .bool false] 89)) := (Below.refl _ w0).alloc (Nat.le_refl _) _
  have hCn := Cs.new w0 89 #[.iface 126 (.pointer (some ⟨sp, 0, none⟩)), .slice A k c, .int .i64 chunk, .int .i64 mode, .bool false]
  refine (mhead_any _ w0.heap.size k c A _ chunk mode false hCn (by omega)).mono ?_
  rintro e w1 ⟨rfl, hb1⟩
  have hb01 : Below w0.heap.size w0 w1 := hb0.trans (hb1.mono hb0.size)
  have HC1 := Lib.hid (hCn.below hb1 hCn.lt)
  have HB := Lib.hid hb01
  clear hb0 hb1 hCn hb01
  go_wp2_with fail
  have hnF : ¬ (F0 w0.heap.size ∧ w0.heap.size < w0.heap.size) := fun hh => by omega
  have hspF : ¬ (F0 sp ∧ sp < w0.heap.size) := fun hh => HSP.out hh.1
  have hmF2 : ¬ (F0 m ∧ m < w0.heap.size) := fun hh => hM0 hh.1
  have HCm := Lib.hid (HC.out.below HB.out hml)
  refine (first_any w1 _ g sp 0 n w0.heap.size (hdI k chunk mode false) _ _ _ _ _ (HDt.out.keep HB.out) (Cs.below HS.out HB.out hspl) hspF HC1.out hnF hn2 hvl (by show ([] : List (Nat × Nat × Nat)).length < _; simp) (by show wr ≤ _; omega)).mono ?_
  rintro e w2 ⟨rfl, F2, hd2, ht2⟩
  rw [HF.out.1] at hd2
  rw [HF.out.2]
  have HD2 := Lib.hid hd2
  have hCm2 := HCm.out.fr ht2.1 hmF2
  have hmw1 : m < w1.heap.size := HCm.out.lt
  have HM2 := Lib.hid (ht2.out hmw1 hmF2)
  have HT2 := Lib.hid (HT0.out.trans ((Turn.of_below (F := fun j => F0 j ∧ j < w0.heap.size) HB.out).trans ht2).tg)
  have f4 := hCm2.free 4
  have z4 : w2.cell? ⟨m, 4, none⟩ = some (.bool op) := hCm2.cell 4
  have HC3 : Hid (Cs (w2.setCell ⟨m, 4, none⟩ (.bool false)) m 89 #[spanV sp, .slice A k c, .int .i64 chunk, .int .i64 mode, .bool false]) := heap_setCell_same _ m 4 _ _ (.bool false) hCm2
  clear ht2 hd2 HF hCm2
  go_wp2_with fail
  go_ret
  refine ⟨rfl, F2, ?_, HC3.out, ?_, HT2.out.2⟩
  · exact HD2.out.fr (fr_set w2 m 4 _) (fun j hj e => HM2.out (e ▸ hj))
  · exact (HT2.out.1.mono (H := fun j => F j ∨ j = m) (fun j _ hj => Or.inl hj)).set (.inl (.inr rfl)) _

end Go.Proofs.Ytpiffapnbjnjiaa

namespace Go.Proofs.Ytpiffapnbjnjiaa
set_option linter.unusedVariables false
open Go.RowKit
attribute [local go_sem] Oper.semAt_some

/-- Why Put refuses. -/
def mputE (n : Nat) (k : Int) (s : Sl) : Int := if k < 0 ∨ (n : Int) ≤ k ∨ s.block < 0 ∨ 16777215 < s.block then 1 else if s.valid = false ∧ (s.block ≠ 0 ∨ s.dirty = true) then 2 else 0

set_option maxRecDepth 100000 in
set_option maxHeartbeats 2000000 in
theorem mput_range (W : World) (m n c : Nat) (A : Option Addr) (x y z t : Value) (k : Int) (s : Sl) (hC : Cs W m 89 #[x, .slice A n c, y, z, t]) (hE : k < 0 ∨ (n : Int) ≤ k ∨ s.block < 0 ∨ 16777215 < s.block) :
    Calls Try.prog 34 #[.pointer (some ⟨m, 0, none⟩), .int .i64 k, s.v] W fun e w' => e = .returned (.int .i64 1) ∧ Below W.heap.size W w' := by
  obtain ⟨v, d, b, st⟩ := s
  unfold Sl.v
  change k < 0 ∨ (n : Int) ≤ k ∨ b < 0 ∨ 16777215 < b at hE
  have hb0 : Below W.heap.size W (W.alloc (.cells #[.bool v, .bool d, .int .i64 b, .int .i64 st] 50)) := (Below.refl _ W).alloc (Nat.le_refl _) _
  have x1 : (W.alloc (.cells #[.bool v, .bool d, .int .i64 b, .int .i64 st] 50)).cell? ⟨m, 1, none⟩ = some (.slice A n c) := (hb0.cell (p := ⟨m, 1, none⟩) hC.lt).trans (hC.cell 1)
  have c2 : (W.alloc (.cells #[.bool v, .bool d, .int .i64 b, .int .i64 st] 50)).cell? ⟨W.heap.size, 2, none⟩ = some (.int .i64 b) := (Cs.new W 50 #[.bool v, .bool d, .int .i64 b, .int .i64 st]).cell 2
  clear hC
  by_cases q1 : k < 0
  · clear hE
    go_enter Try.func34, Try.ntmps34
    go_wp2_with fail
    go_ret
    exact ⟨rfl, hb0⟩
  · by_cases q2 : (n : Int) ≤ k
    · clear hE
      go_enter Try.func34, Try.ntmps34
      go_wp2_with fail
      go_ret
      exact ⟨rfl, hb0⟩
    · by_cases q3 : b < 0
      · clear hE
        go_enter Try.func34, Try.ntmps34
        go_wp2_with fail
        go_ret
        exact ⟨rfl, hb0⟩
      · have q4 : 16777215 < b := by omega
        clear hE
        go_enter Try.func34, Try.ntmps34
        go_wp2_with fail
        go_ret
        exact ⟨rfl, hb0⟩

set_option maxRecDepth 100000 in
set_option maxHeartbeats 2000000 in
theorem mput_form (W : World) (m n c : Nat) (A : Option Addr) (x y z t : Value) (k : Int) (s : Sl) (hC : Cs W m 89 #[x, .slice A n c, y, z, t]) (hr : ¬ (k < 0 ∨ (n : Int) ≤ k ∨ s.block < 0 ∨ 16777215 < s.block)) (hv : s.valid = false) (hE : s.block ≠ 0 ∨ s.dirty = true) :
    Calls Try.prog 34 #[.pointer (some ⟨m, 0, none⟩), .int .i64 k, s.v] W fun e w' => e = .returned (.int .i64 2) ∧ Below W.heap.size W w' := by
  obtain ⟨v, d, b, st⟩ := s
  unfold Sl.v
  change ¬ (k < 0 ∨ (n : Int) ≤ k ∨ b < 0 ∨ 16777215 < b) at hr
  change b ≠ 0 ∨ d = true at hE
  replace hv : v = false := hv
  subst hv
  have hb0 : Below W.heap.size W (W.alloc (.cells #[.bool false, .bool d, .int .i64 b, .int .i64 st] 50)) := (Below.refl _ W).alloc (Nat.le_refl _) _
  have x1 : (W.alloc (.cells #[.bool false, .bool d, .int .i64 b, .int .i64 st] 50)).cell? ⟨m, 1, none⟩ = some (.slice A n c) := (hb0.cell (p := ⟨m, 1, none⟩) hC.lt).trans (hC.cell 1)
  have c2 : (W.alloc (.cells #[.bool false, .bool d, .int .i64 b, .int .i64 st] 50)).cell? ⟨W.heap.size, 2, none⟩ = some (.int .i64 b) := (Cs.new W 50 #[.bool false, .bool d, .int .i64 b, .int .i64 st]).cell 2
  have c0 : (W.alloc (.cells #[.bool false, .bool d, .int .i64 b, .int .i64 st] 50)).cell? ⟨W.heap.size, 0, none⟩ = some (.bool false) := (Cs.new W 50 #[.bool false, .bool d, .int .i64 b, .int .i64 st]).cell 0
  have c1 : (W.alloc (.cells #[.bool false, .bool d, .int .i64 b, .int .i64 st] 50)).cell? ⟨W.heap.size, 1, none⟩ = some (.bool d) := (Cs.new W 50 #[.bool false, .bool d, .int .i64 b, .int .i64 st]).cell 1
  clear hC
  have q1 : ¬ k < 0 := by omega
  have q2 : ¬ (n : Int) ≤ k := by omega
  have q3 : ¬ b < 0 := by omega
  have q4 : ¬ 16777215 < b := by omega
  clear hr
  by_cases q5 : b = 0
  · replace hE : d = true := by rcases hE with h | h; exact absurd q5 h; exact h
    subst hE
    subst q5
    go_enter Try.func34, Try.ntmps34
    go_wp2_with fail
    go_ret
    exact ⟨rfl, hb0⟩
  · have q6 : (b != 0) = true := by simpa using q5
    clear hE
    go_enter Try.func34, Try.ntmps34
    go_wp2_with fail
    go_ret
    exact ⟨rfl, hb0⟩

end Go.Proofs.Ytpiffapnbjnjiaa

namespace Go.Proofs.Ytpiffapnbjnjiaa
set_option linter.unusedVariables false
open Go.RowKit
attribute [local go_sem] Oper.semAt_some

theorem down_any (W : World) (F : Nat → Prop) (g : Nat) (S : DS) (h : DskAt W F g S) :
    Calls Try.prog 37 #[.pointer (some ⟨g, 0, none⟩)] W fun e w' => e = .returned (.bool S.down) ∧ W = w' := by
  obtain ⟨ho, dv, lv, mb, zs, hl, hi⟩ := h
  have c4 : W.cell? ⟨g, 4, none⟩ = some (.bool S.down) := Cs.cell hl.arr 4
  clear ho hl hi
  go_enter Try.func37, Try.ntmps37
  go_wp2_with fail
  go_ret
  exact ⟨rfl, rfl⟩

theorem fuse_any (W : World) (F : Nat → Prop) (g : Nat) (S : DS) (n : Int) (h : DskAt W F g S) (hn : 0 ≤ n) (hn2 : n ≤ 9223372036854775807) :
    Calls Try.prog 36 #[.pointer (some ⟨g, 0, none⟩), .int .i64 n] W fun e w' => e = .returned (.tuple #[]) ∧ DskAt w' F g { S with fuse := n } ∧ Fr F W w' := by
  obtain ⟨ho, dv, lv, mb, zs, hl, hi⟩ := h
  have c3 : W.cell? ⟨g, 3, none⟩ = some (.int .i64 S.fuse) := Cs.cell hl.arr 3
  have f3 := Cs.free hl.arr 3
  have hmx : max n 0 = n := by omega
  have HL := Lib.hid (hl.setFuse n)
  have HI := Lib.hid hi
  have HO : Hid (({ S with fuse := n } : DS).Ok) := ⟨ho.nd, ho.drv, ho.log, ⟨hn, hn2⟩, ho.wr⟩
  clear ho hl hi
  go_enter Try.func36, Try.ntmps36
  go_wp2_with fail
  refine bodyPost_end (v := .tuple #[]) (by simp [results, Try.f36, go_sem]) rfl ?_
  exact ⟨rfl, ⟨HO.out, dv, lv, mb, zs, HL.out, HI.out⟩, (Fr.refl F W).set (.inl HI.out.arr) _⟩

end Go.Proofs.Ytpiffapnbjnjiaa
