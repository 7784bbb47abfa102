/-
  A cache in memory; Put, where it writes.
-/
import Derived.Test.YtpiffapnbjnjiaaMetaX
namespace Go.Proofs.Ytpiffapnbjnjiaa
set_option linter.unusedVariables false
open Go.RowKit
attribute [local go_sem] Oper.semAt_some m_write

/-- A cache's words in memory: the disk (in F), the span, the cache. All of it lies in Fc. -/
structure CacheIn (W : World) (F Fc : Nat → Prop) (g sp m n : Nat) (S : DS) (ss : List Sl) (A : Option Addr) (c : Nat) (chunk mode : Int) (op : Bool) : Prop where
  dsk : DskAt W F g S
  inF : ∀ j, F j → Fc j
  span : SpanAt W sp g 0 n
  spF : ¬ F sp
  spC : Fc sp
  spm : sp ≠ m
  mF : ¬ F m
  mC : Fc m
  meta_ : Cs W m 89 #[spanV sp, .slice A ss.length c, .int .i64 chunk, .int .i64 mode, .bool op]
  row : W.ownsRow 0 50 4 (.slice A ss.length c) ss.length (scs ss)
  own : ∀ b, (Value.slice A ss.length c).ownBlock = some b → ¬ F b ∧ b ≠ sp ∧ b ≠ m ∧ Fc b
def CacheAt (W : World) (Fc : Nat → Prop) (g sp m n : Nat) (S : DS) (ss : List Sl) (chunk mode : Int) (op : Bool) : Prop := ∃ F A c, CacheIn W F Fc g sp m n S ss A c chunk mode op

theorem CacheIn.tight {W : World} {F Fc : Nat → Prop} {g sp m n : Nat} {S : DS} {ss : List Sl} {A : Option Addr} {c : Nat} {chunk mode : Int} {op : Bool} (h : CacheIn W F Fc g sp m n S ss A c chunk mode op) : CacheIn W (fun j => F j ∧ j < W.heap.size) Fc g sp m n S ss A c chunk mode op :=
  ⟨h.dsk.tight, fun j hj => h.inF j hj.1, h.span, fun hj => h.spF hj.1, h.spC, h.spm, fun hj => h.mF hj.1, h.mC, h.meta_, h.row, fun b hb => ⟨fun hj => (h.own b hb).1 hj.1, (h.own b hb).2⟩⟩
theorem CacheIn.fr {W W' : World} {F Fc G : Nat → Prop} {g sp m n : Nat} {S : DS} {ss : List Sl} {A : Option Addr} {c : Nat} {chunk mode : Int} {op : Bool} (h : CacheIn W F Fc g sp m n S ss A c chunk mode op) (hf : Fr G W W') (hn : ∀ j, Fc j → ¬ G j) : CacheIn W' F Fc g sp m n S ss A c chunk mode op :=
  ⟨h.dsk.fr hf (fun j hj => hn j (h.inF j hj)), h.inF, Cs.fr h.span hf (hn _ h.spC), h.spF, h.spC, h.spm, h.mF, h.mC, h.meta_.fr hf (hn _ h.mC), own_fr h.row hf (fun b hb => hn _ (h.own b hb).2.2.2), h.own⟩
theorem CacheAt.fr {W W' : World} {Fc G : Nat → Prop} {g sp m n : Nat} {S : DS} {ss : List Sl} {chunk mode : Int} {op : Bool} (h : CacheAt W Fc g sp m n S ss chunk mode op) (hf : Fr G W W') (hn : ∀ j, Fc j → ¬ G j) : CacheAt W' Fc g sp m n S ss chunk mode op := by
  obtain ⟨F, A, c, h⟩ := h
  exact ⟨F, A, c, h.fr hf hn⟩
theorem CacheAt.keep {W W' : World} {Fc : Nat → Prop} {g sp m n : Nat} {S : DS} {ss : List Sl} {chunk mode : Int} {op : Bool} (h : CacheAt W Fc g sp m n S ss chunk mode op) (hb : Below W.heap.size W W') : CacheAt W' Fc g sp m n S ss chunk mode op :=
  h.fr (G := fun _ => False) (Fr.of_below hb) (fun _ _ h => h)

theorem CacheIn.turn {W W' : World} {F F' Fc : Nat → Prop} {g sp m n : Nat} {S S' : DS} {ss : List Sl} {A : Option Addr} {c : Nat} {chunk mode : Int} {op : Bool} (h : CacheIn W F Fc g sp m n S ss A c chunk mode op) (hd : DskAt W' F' g S') (ht : Turn F F' W W') :
    CacheIn W' F' (fun j => Fc j ∨ F' j) g sp m n S' ss A c chunk mode op :=
  ⟨hd, fun j hj => .inr hj, Cs.fr h.span ht.1 h.spF, ht.out (Cs.lt h.span) h.spF, .inl h.spC, h.spm, ht.out h.meta_.lt h.mF, .inl h.mC, h.meta_.fr ht.1 h.mF, own_fr h.row ht.1 (fun b hb => (h.own b hb).1),
    fun b hb => ⟨ht.out (own_lt h.row b hb) (h.own b hb).1, (h.own b hb).2.1, (h.own b hb).2.2.1, .inl (h.own b hb).2.2.2⟩⟩
theorem turn_wide {W W' : World} {F F' Fc : Nat → Prop} (hF : ∀ j, F j → Fc j) (ht : Turn F F' W W') : Turn Fc (fun j => Fc j ∨ F' j) W W' :=
  ⟨ht.1.mono (fun j _ hj => hF j hj), fun j hj => hj.elim .inl (fun h => (ht.2 j h).elim (fun h' => .inl (hF j h')) .inr)⟩
theorem Turn.set {F F' : Nat → Prop} {W W' : World} (h : Turn F F' W W') {b i : Nat} (hb : F b ∨ W.heap.size ≤ b) (u : Value) : Turn F F' W (W'.setCell ⟨b, i, none⟩ u) := ⟨h.1.set hb u, h.2⟩

theorem CacheIn.drew {W : World} {F Fc : Nat → Prop} {g sp m n : Nat} {S : DS} {ss : List Sl} {A : Option Addr} {c : Nat} {chunk mode : Int} {op : Bool} (h : CacheIn W F Fc g sp m n S ss A c chunk mode op) : CacheIn W.drew F Fc g sp m n S ss A c chunk mode op :=
  h.fr (G := fun _ => False) (Fr.of_below (Below.refl _ W).drew) (fun _ _ h => h)
theorem Turn.drew {F F' : Nat → Prop} {W W' : World} (h : Turn F F' W W') : Turn F F' W W'.drew := ⟨h.1.drew, h.2⟩

/-- What Put leaves. -/
def PutP (W : World) (Fc : Nat → Prop) (g sp m n : Nat) (S : DS) (ss : List Sl) (chunk mode : Int) (op : Bool) (k : Nat) (s : Sl) (e : Ending) (W' : World) : Prop :=
  e = .returned (.int .i64 (S.swE 0 n (1 + (k : Int)))) ∧ ∃ Fc', CacheAt W' Fc' g sp m n (S.swrite 0 n (1 + (k : Int)) s.word) (if S.swE 0 n (1 + (k : Int)) = 0 then ss.set k ⟨s.valid, s.dirty, s.block, 0⟩ else ss) chunk mode op ∧ Turn Fc Fc' W W'

theorem word_lt (s : Sl) : s.word < 18446744073709551616 := by
  unfold Sl.word
  split
  · exact slW_lt _ _ (mod_nat s.block 16777216 (by omega)) (b01_lt _)
  · omega

set_option maxRecDepth 100000 in
set_option maxHeartbeats 4000000 in
theorem mput_ok (W : World) (Fc : Nat → Prop) (g sp m n : Nat) (S : DS) (ss : List Sl) (chunk mode : Int) (op : Bool) (k : Nat) (s : Sl) (h : CacheAt W Fc g sp m n S ss chunk mode op) (hk : k < ss.length) (hl : ss.length ≤ 1024)
    (hr : 0 ≤ s.block ∧ s.block ≤ 16777215) (hv : s.valid = false → s.block = 0 ∧ s.dirty = false) (hn : n ≤ 65536) (hlog : S.log.length < 1000000) (hwr : S.wr ≤ 1000000) :
    Calls Try.prog 34 #[.pointer (some ⟨m, 0, none⟩), .int .i64 (k : Int), s.v] W (PutP W Fc g sp m n S ss chunk mode op k s) := by
  obtain ⟨F0, A, c, h0⟩ := h
  have h1 := h0.tight
  have HI := Lib.hid h1
  have hwl := word_lt s
  have hmw := mword_any s
  obtain ⟨v, d, b, st⟩ := s
  change 0 ≤ b ∧ b ≤ 16777215 at hr
  change v = false → b = 0 ∧ d = false at hv
  unfold Sl.v at hmw ⊢
  have q1 : ¬ (k : Int) < 0 := by omega
  have q2 : ¬ (ss.length : Int) ≤ (k : Int) := by omega
  have q3 : ¬ b < 0 := by omega
  have q4 : ¬ 16777215 < b := by omega
  have e1 : IntKind.i64.wrap (1 + (k : Int)) = 1 + (k : Int) := IntWalk.i64_in _ (by omega)
  obtain ⟨bR, cap, hA, -, hbR⟩ := h1.row.form (by omega)
  injection hA with hA2 _ hcap
  subst hA2
  subst hcap
  obtain ⟨N, hN⟩ : ∃ N, ss.length = N := ⟨_, rfl⟩
  have HN := Lib.hid hN
  have hb0 : Below W.heap.size W (W.alloc (.cells #[.bool v, .bool d, .int .i64 b, .int .i64 st] 50)) := (Below.refl _ W).alloc (Nat.le_refl _) _
  have hC0 := Cs.new W 50 #[.bool v, .bool d, .int .i64 b, .int .i64 st]
  have HX := Lib.hid (h1.fr (G := fun _ => False) (Fr.of_below hb0) (fun _ _ h => h))
  have x0 : (W.alloc (.cells #[.bool v, .bool d, .int .i64 b, .int .i64 st] 50)).cell? ⟨m, 0, none⟩ = some (.iface 126 (.pointer (some ⟨sp, 0, none⟩))) := HX.out.meta_.cell 0
  have x1 : (W.alloc (.cells #[.bool v, .bool d, .int .i64 b, .int .i64 st] 50)).cell? ⟨m, 1, none⟩ = some (.slice (some ⟨bR, 0, none⟩) N c) := by rw [← hN]; exact HX.out.meta_.cell 1
  have y0 : (W.alloc (.cells #[.bool v, .bool d, .int .i64 b, .int .i64 st] 50)).cell? ⟨W.heap.size, 0, none⟩ = some (.bool v) := hC0.cell 0
  have y1 : (W.alloc (.cells #[.bool v, .bool d, .int .i64 b, .int .i64 st] 50)).cell? ⟨W.heap.size, 1, none⟩ = some (.bool d) := hC0.cell 1
  have y2 : (W.alloc (.cells #[.bool v, .bool d, .int .i64 b, .int .i64 st] 50)).cell? ⟨W.heap.size, 2, none⟩ = some (.int .i64 b) := hC0.cell 2
  have y3 : (W.alloc (.cells #[.bool v, .bool d, .int .i64 b, .int .i64 st] 50)).cell? ⟨W.heap.size, 3, none⟩ = some (.int .i64 st) := hC0.cell 3
  rw [hN] at q2
  clear h0 h1 hN
  go_enter Try.func34, Try.ntmps34
  go_upto_region 3 with (fail)
  go_cut [40] (fun s40 wx => s40 = .bool false ∧ wx = W.alloc (.cells #[.bool v, .bool d, .int .i64 b, .int .i64 st] 50))
  case first =>
    cases v
    · obtain ⟨rfl, rfl⟩ := hv rfl
      go_wp2_with fail
      go_meet
      case rel => exact ⟨rfl, rfl⟩
    · go_wp2_with fail
      go_meet
      case rel => exact ⟨rfl, rfl⟩
  case rest =>
    obtain ⟨rfl, rfl⟩ := hcut
    generalize hW0 : (W.alloc (.cells #[.bool v, .bool d, .int .i64 b, .int .i64 st] 50)) = W0 at *
    have hs0 : W.heap.size < W0.heap.size := hC0.lt
    have hml := HX.out.meta_.lt
    have hsF : ¬ (F0 W.heap.size ∧ W.heap.size < W.heap.size) := fun hh => by omega
    go_upto_region 5 with (fail)
    have kk : W0.drew.cell? ⟨m, 0, none⟩ = some (.iface 126 (.pointer (some ⟨sp, 0, none⟩))) ∧ W0.drew.cell? ⟨W.heap.size, 0, none⟩ = some (.bool v) ∧ W0.drew.cell? ⟨W.heap.size, 1, none⟩ = some (.bool d) ∧ W0.drew.cell? ⟨W.heap.size, 2, none⟩ = some (.int .i64 b) ∧ W0.drew.cell? ⟨W.heap.size, 3, none⟩ = some (.int .i64 st) := ⟨x0, y0, y1, y2, y3⟩
    go_region_held3 (fun w' => w'.cell? ⟨m, 0, none⟩ = some (.iface 126 (.pointer (some ⟨sp, 0, none⟩))) ∧ w'.cell? ⟨W.heap.size, 0, none⟩ = some (.bool v) ∧ w'.cell? ⟨W.heap.size, 1, none⟩ = some (.bool d) ∧ w'.cell? ⟨W.heap.size, 2, none⟩ = some (.int .i64 b) ∧ w'.cell? ⟨W.heap.size, 3, none⟩ = some (.int .i64 st))
      (first | with_reducible exact kk | with_reducible exact z2 | with_reducible exact z1)
      (first
        | (go_at_call 23; refine (hmw _).mono ?_; rintro e w2 ⟨rfl, hb2⟩; have z1 : w2.cell? ⟨m, 0, none⟩ = some (.iface 126 (.pointer (some ⟨sp, 0, none⟩))) ∧ w2.cell? ⟨W.heap.size, 0, none⟩ = some (.bool v) ∧ w2.cell? ⟨W.heap.size, 1, none⟩ = some (.bool d) ∧ w2.cell? ⟨W.heap.size, 2, none⟩ = some (.int .i64 b) ∧ w2.cell? ⟨W.heap.size, 3, none⟩ = some (.int .i64 st) := ⟨(hb2.cell (p := ⟨m, 0, none⟩) hml).trans x0, (hb2.cell (p := ⟨W.heap.size, 0, none⟩) hs0).trans y0, (hb2.cell (p := ⟨W.heap.size, 1, none⟩) hs0).trans y1, (hb2.cell (p := ⟨W.heap.size, 2, none⟩) hs0).trans y2, (hb2.cell (p := ⟨W.heap.size, 3, none⟩) hs0).trans y3⟩; have HX2 := Lib.hid (HX.out.fr (G := fun _ => False) (Fr.of_below hb2).undrew (fun _ _ h => h)); have hs2 : W.heap.size < w2.heap.size := Nat.lt_of_lt_of_le hs0 hb2.size)
        | (go_at_call 111; refine (swrite_any w2 _ g sp 0 n S (1 + (k : Int)) _ HX2.out.dsk HX2.out.span HX2.out.spF hn hwl (Nat.le_of_lt hlog) (by omega)).mono ?_; rintro e w3 ⟨rfl, F3, hd3, ht3⟩; have z2 : w3.cell? ⟨m, 0, none⟩ = some (.iface 126 (.pointer (some ⟨sp, 0, none⟩))) ∧ w3.cell? ⟨W.heap.size, 0, none⟩ = some (.bool v) ∧ w3.cell? ⟨W.heap.size, 1, none⟩ = some (.bool d) ∧ w3.cell? ⟨W.heap.size, 2, none⟩ = some (.int .i64 b) ∧ w3.cell? ⟨W.heap.size, 3, none⟩ = some (.int .i64 st) := ⟨(ht3.1.cell HX2.out.meta_.lt HX2.out.mF).trans z1.1, (ht3.1.cell hs2 hsF).trans z1.2.1, (ht3.1.cell hs2 hsF).trans z1.2.2.1, (ht3.1.cell hs2 hsF).trans z1.2.2.2.1, (ht3.1.cell hs2 hsF).trans z1.2.2.2.2⟩))
    have HX3 := Lib.hid (HX2.out.turn hd3 ht3)
    have hT2 : Turn Fc Fc W w2 := Turn.of_below ((hb0.drew).trans (hb2.mono hb0.size))
    have HT3 := Lib.hid (hT2.trans (turn_wide HX2.out.inF ht3))
    have HC3 := Lib.hid ((Cs.below (w := W0.drew) hC0 hb2 hs0).fr ht3.1 hsF)
    have hQ : Hid (S.swE 0 n (1 + (k : Int)) = S.swE 0 n (1 + (k : Int))) := rfl
    have hs3F := ht3.out hs2 hsF
    clear kk x0 x1 y0 y1 y2 y3 z1 z2 hd3 ht3 hT2 hmw HX HX2 hC0
    by_cases hq : S.swE 0 n (1 + (k : Int)) = 0
    rotate_left
    · have hq2 : (S.swE 0 n (1 + (k : Int)) != 0) = true := by simpa using hq
      go_wp2_with fail
      go_ret
      exact ⟨rfl, _, by rw [if_neg hq]; exact ⟨_, _, _, HX3.out⟩, HT3.out⟩
    · have f3 := HC3.out.free 3
      have HC4 : Hid (Cs (w3.setCell ⟨W.heap.size, 3, none⟩ (.int .i64 0)) W.heap.size 50 #[.bool v, .bool d, .int .i64 b, .int .i64 0]) := heap_setCell_same w3 W.heap.size 3 _ _ (.int .i64 0) HC3.out
      have hne : ∀ j, Fc j → j < W.heap.size → ¬ j = W.heap.size := fun j _ h1 h2 => by omega
      have hRB := HX3.out.own bR rfl
      have hbo : ∀ b', (Value.slice (some ⟨bR, 0, none⟩) ss.length c).ownBlock = some b' → ¬ b' = W.heap.size := by
        intro b' hb'
        simp [Value.ownBlock] at hb'
        omega
      have hrow4 := own_fr HX3.out.row (fr_set w3 W.heap.size 3 (.int .i64 0)) hbo
      have x1 : (w3.setCell ⟨W.heap.size, 3, none⟩ (.int .i64 0)).cell? ⟨m, 1, none⟩ = some (.slice (some ⟨bR, 0, none⟩) N c) := by
        rw [← HN.out]
        exact (HX3.out.meta_.fr (fr_set w3 W.heap.size 3 (.int .i64 0)) (fun e => by have := HI.out.meta_.lt; omega)).cell 1
      have y0 : (w3.setCell ⟨W.heap.size, 3, none⟩ (.int .i64 0)).cell? ⟨W.heap.size, 0, none⟩ = some (.bool v) := HC4.out.cell 0
      have y1 : (w3.setCell ⟨W.heap.size, 3, none⟩ (.int .i64 0)).cell? ⟨W.heap.size, 1, none⟩ = some (.bool d) := HC4.out.cell 1
      have y2 : (w3.setCell ⟨W.heap.size, 3, none⟩ (.int .i64 0)).cell? ⟨W.heap.size, 2, none⟩ = some (.int .i64 b) := HC4.out.cell 2
      have y3 : (w3.setCell ⟨W.heap.size, 3, none⟩ (.int .i64 0)).cell? ⟨W.heap.size, 3, none⟩ = some (.int .i64 0) := HC4.out.cell 3
      have HT4 := Lib.hid (HT3.out.set (b := W.heap.size) (i := 3) (.inr (Nat.le_refl _)) (.int .i64 0))
      have HX4 := Lib.hid (HX3.out.meta_.fr (fr_set w3 W.heap.size 3 (.int .i64 0)) (fun e => by have := HI.out.meta_.lt; omega))
      have r0 := hrow4.frozenAt (k * 4)
      have r1 := hrow4.frozenAt (k * 4 + 1)
      have r2 := hrow4.frozenAt (k * 4 + 2)
      have r3 := hrow4.frozenAt (k * 4 + 3)
      obtain ⟨t0, t1, t2, t3⟩ := scs_at ss k ss[k] (List.getElem?_eq_getElem hk)
      have p0 := (hrow4.cellAt (k * 4) (by omega)).trans t0
      have p1 := (hrow4.cellAt (k * 4 + 1) (by omega)).trans t1
      have p2 := (hrow4.cellAt (k * 4 + 2) (by omega)).trans t2
      have p3 := (hrow4.cellAt (k * 4 + 3) (by omega)).trans t3
      clear t0 t1 t2 t3
      generalize ss[k] = old at *
      have HR4 := Lib.hid hrow4
      clear hrow4
      go_wp2_with fail
      go_region
      have hIo := (HI.out.own bR rfl).2.2.2
      have hspl : sp < W.heap.size := Cs.lt HI.out.span
      have hml0 : m < W.heap.size := HI.out.meta_.lt
      have hFr : Fr (fun j => j = W.heap.size ∨ j = bR) w3 (((((w3.setCell ⟨W.heap.size, 3, none⟩ (.int .i64 0)).setCell ⟨bR, k * 4, none⟩ (.bool v)).setCell ⟨bR, k * 4 + 1, none⟩ (.bool d)).setCell ⟨bR, k * 4 + 2, none⟩ (.int .i64 b)).setCell ⟨bR, k * 4 + 3, none⟩ (.int .i64 0)) :=
        (((((Fr.refl _ w3).set (.inl (.inl rfl)) _).set (.inl (.inr rfl)) _).set (.inl (.inr rfl)) _).set (.inl (.inr rfl)) _).set (.inl (.inr rfl)) _
      have hTF := (((HT4.out.set (b := bR) (i := k * 4) (.inl hIo) (.bool v)).set (b := bR) (i := k * 4 + 1) (.inl hIo) (.bool d)).set (b := bR) (i := k * 4 + 2) (.inl hIo) (.int .i64 b)).set (b := bR) (i := k * 4 + 3) (.inl hIo) (.int .i64 0)
      have hrF := ((((HR4.out.stored (k * 4) (.bool v)).1.stored (k * 4 + 1) (.bool d)).1.stored (k * 4 + 2) (.int .i64 b)).1.stored (k * 4 + 3) (.int .i64 0)).1
      have hset := scs_set ss k ⟨v, d, b, 0⟩ hk
      rw [← hset] at hrF
      have HFR := Lib.hid hFr
      have HTF := Lib.hid hTF
      have HRF := Lib.hid hrF
      clear hFr hTF hrF hset p0 p1 p2 p3 r0 r1 r2 r3 y0 y1 y2 y3 x1 HT4 HR4 HC4
      generalize (((((w3.setCell ⟨W.heap.size, 3, none⟩ (.int .i64 0)).setCell ⟨bR, k * 4, none⟩ (.bool v)).setCell ⟨bR, k * 4 + 1, none⟩ (.bool d)).setCell ⟨bR, k * 4 + 2, none⟩ (.int .i64 b)).setCell ⟨bR, k * 4 + 3, none⟩ (.int .i64 0)) = V at *
      go_wp2_with fail
      go_ret
      have hX := HX3.out
      have hsl : (ss.set k ⟨v, d, b, 0⟩).length = ss.length := List.length_set
      have hfin : CacheIn V F3 (fun j => Fc j ∨ F3 j) g sp m n (S.swrite 0 n (1 + (k : Int)) (Sl.mk v d b st).word) (ss.set k ⟨v, d, b, 0⟩) (some ⟨bR, 0, none⟩) c chunk mode op := by
        refine ⟨hX.dsk.fr HFR.out (fun j hj e => e.elim (fun e => hs3F (e ▸ hj)) (fun e => hRB.1 (e ▸ hj))), hX.inF, Cs.fr hX.span HFR.out (fun e => e.elim (fun e => by omega) (fun e => hRB.2.1 e.symm)), hX.spF, hX.spC, hX.spm, hX.mF, hX.mC, ?_, ?_, ?_⟩
        · rw [hsl]
          exact hX.meta_.fr HFR.out (fun e => e.elim (fun e => by omega) (fun e => hRB.2.2.1 e.symm))
        · rw [hsl]; exact HRF.out
        · rw [hsl]; exact hX.own
      exact ⟨by rw [hq]; rfl, _, by rw [if_pos hq]; exact ⟨F3, some ⟨bR, 0, none⟩, c, hfin.drew⟩, HTF.out.drew⟩

end Go.Proofs.Ytpiffapnbjnjiaa
