import Derived.Test.YtjnkajdfdhockaaC3
import Derived.Test.YtjnkajdfdhockaaMix
namespace Go.Proofs.Ytjnkajdfdhockaa
set_option linter.unusedVariables false
open Go.RowKit
open Go.RowKit Go.Shelf
attribute [local go_sem] Oper.semAt_some

set_option maxHeartbeats 400000 in
theorem fields_size (A B : Option Addr) (c d : Nat) (n m : Nat) (w : World) (h : n ≠ m) :
    Calls Try.prog 44 #[.slice A n c, .slice B m d] w fun e w' => e = .returned (.tuple #[.int .u64 0, .int .i64 3]) ∧ Below w.heap.size w w' := by
  have H1 : ((n : Int) != (m : Int)) = true := by simp; omega
  go_enter Try.func44, Try.ntmps44
  go_wp2
  refine bodyPost_ret (v := .tuple #[.int .u64 0, .int .i64 3]) (by simp [results, Try.f44, go_sem]) rfl ⟨rfl, ?_⟩
  exact ((((Below.refl _ w).alloc (Nat.le_refl _) _).alloc (by simp) _).alloc (by simp; omega) _)

set_option maxHeartbeats 400000 in
theorem fields_range (A B : Option Addr) (c d : Nat) (ws : List Int) (w : World) (hA : Reads w A (iv ws)) (hlen : ws.length ≤ 1000000) (hok : okW 0 ws = false) :
    Calls Try.prog 44 #[.slice A ws.length c, .slice B ws.length d] w fun e w' => e = .returned (.tuple #[.int .u64 0, .int .i64 1]) ∧ Below w.heap.size w w' := by
  have Hd := Lib.hid (fun W hA => divided_any A c ws W hA hlen)
  rw [hok] at Hd
  clear hok
  go_enter Try.func44, Try.ntmps44
  go_wp2_with fail
  refine (Hd.out _ (hA.keep ((((Below.refl _ w).alloc (Nat.le_refl _) _).alloc (by simp) _).alloc (by simp; omega) _))).mono ?_
  rintro e w' ⟨rfl, rfl⟩
  go_wp2_with fail
  refine bodyPost_ret (v := .tuple #[.int .u64 0, .int .i64 1]) (by simp [results, Try.f44, go_sem]) rfl ⟨rfl, ?_⟩
  exact ((((Below.refl _ w).alloc (Nat.le_refl _) _).alloc (by simp) _).alloc (by simp; omega) _)

def fitsB : List Fld → List Nat → Bool
  | [], _ => true
  | f :: pre, vs => decide (vs[0]?.getD 0 ≤ f.mask) && fitsB pre vs.tail

theorem fitsB_iff (pre : List Fld) (vs : List Nat) : fitsF pre vs ↔ fitsB pre vs = true := by
  induction pre generalizing vs with
  | nil => exact ⟨fun _ => rfl, fun _ k hk => by simp at hk⟩
  | cons f pre ih =>
    simp only [fitsB, Bool.and_eq_true, decide_eq_true_eq, ← ih]
    constructor
    · intro h
      refine ⟨h 0 (by simp) f rfl, fun k hk g hg => ?_⟩
      have := h (k + 1) (by simpa using hk) g (by simpa using hg)
      simpa using this
    · rintro ⟨h0, h1⟩ k hk g hg
      cases k with
      | zero => simp at hg; subst hg; exact h0
      | succ k => have := h1 k (by simpa using hk) g (by simpa using hg); simpa using this

theorem fldOf_at (ws : List Int) (k : Nat) (t : Int) (ht : t = (ws.take k).sum) (h0 : 0 ≤ t) (h1 : t ≤ 64) : (fldOf ws k).at_ = t.toNat := by
  show min (fldAt ws k) 64 = _
  unfold fldAt
  rw [← ht]
  omega

theorem fldOf_mask (ws : List Int) (k : Nat) (x : Int) (hx : ws[k]?.getD 0 = x) (h1 : x ≤ 64) : (fldOf ws k).mask = 2 ^ x.toNat - 1 := by
  show min (maskOf (ws[k]?.getD 0)) _ = _
  rw [hx]
  have := mask_lt x h1
  unfold maskOf at *
  omega

/-- What Fields answers. -/
def wordR (ws : List Int) (vs : List Nat) : Nat := if ws.length = vs.length ∧ okW 0 ws = true ∧ fitsB (upto (fldOf ws) ws.length) vs = true then wordF (upto (fldOf ws) ws.length) vs else 0

def wordE (ws : List Int) (vs : List Nat) : Int := if ws.length ≠ vs.length then 3 else if okW 0 ws = true ∧ fitsB (upto (fldOf ws) ws.length) vs = true then 0 else 1

theorem fields_all (A B : Option Addr) (c d n m : Nat) (ws : List Int) (vs : List Nat) (w : World) (hn : ws.length = n) (hm : vs.length = m) (hA : Reads w A (iv ws)) (hB : Reads w B (uv vs)) (hlen : n ≤ 1000000) (hw : W64 vs) :
    Calls Try.prog 44 #[.slice A n c, .slice B m d] w fun e w' => e = .returned (.tuple #[.int .u64 ((wordR ws vs : Nat) : Int), .int .i64 (wordE ws vs)]) ∧ Below w.heap.size w w' := by
  subst hn hm
  unfold wordR wordE
  by_cases hl : ws.length = vs.length
  · by_cases hok : okW 0 ws = true
    · refine (fields_ok A B c d ws vs w hA hB hl hlen hok hw).mono ?_
      rintro e w' ⟨hb, ⟨rfl, hf⟩ | ⟨rfl, hf⟩⟩
      · rw [fitsB_iff] at hf
        rw [if_pos ⟨hl, hok, hf⟩, if_neg (fun h => h hl), if_pos ⟨hok, hf⟩]
        exact ⟨rfl, hb⟩
      · rw [fitsB_iff] at hf
        rw [if_neg (fun h => hf h.2.2), if_neg (fun h => h hl), if_neg (fun h => hf h.2)]
        exact ⟨rfl, hb⟩
    · rw [if_neg (fun h => hok h.2.1), if_neg (fun h => h hl), if_neg (fun h => hok h.1), ← hl]
      exact fields_range A B c d ws w hA hlen (by simpa using hok)
  · rw [if_neg (fun h => hl h.1), if_pos hl]
    exact fields_size A B c d _ _ w hl

/-- The values of the fields of x. -/
def splitF (pre : List Fld) (x : Nat) : List Nat := pre.map fun f => (x >>> f.at_) &&& f.mask

theorem splitF_length (pre : List Fld) (x : Nat) : (splitF pre x).length = pre.length := by simp [splitF]

theorem splitF_snoc (pre : List Fld) (f : Fld) (x : Nat) : splitF (pre ++ [f]) x = splitF pre x ++ [(x >>> f.at_) &&& f.mask] := by simp [splitF]

set_option maxHeartbeats 400000 in
theorem split_range (x : Int) (A : Option Addr) (c : Nat) (ws : List Int) (w : World) (hA : Reads w A (iv ws)) (hlen : ws.length ≤ 1000000) (hok : okW 0 ws = false) :
    Calls Try.prog 41 #[.int .u64 x, .slice A ws.length c] w fun e w' => e = .returned (.tuple #[.slice none 0 0, .int .i64 1]) ∧ Below w.heap.size w w' := by
  have Hd := Lib.hid (fun W hA => divided_any A c ws W hA hlen)
  rw [hok] at Hd
  clear hok
  go_enter Try.func41, Try.ntmps41
  go_wp2_with fail
  refine (Hd.out _ (hA.keep ((Below.refl _ w).alloc (Nat.le_refl _) _))).mono ?_
  rintro e w' ⟨rfl, rfl⟩
  go_wp2_with fail
  go_ret2
  exact ⟨rfl, (Below.refl _ w).alloc (Nat.le_refl _) _⟩

/-- 'out = append(out, ..)' in a round, where the row lies beyond nR and the variable's box lies below it. -/
theorem Boxed.appended2 {W w1 : World} {nR n₀ B : Nat} {t e : TypeId} {size : Nat} {v v' : Value} {k m : Nat} {xs ys : List Value} {tmp : Obj}
    (hv : Boxed W B t v) (hte : t ≠ e) (hrow : W.ownsRow nR e size v k xs) (hnR : nR ≤ W.heap.size) (hn : n₀ ≤ B) (hBR : B < nR)
    (hown' : w1.ownsRow nR e size v' m ys) (hgrow : (W.alloc tmp).grownBy w1 v.ownBlock) :
    Boxed w1 B t v ∧ Boxed (w1.setCell ⟨B, 0, none⟩ v') B t v' ∧ (w1.setCell ⟨B, 0, none⟩ v').ownsRow nR e size v' m ys ∧ KeepsOthers W (w1.setCell ⟨B, 0, none⟩ v') ∧ Below n₀ W (w1.setCell ⟨B, 0, none⟩ v') ∧
      ∀ b, b < nR → b ≠ B → (w1.setCell ⟨B, 0, none⟩ v').heap[b]? = W.heap[b]? := by
  have hv1 : Boxed w1 B t v := (hv.alloc tmp).kept hgrow (hv.not_row hte hrow)
  have hBl : Below nR W w1 := by
    refine ((Below.refl nR W).alloc hnR tmp).grown hgrow (by simp; omega) fun j ej => ?_
    rcases hrow.2 with ⟨rfl, _⟩ | ⟨g, cap, cur, rfl, hb, _, _⟩
    · simp [Value.ownBlock] at ej
    · obtain rfl : g = j := by simpa [Value.ownBlock] using ej
      exact hb
  refine ⟨hv1, hv1.set v', hown'.kept (grownBy_setCell' w1 B v') (.inr (hv1.not_row hte hown').symm), ?_, ?_, ?_⟩
  · refine ((KeepsOthers.alloc W tmp).trans (KeepsOthers.of_grownBy hgrow fun j o ej hj => ?_)).trans (KeepsOthers.setCell _ _ _)
    rcases (hrow.alloc tmp).2 with ⟨rfl, _⟩ | ⟨g, cap, cur, rfl, _, hgb, _⟩
    · simp [Value.ownBlock] at ej
    · obtain rfl : g = j := by simpa [Value.ownBlock] using ej
      rw [hgb] at hj; cases hj; rfl
  · exact (hBl.mono (by omega)).setCell (p := ⟨B, 0, none⟩) hn v'
  · intro b hb hne
    exact (Below.heap_setCell _ _ _ _ hne).trans (hBl.block b hb)

set_option maxRecDepth 100000 in
set_option maxHeartbeats 1000000 in
theorem split_ok (x : Nat) (A : Option Addr) (c : Nat) (ws : List Int) (w : World) (hA : Reads w A (iv ws)) (hlen : ws.length ≤ 1000000) (hok : okW 0 ws = true) (hx : x < 18446744073709551616) :
    Calls Try.prog 41 #[.int .u64 x, .slice A ws.length c] w fun e w' => ∃ v, e = .returned (.tuple #[v, .int .i64 0]) ∧ w'.ownsRow w.heap.size 38 1 v ws.length (uv (splitF (upto (fldOf ws) ws.length) x)) ∧ Below w.heap.size w w' := by
  refine (callsIn_wide (n := 6)).1 ?_
  obtain ⟨i0, hi0, hz0, hz1, hz2⟩ := info_parts u64_info
  obtain ⟨m, hm⟩ : ∃ m, ws.length = m := ⟨_, rfl⟩
  have Hd := Lib.hid (fun W hA => divided_any A c ws W hA hlen)
  have hci : ∀ i, i < m → ∃ b off, A = some ⟨b, off, none⟩ ∧ b < w.heap.size ∧ w.cell? ⟨b, off + i, none⟩ = some (.int .i64 (ws[i]?.getD 0)) := by
    intro i hi
    obtain ⟨b, off, e, hb, hc⟩ := hA.i (by omega)
    exact ⟨b, off, e, hb, hc i (by omega)⟩
  rw [hm]
  rw [hm, hok] at Hd
  rw [hm] at hlen
  have HM := Lib.hid hm
  have HI := Lib.hid hci
  have HOK := Lib.hid hok
  have HA := Lib.hid hA
  clear hm hci hok hA
  refine callsIn_of_wp_marks Try.func41 rfl trivial ?_ rfl
  simp only [Try.ntmps41, List.size_toArray, List.length_cons, List.length_nil, Nat.reduceAdd, Nat.reduceSub, Array.replicate_succ, Array.replicate_zero, List.push_toArray, List.append_toArray, List.nil_append, List.cons_append]
  gi_wp2_with fail
  refine ⟨trivial, ?_⟩
  refine (callsIn_wide.2 (Hd.out _ (HA.out.keep ((Below.refl _ w).alloc (Nat.le_refl _) _)))).mono ?_
  rintro e w' ⟨rfl, rfl⟩
  gi_wp2_with fail
  refine ⟨trivial, ?_⟩
  refine (fields_in Fence.wide 5 trivial rfl _ _ _ _).mono ?_
  rintro e w' ⟨rfl, rfl⟩
  gi_wp2_with fail
  have b0 := ((Boxed.new w 38 (.int .u64 (x : Int))).alloc (.cells #[.slice none 0 0] 30)).alloc (.cells #[.slice A m c] 22)
  have b1 := (Boxed.new (w.alloc (.cells #[.int .u64 (x : Int)] 38)) 30 (.slice none 0 0)).alloc (.cells #[.slice A m c] 22)
  have b2 := Boxed.new ((w.alloc (.cells #[.int .u64 (x : Int)] 38)).alloc (.cells #[.slice none 0 0] 30)) 22 (.slice A m c)
  have hb : Below w.heap.size w (((w.alloc (.cells #[.int .u64 (x : Int)] 38)).alloc (.cells #[.slice none 0 0] 30)).alloc (.cells #[.slice A m c] 22)) :=
    ((((Below.refl _ w).alloc (Nat.le_refl _) _).alloc (by simp) _).alloc (by simp; omega) _)
  simp only [World.size_alloc] at b0 b1 b2
  obtain ⟨W0, hW0⟩ : ∃ W0, (((w.alloc (.cells #[.int .u64 (x : Int)] 38)).alloc (.cells #[.slice none 0 0] 30)).alloc (.cells #[.slice A m c] 22)) = W0 := ⟨_, rfl⟩
  have hsz : W0.heap.size = w.heap.size + 1 + 1 + 1 := by rw [← hW0]; simp
  rw [hW0] at b0 b1 b2 hb ⊢
  clear hW0
  refine wpIn_rangeFunc_ownG rfl (by omega) (gf := 61) (lb := #[.pointer (some ⟨w.heap.size + 1 + 1, 0, none⟩)]) rfl trivial (enters_of Try.func61 (by kernel_rfl) rfl)
    (fields_stops Fence.wide 5 trivial rfl (by omega) (w.heap.size + 1 + 1) w.heap.size A c ws HOK.out (by rw [HM.out]; exact hlen) W0 (by omega) (by omega) (by rw [HM.out]; exact b2.cell)
      (fun i hi => by
        obtain ⟨b, off, e, hlt, h⟩ := HI.out i (by rw [← HM.out]; exact hi)
        exact ⟨b, off, e, hlt, (hb.cell (p := ⟨b, off + i, none⟩) hlt).trans h⟩))
    KeepB.trans (KeepB.putObj (by omega) (by omega)) (Below.refl _ _) (fun _ => rfl)
    (fun pre W => ((∃ v, Boxed W (w.heap.size + 1) 30 v ∧ W.ownsRow W0.heap.size 38 1 v pre.length (uv (splitF pre x)) ∧ True) ∧ Boxed W w.heap.size 38 (.int .u64 (x : Int))) ∧ Below w.heap.size w W ∧ W0.heap.size ≤ W.heap.size)
    (fun _ _ _ => False)
    (OwnFrom.and (OwnFrom.and (Own.from (holdsRow_own W0.heap.size (w.heap.size + 1) 30 38 1 (fun pre : List Fld => pre.length) (fun pre => uv (splitF pre x)) (fun _ _ => True)) _) (Own.from (boxed_own w.heap.size 38 (fun _ => .int .u64 (x : Int))) _)) (OwnFrom.and (ownFrom_below (Nat.le_refl _) (by omega)) (fun s A B row hs hg hr => Nat.le_trans hs hg.size)))
    (fun c s A B row hs hg hr => hs)
    ⟨⟨⟨_, b1, World.ownsRow_nil _ _ _ _, trivial⟩, b0⟩, hb, Nat.le_refl _⟩
    (fun f => { tmps := #[.int .u64 (x : Int), .slice A m c, .pointer (some ⟨w.heap.size, 0, none⟩), undef, .slice none 0 0, .int .i64 0, .pointer (some ⟨w.heap.size + 1, 0, none⟩), .int .i64 (f.at_ : Int), .int .u64 (f.mask : Int),
      .slice A m c, .bool true, .bool false, .slice A m c, .func (.func 61) #[] #[.pointer (some ⟨w.heap.size + 1 + 1, 0, none⟩)], .int .i64 (f.at_ : Int), .int .u64 (f.mask : Int),
      undef, undef, undef, undef, undef, undef, undef, undef, undef], defers := [] }) ?assign ?body ?done ?stop
  case assign =>
    intro l f W K hK
    gi_wp2
    exact hK
  case body =>
    rintro l pre f W ⟨⟨⟨v, c1, hrow, _⟩, c0⟩, hB, hszW⟩ hlt
    have hmix : Try.prog.follows .mixedOrders = true := by kernel_rfl
    have hat := f.hat
    have hmask := f.hmask
    have hlt' : pre.length < m := by rw [← HM.out]; exact hlt
    obtain ⟨a1, n1, hv⟩ := own_form hrow
    subst hv
    gi_wp2
    refine wpIn_region_mix 6 7 hmix (by kernel_rfl) (by rintro ⟨_, _, h⟩; exact h) (by kernel_rfl) (fun W' => W'.cell? ⟨w.heap.size + 1, 0, none⟩ = some (.slice a1 pre.length n1) ∧ W'.cell? ⟨w.heap.size, 0, none⟩ = some (.int .u64 (x : Int))) ⟨c1.cell, c0.cell⟩ ?_
    simp only [List.take_succ_cons, List.take_zero, List.drop_succ_cons, List.drop_zero]
    refine ⟨?_, Or.inl ⟨by rfl, fun W' hS' => ?_⟩, fun _ _ _ h => h, ?_⟩
    rotate_left
    · obtain ⟨hs1, hs2⟩ := hS'
      go_simp
      with_reducible rfl
    simp only [Act.put, List.setIfInBounds_toArray, List.set_cons_zero, List.set_cons_succ]
    refine ⟨?_, Or.inl ⟨by rfl, fun W' hS' => ?_⟩, fun _ _ _ h => h, ?_⟩
    rotate_left
    · obtain ⟨hs1, hs2⟩ := hS'
      go_simp
      with_reducible rfl
    simp only [Act.put, List.setIfInBounds_toArray, List.set_cons_zero, List.set_cons_succ]
    refine ⟨?_, Or.inl ⟨by rfl, fun W' hS' => ?_⟩, fun _ _ _ h => h, ?_⟩
    rotate_left
    · obtain ⟨hs1, hs2⟩ := hS'
      go_simp
      with_reducible rfl
    simp only [Act.put, List.setIfInBounds_toArray, List.set_cons_zero, List.set_cons_succ]
    refine ⟨?_, Or.inl ⟨by rfl, fun W' hS' => ?_⟩, fun _ _ _ h => h, ?_⟩
    rotate_left
    · obtain ⟨hs1, hs2⟩ := hS'
      go_simp
      with_reducible rfl
    simp only [Act.put, List.setIfInBounds_toArray, List.set_cons_zero, List.set_cons_succ]
    refine ⟨?_, Or.inl ⟨by rfl, fun W' hS' => ?_⟩, fun _ _ _ h => h, ?_⟩
    rotate_left
    · obtain ⟨hs1, hs2⟩ := hS'
      go_simp
      with_reducible rfl
    simp only [Act.put, List.setIfInBounds_toArray, List.set_cons_zero, List.set_cons_succ]
    refine ⟨?_, Or.inl ⟨by rfl, fun W' hS' => ?_⟩, fun _ _ _ h => h, ?_⟩
    rotate_left
    · obtain ⟨hs1, hs2⟩ := hS'
      go_simp
      with_reducible rfl
    simp only [Act.put, List.setIfInBounds_toArray, List.set_cons_zero, List.set_cons_succ]
    show wpSeqT _ _ _ _ _ _ _ _ _
    refine wpSeqT_step (fun K hK => ?_)
    go_simp
    refine hK _ _ (fun _ => ⟨(c1.alloc _).cell, (c0.alloc _).cell⟩) ?_
    clear hK K
    refine wpSeqT_list _ _ _ _ (by omega) ?_
    refine wpList_append_reads _ (by rfl) _ _ _ (by rfl) W0.heap.size 38 i0 _ 1 8 Try.underlying30 hi0 hz0 hz1 hz2 (by rfl) (by omega) (.slice a1 pre.length n1) pre.length (uv (splitF pre x)) (by rfl) (World.ownsRow.drew (hrow.alloc _)) (some ⟨W.heap.size, 0, none⟩) 1 1 [.int .u64 (bits BinOp.and IntKind.u64 ((x : Int) / 2 ^ f.at_) (f.mask : Int))] (by rfl) (by rfl) (Reads.new _ _ _) (by simp [Value.oneCell']) (by simp only [maxLen]; omega) (by omega) (by simp; omega) ?_
    intro v1 w1 hown1 hg1 hat1
    obtain ⟨g1, cap1, rfl⟩ := ownsRow_succ hown1
    obtain ⟨e1, e2, e3, e4, e5, e6⟩ := Boxed.appended2 (W := W.drew) (nR := W0.heap.size) (n₀ := w.heap.size) c1 (by decide) hrow hszW (by omega) (by omega) hown1 hg1
    have e1c := e1.cell
    have e1f := e1.frozen
    replace e5 := (Below.refl w.heap.size W).drew.trans e5
    have hval : bits BinOp.and IntKind.u64 ((x : Int) / 2 ^ f.at_) (f.mask : Int) = (((x >>> f.at_) &&& f.mask : Nat) : Int) := by
      rw [cast_shr, u64_and_nat _ _ (Nat.lt_of_le_of_lt (Nat.shiftRight_le _ _) hx) hmask]
    have hrow2 : (w1.setCell ⟨w.heap.size + 1, 0, none⟩ (.slice (some ⟨g1, 0, none⟩) (pre.length + 1) cap1)).ownsRow W0.heap.size 38 1 (.slice (some ⟨g1, 0, none⟩) (pre.length + 1) cap1) (pre ++ [f]).length (uv (splitF (pre ++ [f]) x)) := by
      rw [splitF_snoc]
      rw [List.length_append, uv_append]
      rw [hval] at e3
      exact e3
    have hk1 : KeepB w.heap.size (w.heap.size + 1 + 1) W (w1.setCell ⟨w.heap.size + 1, 0, none⟩ (.slice (some ⟨g1, 0, none⟩) (pre.length + 1) cap1)) := ⟨e5, e6 _ (by omega) (by omega)⟩
    have c0' : Boxed (w1.setCell ⟨w.heap.size + 1, 0, none⟩ (.slice (some ⟨g1, 0, none⟩) (pre.length + 1) cap1)) w.heap.size 38 (.int .u64 (x : Int)) := (e6 _ (by omega) (by omega)).trans c0
    have hB1 := hB.trans (show Below w.heap.size W _ from e5)
    have hsz1 := Nat.le_trans hszW (show W.heap.size ≤ _ from e4.size)
    have hko := (KeepsOthers.drew W).trans e4
    clear hval e3 e4 e5 e6 c0 c1 hrow hown1 hg1 hat1
    go_wp2
    exact ⟨hko.from _, hk1, ⟨⟨_, e2, hrow2, trivial⟩, c0'⟩, hB1, hsz1⟩
  case done =>
    rintro D ys W hD rfl ⟨⟨⟨v, c1, hrow, _⟩, c0⟩, hB, hszW⟩ hK
    have d1 := c1.cell
    obtain ⟨a1, n1, hv⟩ := own_form hrow
    subst hv
    gi_wp2
    refine ⟨by simp, .inl ⟨_, _, rfl, run_takeDeferred hK, ?_⟩⟩
    refine ⟨.tuple #[.slice a1 (upto (fldOf ws) ws.length).length n1, .int .i64 0], by simp [results, Try.f41, go_sem], _, rfl, ?_, hB.trans (belowK_b (w := w) (Nat.le_refl _) W D _ _ (by omega) hK rfl rfl)⟩
    have h2 := ownsRow_putObj hrow (.deferred none) hK rfl
    rw [upto_length] at h2
    rw [← HM.out]
    rw [upto_length]
    exact ⟨h2.1, h2.2.imp id fun ⟨g, cap, cur, q1, q2, q3⟩ => ⟨g, cap, cur, q1, by omega, q3⟩⟩
  case stop =>
    rintro D c pre W _ _ h _
    exact h.elim

theorem splitF_upto (ws : List Int) (k x y : Nat) (t v : Int) (ht : t = (ws.take k).sum) (h0 : 0 ≤ t) (h1 : t ≤ 64) (hv : ws[k]?.getD 0 = v) (hv1 : v ≤ 64) (hy : y = x >>> t.toNat) :
    splitF (upto (fldOf ws) (k + 1)) x = splitF (upto (fldOf ws) k) x ++ [y &&& (2 ^ v.toNat - 1)] := by
  rw [upto_succ, splitF_snoc, fldOf_at ws k t ht h0 h1, fldOf_mask ws k v hv hv1, hy]

/-- What Split answers. -/
def splitR (ws : List Int) (x : Nat) : List Nat := if okW 0 ws = true then splitF (upto (fldOf ws) ws.length) x else []

def splitE (ws : List Int) : Int := if okW 0 ws = true then 0 else 1

theorem splitR_len (ws : List Int) (x : Nat) : (splitR ws x).length ≤ ws.length := by
  unfold splitR
  split
  · rw [splitF_length, upto_length]; exact Nat.le_refl _
  · exact Nat.zero_le _

theorem splitR_w (ws : List Int) (x : Nat) : W64 (splitR ws x) := by
  unfold splitR splitF
  split
  · intro y hy
    obtain ⟨f, _, rfl⟩ := List.mem_map.1 hy
    exact Nat.lt_of_le_of_lt Nat.and_le_right f.hmask
  · intro y hy; cases hy

theorem split_all (x : Nat) (A : Option Addr) (c n : Nat) (ws : List Int) (w : World) (hn : ws.length = n) (hA : Reads w A (iv ws)) (hlen : n ≤ 1000000) (hx : x < 18446744073709551616) :
    Calls Try.prog 41 #[.int .u64 x, .slice A n c] w fun e w' => ∃ B d, e = .returned (.tuple #[.slice B (splitR ws x).length d, .int .i64 (splitE ws)]) ∧ Reads w' B (uv (splitR ws x)) ∧ Below w.heap.size w w' := by
  subst hn
  unfold splitR splitE
  by_cases hok : okW 0 ws = true
  · rw [if_pos hok, if_pos hok, splitF_length, upto_length]
    refine (split_ok x A c ws w hA hlen hok hx).mono ?_
    rintro e w' ⟨v, rfl, hown, hb⟩
    obtain ⟨B, d, rfl⟩ := own_form hown
    exact ⟨B, d, rfl, Reads.of_own hown, hb⟩
  · rw [if_neg hok, if_neg hok]
    refine (split_range x A c ws w hA hlen (by simpa using hok)).mono ?_
    rintro e w' ⟨rfl, hb⟩
    exact ⟨none, 0, rfl, Reads.nil, hb⟩

end Go.Proofs.Ytjnkajdfdhockaa
