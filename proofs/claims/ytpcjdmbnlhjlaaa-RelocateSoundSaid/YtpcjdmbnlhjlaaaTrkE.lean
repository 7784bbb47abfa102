/-
  Soundness of a device that is given by its contracts: the parts; Track.All.
-/
import Derived.Test.YtpcjdmbnlhjlaaaTrkC
import Derived.Test.YtpcjdmbnlhjlaaaHA
import Derived.Test.YtpcjdmbnlhjlaaaDiskP
namespace Go.Proofs.Ytpcjdmbnlhjlaaa
set_option linter.unusedVariables false
open Go.RowKit
attribute [local go_sem] Oper.semAt_some

theorem tAt_set (t : List Sec) (a b : Nat) (x : Sec) : tAt (t.set a x) b = if b = a ∧ a < t.length then x else tAt t b := by
  unfold tAt
  rw [List.getElem?_set]
  by_cases h : a = b
  · subst h
    by_cases hl : a < t.length
    · simp [hl]
    · simp [hl]
  · rw [if_neg h, if_neg (fun e => h e.1.symm)]
theorem tAt_map' (t : List Sec) (f : Sec → Sec) (m : Nat) (hf : ∀ x : Sec, x.sm.length ≤ m → (f x).sm.length ≤ m) (h : ∀ a, (tAt t a).sm.length ≤ m) (b : Nat) : (tAt (t.map f) b).sm.length ≤ m := by
  have hb := h b
  unfold tAt at hb ⊢
  rw [List.getElem?_map]
  rcases hx : t[b]? with _ | x
  · exact Nat.zero_le _
  · rw [hx] at hb
    exact hf x hb
theorem sm_read {t : List Sec} {m : Nat} (h : ∀ a, (tAt t a).sm.length ≤ m) (hm : 1 ≤ m) (a v : Nat) (st : Bool) (b : Nat) : (tAt (tRead t a v st) b).sm.length ≤ m := by
  unfold tRead
  rw [tAt_set]
  split
  · have := h a
    unfold Sec.read
    split
    · exact this
    · show (if st = true then [v] else (tAt t a).sm).length ≤ m
      split
      · exact hm
      · exact this
  · exact h b
theorem sm_wrote {t : List Sec} {m : Nat} (h : ∀ a, (tAt t a).sm.length ≤ m) (a v : Nat) (d : Bool) (b : Nat) : (tAt (tWrote t a v d) b).sm.length ≤ m + 1 := by
  unfold tWrote
  rw [tAt_set]
  split
  · have := h a
    show ((tAt t a).sm ++ [v]).length ≤ m + 1
    rw [List.length_append]
    simp; omega
  · have := h b; omega
theorem sm_flushed {t : List Sec} {m : Nat} (h : ∀ a, (tAt t a).sm.length ≤ m) (hm : 1 ≤ m) (b : Nat) : (tAt (tFlushed t) b).sm.length ≤ m :=
  tAt_map' t _ m (fun x hx => by unfold Sec.flushed; split; exact hm; exact hx) h b
theorem sm_failed {t : List Sec} {m : Nat} (h : ∀ a, (tAt t a).sm.length ≤ m) (b : Nat) : (tAt (tFailed t) b).sm.length ≤ m :=
  tAt_map' t Sec.failed m (fun x hx => hx) h b

theorem TrAt.len {W : World} {G : Nat → Prop} {tb : Nat} {t : List Sec} (h : TrAt W G tb t) : ∃ rb cap, W.cell? ⟨tb, 0, none⟩ = some (.slice (some ⟨rb, 0, none⟩) t.length cap) := by
  obtain ⟨rb, cap, ys, rfl, hi⟩ := h
  exact ⟨rb, cap, by rw [List.length_map]; exact hi.tr.cell 0⟩

def FU (F G : Nat → Prop) (j : Nat) : Prop := F j ∨ G j
def FT (F : Nat → Prop) (w : World) (j : Nat) : Prop := F j ∧ j < w.heap.size
theorem Turn.left {F F' G : Nat → Prop} {w w' : World} (h : Turn F F' w w') : Turn (FU F G) (FU F' (FT G w)) w w' :=
  ⟨h.1.mono (fun j _ hj => .inl hj), fun j hj => hj.elim (fun a => (h.2 j a).elim (fun b => .inl (.inl b)) .inr) (fun a => .inl (.inr a.1))⟩
theorem Turn.right {F G G' : Nat → Prop} {w w' : World} (h : Turn G G' w w') : Turn (FU F G) (FU (FT F w) G') w w' :=
  ⟨h.1.mono (fun j _ hj => .inr hj), fun j hj => hj.elim (fun a => .inl (.inl a.1)) (fun a => (h.2 j a).elim (fun b => .inl (.inr b)) .inr)⟩

theorem d_read (k p : Nat) (W : World) : Sem.run Try.prog (method (k + 1) 61 (.pointer (some ⟨p, 0, none⟩)) "Read") W = .ok (85, .pointer (some ⟨p, 0, none⟩)) W := by kernel_rfl
theorem d_write (k p : Nat) (W : World) : Sem.run Try.prog (method (k + 1) 61 (.pointer (some ⟨p, 0, none⟩)) "Write") W = .ok (87, .pointer (some ⟨p, 0, none⟩)) W := by kernel_rfl
theorem d_flush (k p : Nat) (W : World) : Sem.run Try.prog (method (k + 1) 61 (.pointer (some ⟨p, 0, none⟩)) "Flush") W = .ok (84, .pointer (some ⟨p, 0, none⟩)) W := by kernel_rfl
theorem d_nila (k p : Nat) (W : World) : Sem.run Try.prog (nilAhead (k + 1) 61 (.pointer (some ⟨p, 0, none⟩)) "Write") W = .ok (some false) W := by kernel_rfl
theorem d_size (k p : Nat) (W : World) : Sem.run Try.prog (method (k + 1) 61 (.pointer (some ⟨p, 0, none⟩)) "Size") W = .ok (86, .pointer (some ⟨p, 0, none⟩)) W := by kernel_rfl

/-- What a device is asked to be: its states D (footprint, track, calm, count, pointer), and Z (the power is back, it is not opened yet). -/
structure DevC (B n L ga fO : Nat) (oa : Array Value) (D : World → (Nat → Prop) → List Sec → Bool → Nat → Nat → Prop) (Z : World → (Nat → Prop) → List Sec → Nat → Prop) : Prop where
  dfr : ∀ {w w' : World} {F H : Nat → Prop} {t : List Sec} {k : Bool} {c p : Nat}, D w F t k c p → Fr H w w' → (∀ j, F j → ¬ H j) → (∀ j, H j → B ≤ j) → D w' F t k c p
  dti : ∀ {w : World} {F : Nat → Prop} {t : List Sec} {k : Bool} {c p : Nat}, D w F t k c p → D w (FT F w) t k c p
  zfr : ∀ {w w' : World} {F H : Nat → Prop} {t : List Sec} {c : Nat}, Z w F t c → Fr H w w' → (∀ j, F j → ¬ H j) → (∀ j, H j → B ≤ j) → Z w' F t c
  zti : ∀ {w : World} {F : Nat → Prop} {t : List Sec} {c : Nat}, Z w F t c → Z w (FT F w) t c
  size : ∀ {w : World} {F : Nat → Prop} {t : List Sec} {k : Bool} {c p : Nat}, D w F t k c p → Calls Try.prog 86 #[.pointer (some ⟨p, 0, none⟩)] w fun e w' => e = .returned (.int .i64 (n : Int)) ∧ ∃ m, w' = w.drewN m
  read : ∀ {w : World} {F : Nat → Prop} {t : List Sec} {k : Bool} {c p : Nat} (a : Nat) (st : Bool), D w F t k c p → a < n → c < L → (st = true → k = true) →
    Calls Try.prog 85 #[.pointer (some ⟨p, 0, none⟩), .int .i64 (a : Int)] w fun e w' => ∃ (v : Nat) (r : Int) (F' : Nat → Prop), e = .returned (.tuple #[.int .u64 (v : Int), .int .i64 r]) ∧ v < 18446744073709551616 ∧ Turn F F' w w' ∧
      ((r = 0 ∧ tMay t a v ∧ D w' F' (tRead t a v st) k (c + 1) p) ∨ (k = false ∧ r = 5 ∧ D w' F' t k (c + 1) p))
  write : ∀ {w : World} {F : Nat → Prop} {t : List Sec} {k : Bool} {c p : Nat} (a v : Nat), D w F t k c p → a < n → v < 18446744073709551616 → c < L →
    Calls Try.prog 87 #[.pointer (some ⟨p, 0, none⟩), .int .i64 (a : Int), .int .u64 (v : Int)] w fun e w' => ∃ (r : Int) (F' : Nat → Prop), e = .returned (.int .i64 r) ∧ Turn F F' w w' ∧ (r = 0 ∨ r = 5) ∧ D w' F' (tWrote t a v (decide (r = 0))) false (c + 1) p
  flush : ∀ {w : World} {F : Nat → Prop} {t : List Sec} {k : Bool} {c p : Nat}, D w F t k c p → c < L →
    Calls Try.prog 84 #[.pointer (some ⟨p, 0, none⟩)] w fun e w' => ∃ (r : Int) (F' : Nat → Prop), e = .returned (.int .i64 r) ∧ Turn F F' w w' ∧
      ((r = 0 ∧ D w' F' (tFlushed t) false (c + 1) p) ∨ (r = 5 ∧ D w' F' t false (c + 1) p))
  fuse : ∀ {w : World} {F : Nat → Prop} {t : List Sec} {k : Bool} {c p : Nat} (x : Nat), D w F t k c p → x ≤ 1000000 → c < L →
    Calls Try.prog 48 #[.pointer (some ⟨ga, 0, none⟩), .int .i64 (x : Int)] w fun e w' => e = .returned (.tuple #[]) ∧ ∃ (F' : Nat → Prop), Turn F F' w w' ∧ D w' F' t false (c + 1) p
  restart : ∀ {w : World} {F : Nat → Prop} {t : List Sec} {k : Bool} {c p : Nat} (A : Option Addr) (cc base : Nat) (bs : List Bool), D w F t k c p → c < L → w.ownsRow base 4 1 (.slice A 192 cc) 192 (bv bs) → bs.length = 192 → (∀ b, (Value.slice A 192 cc).ownBlock = some b → ¬ F b) →
    Calls Try.prog 55 #[.pointer (some ⟨ga, 0, none⟩), .slice A 192 cc] w fun e w' => e = .returned (.tuple #[]) ∧ ∃ (F' : Nat → Prop), Turn F F' w w' ∧ Z w' F' (tFailed t) (c + 1)
  opens : ∀ {w : World} {F : Nat → Prop} {t : List Sec} {c : Nat}, Z w F t c → c < L →
    Calls Try.prog fO oa w fun e w' => ∃ (p : Nat) (F' : Nat → Prop), e = .returned (.tuple #[.iface 61 (.pointer (some ⟨p, 0, none⟩)), .bool true]) ∧ Turn F F' w w' ∧ D w' F' t true (c + 1) p

structure DTr (D : World → (Nat → Prop) → List Sec → Bool → Nat → Nat → Prop) (B n : Nat) (w : World) (F G : Nat → Prop) (t : List Sec) (k : Bool) (c p tb : Nat) : Prop where
  d : D w F t k c p
  tr : TrAt w G tb t
  dj : ∀ j, F j → ¬ G j
  tl : t.length = n
  sm : ∀ a, (tAt t a).sm.length ≤ c + 1
  gb : ∀ j, G j → B ≤ j
  wb : B ≤ w.heap.size

section
variable {B n L ga fO : Nat} {oa : Array Value} {D : World → (Nat → Prop) → List Sec → Bool → Nat → Nat → Prop} {Z : World → (Nat → Prop) → List Sec → Nat → Prop} {w : World} {F G : Nat → Prop} {t : List Sec} {k : Bool} {c p tb : Nat}
/-- The device went on. -/
theorem DTr.dev (h : DTr D B n w F G t k c p tb) {w' : World} {F' : Nat → Prop} {k' : Bool} {c' p' : Nat} (ht : Turn F F' w w') (hd : D w' F' t k' c' p') (hc : c ≤ c') : DTr D B n w' F' (FT G w) t k' c' p' tb :=
  ⟨hd, h.tr.tight.fr ht.1 (fun j hj hf => h.dj j hf hj.1), fun j hj hg => (ht.2 j hj).elim (fun a => h.dj j a hg.1) (fun a => by have := hg.2; omega), h.tl, fun a => by have := h.sm a; omega, fun j hj => h.gb j hj.1, Nat.le_trans h.wb ht.1.size⟩
/-- The device went on to a state of a track t', and the track follows. -/
theorem trk_dev (htr : TrAt w G tb t) (dj : ∀ j, F j → ¬ G j) {w' : World} {F' : Nat → Prop} (ht : Turn F F' w w') : TrAt w' (FT G w) tb t ∧ ∀ j, F' j → ¬ FT G w j :=
  ⟨htr.tight.fr ht.1 (fun j hj hf => dj j hf hj.1), fun j hj hg => (ht.2 j hj).elim (fun a => dj j a hg.1) (fun a => by have := hg.2; omega)⟩
theorem dev_trk (C : DevC B n L ga fO oa D Z) (hd : D w F t k c p) (dj : ∀ j, F j → ¬ G j) (gb : ∀ j, G j → B ≤ j) {w' : World} {G' : Nat → Prop} (ht : Turn G G' w w') : D w' (FT F w) t k c p ∧ ∀ j, FT F w j → ¬ G' j :=
  ⟨C.dfr (C.dti hd) ht.1 (fun j hj hg => dj j hj.1 hg) gb, fun j hj hg => (ht.2 j hg).elim (fun a => dj j hj.1 a) (fun a => by have := hj.2; omega)⟩

set_option maxRecDepth 100000 in
set_option maxHeartbeats 4000000 in
attribute [local go_sem] d_read in
theorem all_any (C : DevC B n L ga fO oa D Z) (h : DTr D B n w F G t true c p tb) (hn : n ≤ 1000) (hc : c + n ≤ L) (hL : L ≤ 90000) :
    Calls Try.prog 50 #[.pointer (some ⟨tb, 0, none⟩), .iface 61 (.pointer (some ⟨p, 0, none⟩)), .bool true] w fun e w' => e = .returned (.bool true) ∧ ∃ F' G' t', DTr D B n w' F' G' t' true (c + n) p tb ∧ Turn (FU F G) (FU F' G') w w' := by
  have HH := Lib.hid h
  have HC := Lib.hid C
  clear h C
  go_enter Try.func50, Try.ntmps50
  go_wp2_with fail
  go_loopw [7] (fun s wx => ∃ (i : Nat) (F' G' : Nat → Prop) (t' : List Sec), s = .int .i64 i ∧ i ≤ n ∧ DTr D B n wx F' G' t' true (c + i) p tb ∧ Turn (FU F G) (FU F' G') w wx) (fun s _ => n - (intOf s).toNat)
  case atStart => exact ⟨0, F, G, t, rfl, Nat.zero_le _, HH.out, Turn.refl _ _⟩
  case round =>
    rename World => wx
    obtain ⟨i, F', G', t', rfl, hi, hh, htn⟩ := hrel
    obtain ⟨rb, cap, c4⟩ := hh.tr.len
    rw [hh.tl] at c4
    have HD := Lib.hid hh
    have HT := Lib.hid htn
    clear hh htn
    by_cases hlt : i < n
    · have t1 : (i : Int) < (n : Int) := by omega
      go_wp2_with fail
      refine (HC.out.read i true HD.out.d hlt (by omega) (fun _ => rfl)).mono ?_
      rintro e w1 ⟨v, r, F1, rfl, hv, ht1, ⟨rfl, hm, hd1⟩ | ⟨hk, -⟩⟩
      · obtain ⟨htr1, dj1⟩ := trk_dev HD.out.tr HD.out.dj ht1
        have HD1 := Lib.hid hd1
        have HT1 := Lib.hid (HT.out.trans (ht1.left (G := G')))
        have hsm := HD.out.sm i
        have htl := HD.out.tl
        have HTR := Lib.hid htr1
        have hs1 := ht1.1.size
        have HDJ := Lib.hid dj1
        clear hd1 htr1 dj1 ht1 c4
        go_wp2_with fail
        refine (reads_any w1 _ tb t' HTR.out i v true (by omega) hv hm (by omega) (by omega)).mono ?_
        rintro e w2 ⟨rfl, G2, htr2, ht2⟩
        have gb1 : ∀ j, FT G' wx j → B ≤ j := fun j hj => HD.out.gb j hj.1
        have wb1 : B ≤ w1.heap.size := Nat.le_trans HD.out.wb hs1
        obtain ⟨hd2, dj2⟩ := dev_trk HC.out HD1.out HDJ.out gb1 ht2
        have e1 : IntKind.i64.wrap ((i : Int) + 1) = ((i + 1 : Nat) : Int) := by rw [IntWalk.i64_in _ (by omega)]; rfl
        have HN : Hid (DTr D B n w2 (FT F1 w1) G2 (tRead t' i v true) true (c + (i + 1)) p tb) := ⟨hd2, htr2, dj2, by unfold tRead; rw [List.length_set]; exact htl, fun a => by have := sm_read (m := c + i + 1) (fun b => by have := HD.out.sm b; omega) (by omega) i v true a; omega, ht2.ge wb1 gb1, Nat.le_trans wb1 ht2.1.size⟩
        have HN2 := Lib.hid (HT1.out.trans (ht2.right (F := F1)))
        clear hd2 dj2 htr2 ht2 htl hsm hm
        go_wp2_with fail
        go_roundw
        case rel => exact ⟨i + 1, _, _, _, by go_num, by omega, HN.out, HN2.out⟩
        case measure => simp [intOf]; omega
      · cases hk
    · have hin : i = n := by omega
      subst hin
      go_wp2_with fail
      go_ret
      exact ⟨rfl, F', G', t', HD.out, HT.out⟩
end

end Go.Proofs.Ytpcjdmbnlhjlaaa
