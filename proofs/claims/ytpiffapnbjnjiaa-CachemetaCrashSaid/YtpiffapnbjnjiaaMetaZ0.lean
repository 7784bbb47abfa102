/-
  A cache's operations, over what is in memory; what Open finds behind Format.
-/
import Derived.Test.YtpiffapnbjnjiaaMetaY
namespace Go.Proofs.Ytpiffapnbjnjiaa
set_option linter.unusedVariables false
open Go.RowKit

/-- The fields of a head word. -/
theorem hd_fields (K L C d : Nat) (hK : K < 2048) (hL : L < 128) (hC : C < 4) (hd : d < 2) :
    hform (hdW K L C d) = true ∧ hdW K L C d % 2048 = K ∧ hdW K L C d / 2048 % 128 = L ∧ hdW K L C d / 262144 % 4 = C ∧ hdW K L C d / 1048576 % 2 = d ∧ hdW K L C d / 9007199254740992 = 0 := by
  have hlt := hdW_lt K L C d hK hL hC hd
  have hB : clr (hdW K L C d) 21 = hdB K L C d := by
    have hs := sumW_lt (hdB K L C d)
    unfold clr hdW
    generalize sumW (hdB K L C d) = q at *
    unfold hdB
    simp only [Nat.reducePow, Nat.reduceAdd]
    omega
  have hs := sumW_lt (hdB K L C d)
  refine ⟨?_, ?_, ?_, ?_, ?_, Nat.div_eq_of_lt hlt⟩
  · unfold hform
    rw [hB]
    unfold hdW
    generalize sumW (hdB K L C d) = q at *
    unfold hdB
    apply decide_eq_true
    constructor <;> omega
  all_goals
    unfold hdW
    generalize sumW (hdB K L C d) = q at *
    unfold hdB
    omega

theorem hdI_fields (n : Nat) (chunk mode : Int) (op : Bool) (hn : n < 2048) (hc : 0 ≤ chunk ∧ chunk < 128) (hm : 0 ≤ mode ∧ mode < 4) :
    hform (hdI n chunk mode op) = true ∧ hdI n chunk mode op % 2048 = n ∧ ((hdI n chunk mode op / 2048 % 128 : Nat) : Int) = chunk ∧ ((hdI n chunk mode op / 262144 % 4 : Nat) : Int) = mode ∧ hdI n chunk mode op / 1048576 % 2 = b01 op ∧ hdI n chunk mode op / 9007199254740992 = 0 := by
  have h := hd_fields (n % 2048) (chunk % 128).toNat (mode % 4).toNat (b01 op) (Nat.mod_lt _ (by omega)) (by omega) (by omega) (b01_lt op)
  unfold hdI
  obtain ⟨h1, h2, h3, h4, h5, h6⟩ := h
  refine ⟨h1, by rw [h2]; omega, by rw [h3]; omega, by rw [h4]; omega, h5, h6⟩

/-- The empty slot. -/
def Sl.nil : Sl := ⟨false, false, 0, 0⟩
theorem setZ_at (l : List Nat) (k j : Nat) (h : j < k) (hl : 1 + j < l.length) : (setZ l k)[1 + j]?.getD 0 = 0 := by
  induction k with
  | zero => omega
  | succ k ih =>
    rw [setZ]
    by_cases e : j = k
    · subst e
      rw [List.getElem?_set_self (by rw [setZ_length]; exact hl)]
      rfl
    · rw [List.getElem?_set_ne (by omega)]
      exact ih (by omega)
theorem setZ_0 (l : List Nat) (k : Nat) : (setZ l k)[0]? = l[0]? := by
  induction k with
  | zero => rfl
  | succ k ih => rw [setZ, List.getElem?_set_ne (by omega), ih]

theorem seenB_nil (ws : List Nat) (k : Nat) (h : ∀ j, j < k → ws[1 + j]?.getD 0 = 0) : seenB ws k = [] ∧ allOk ws k = true ∧ slotsU ws k = List.replicate k Sl.nil := by
  induction k with
  | zero => exact ⟨rfl, rfl, rfl⟩
  | succ k ih =>
    obtain ⟨h1, h2, h3⟩ := ih (fun j hj => h j (by omega))
    have h0 := h k (by omega)
    refine ⟨?_, ?_, ?_⟩
    · rw [seenB, h0, h1]; rfl
    · rw [allOk, h2, okAt, h0, h1]; rfl
    · rw [slotsU_succ, h3, h0, List.replicate_succ']; rfl

theorem fmtW_len (now : List Nat) (k : Nat) (chunk : Int) : (fmtW now k chunk).length = now.length := by rw [fmtW_eq, setZ_length, List.length_set]
theorem setZ_hd (now : List Nat) (k w : Nat) (h : 1 ≤ now.length) : (setZ (now.set 0 w) k)[0]?.getD 0 = w := by
  rw [setZ_0, List.getElem?_set_self (by omega), Option.getD_some]
theorem fmtW_0 (now : List Nat) (k : Nat) (chunk : Int) (h : 1 ≤ now.length) : (fmtW now k chunk)[0]?.getD 0 = hdI k chunk 0 false := by
  rw [fmtW_eq]
  exact setZ_hd now k _ h
theorem fmtW_z (now : List Nat) (k : Nat) (chunk : Int) (hkn : k + 1 ≤ now.length) (j : Nat) (hj : j < k) : (fmtW now k chunk)[1 + j]?.getD 0 = 0 := by
  rw [fmtW_eq]
  generalize hdI k chunk 0 false = w
  exact setZ_at _ _ _ hj (by rw [List.length_set]; omega)
theorem open_good (ws : List Nat) (w k n : Nat) (h0 : ws[0]?.getD 0 = w) (h1 : hform w = true) (h2 : w % 2048 = k) (hn : ws.length = n) (hb : hbad w n = false) (ha : allOk ws k = true) : openE ws = 0 := by
  unfold openE
  rw [h0, h1, h2, hn, hb, ha]
  rfl
theorem hbad_no (w k n : Nat) (h2 : w % 2048 = k) (hk : 1 ≤ k ∧ k ≤ 1024) (hkn : k + 1 ≤ n) (h3 : 1 ≤ w / 2048 % 128 ∧ w / 2048 % 128 ≤ 64) (h4 : w / 262144 % 4 ≠ 3) (h6 : w / 9007199254740992 = 0) : hbad w n = false := by
  unfold hbad
  generalize w / 9007199254740992 = z at *
  generalize w / 2048 % 128 = y at *
  generalize w / 262144 % 4 = x at *
  generalize w % 2048 = v at *
  exact decide_eq_false (by omega)
/-- What Open finds behind Format. -/
theorem open_fmt (now : List Nat) (k : Nat) (chunk : Int) (hk : 1 ≤ k ∧ k ≤ 1024) (hkn : k + 1 ≤ now.length) (hc : 1 ≤ chunk ∧ chunk ≤ 64) :
    openE (fmtW now k chunk) = 0 ∧ (fmtW now k chunk)[0]?.getD 0 = hdI k chunk 0 false ∧ slotsU (fmtW now k chunk) k = List.replicate k Sl.nil ∧ (fmtW now k chunk).length = now.length := by
  have h := hdI_fields k chunk 0 false (by omega) (by omega) (by omega)
  have e0 := fmtW_0 now k chunk (by omega)
  have hl := fmtW_len now k chunk
  have hz := seenB_nil (fmtW now k chunk) k (fmtW_z now k chunk hkn)
  generalize hdI k chunk 0 false = w at *
  generalize fmtW now k chunk = ws at *
  obtain ⟨h1, h2, h3, h4, h5, h6⟩ := h
  refine ⟨open_good ws w k now.length e0 h1 h2 hl (hbad_no w k now.length h2 hk hkn ?_ ?_ h6) hz.2.1, e0, hz.2.2, hl⟩
  · clear h1 h2 h4 h5 h6
    generalize w / 2048 % 128 = y at *
    omega
  · clear h1 h2 h3 h5 h6
    generalize w / 262144 % 4 = y at *
    omega

theorem OpenP.ok {W : World} {F : Nat → Prop} {g sp n : Nat} {now : List Nat} {wr : Int} {e : Ending} {W' : World} (h : OpenP W F g sp now wr e W') (hE : openE now = 0) (hs : SpanAt W sp g 0 n) (hsp : ¬ F sp) :
    ∃ m Fc, e = .returned (.tuple #[.pointer (some ⟨m, 0, none⟩), .int .i64 0]) ∧ CacheAt W' Fc g sp m n (one now now [] 0 false wr) (slotsU now ((now[0]?.getD 0) % 2048)) (((now[0]?.getD 0) / 2048 % 128 : Nat) : Int) (((now[0]?.getD 0) / 262144 % 4 : Nat) : Int) (decide ((now[0]?.getD 0) / 1048576 % 2 = 1)) ∧
      Turn (fun j => F j ∨ j = sp) Fc W W' ∧ (∀ j, Fc j → j < W'.heap.size) := by
  obtain ⟨F', hd, ht, h⟩ := h
  rcases h with ⟨h, _⟩ | ⟨_, m, base, rfl, hm, hmb, hF, A, c, hC, hrow⟩
  · exact absurd hE h
  have hspl : sp < W.heap.size := Cs.lt hs
  refine ⟨m, fun j => F' j ∨ j = sp ∨ (m ≤ j ∧ j < W'.heap.size), rfl, ⟨F', A, c, hd, fun j hj => .inl hj, Cs.fr hs ht.1 hsp, ht.out hspl hsp, .inr (.inl rfl), by omega, fun hj => Nat.lt_irrefl _ (hF m hj), .inr (.inr ⟨Nat.le_refl _, hC.lt⟩), hC, own_lower hrow (Nat.zero_le _), fun b hb => ?_⟩, ?_, ?_⟩
  · have hb1 := own_base hrow b hb
    have hb2 := own_lt hrow b hb
    exact ⟨fun hj => by have := hF b hj; omega, by omega, by omega, .inr (.inr ⟨by omega, hb2⟩)⟩
  · refine ⟨ht.1.mono (fun j _ hj => .inl hj), fun j hj => ?_⟩
    rcases hj with hj | hj | hj
    · exact (ht.2 j hj).elim (fun h => .inl (.inl h)) .inr
    · exact .inl (.inr hj)
    · exact .inr (by omega)
  · intro j hj
    have hsz := ht.1.size
    rcases hj with hj | hj | hj
    · have := hF j hj; have := hC.lt; omega
    · omega
    · exact hj.2

theorem CacheAt.tight {W : World} {Fc : Nat → Prop} {g sp m n : Nat} {S : DS} {ss : List Sl} {chunk mode : Int} {op : Bool} (h : CacheAt W Fc g sp m n S ss chunk mode op) : CacheAt W (fun j => Fc j ∧ j < W.heap.size) g sp m n S ss chunk mode op := by
  obtain ⟨F, A, c, h⟩ := h
  have h := h.tight
  exact ⟨_, A, c, h.dsk, fun j hj => ⟨h.inF j hj, hj.2⟩, h.span, h.spF, ⟨h.spC, Cs.lt h.span⟩, h.spm, h.mF, ⟨h.mC, h.meta_.lt⟩, h.meta_, h.row, fun b hb => ⟨(h.own b hb).1, (h.own b hb).2.1, (h.own b hb).2.2.1, (h.own b hb).2.2.2, own_lt h.row b hb⟩⟩

/-- Begin. -/
theorem cbegin_any (W : World) (Fc : Nat → Prop) (g sp m n : Nat) (ss : List Sl) (chunk mode0 wr mode : Int) (op : Bool) (now dur : List Nat) (log : List (Nat × Nat × Nat)) (h : CacheAt W Fc g sp m n (one now dur log 0 false wr) ss chunk mode0 op) (hm : mode = 1 ∨ mode = 2)
    (hy : Syn now dur log) (hn : now.length = n) (h1 : 1 ≤ n) (hn2 : n ≤ 65536) (hk : ss.length ≤ 1024) (hlog : log.length < 1000000) (hwr : wr ≤ 1000000) :
    Calls Try.prog 32 #[.pointer (some ⟨m, 0, none⟩), .int .i64 mode] W fun e W' => e = .returned (.int .i64 0) ∧
      ∃ Fc', CacheAt W' Fc' g sp m n (one (now.set 0 (hdI ss.length chunk mode true)) (now.set 0 (hdI ss.length chunk mode true)) [] 0 false (wr + 1)) ss chunk mode true ∧ Turn Fc Fc' W W' := by
  obtain ⟨F, A, c, h⟩ := h
  have key : ∀ e W', BeginP W F g sp m ss.length c A chunk mode wr now e W' → e = .returned (.int .i64 0) ∧
      ∃ Fc', CacheAt W' Fc' g sp m n (one (now.set 0 (hdI ss.length chunk mode true)) (now.set 0 (hdI ss.length chunk mode true)) [] 0 false (wr + 1)) ss chunk mode true ∧ Turn Fc Fc' W W' := by
    rintro e W' ⟨rfl, F', hd, hC, hf, hF⟩
    have hout : ∀ b, b < W.heap.size → ¬ F b → ¬ F' b := fun b hb hn hc => (hF b hc).elim hn (fun hl => by omega)
    have hspn : ¬ (F sp ∨ sp = m) := fun e => e.elim h.spF h.spm
    refine ⟨rfl, fun j => Fc j ∨ F' j, ⟨F', A, c, hd, fun j hj => .inr hj, Cs.fr h.span hf hspn, hout sp (Cs.lt h.span) h.spF, .inl h.spC, h.spm, hout m h.meta_.lt h.mF, .inl h.mC, hC,
      own_fr h.row hf (fun b hb e => e.elim (h.own b hb).1 (h.own b hb).2.2.1), fun b hb => ⟨hout b (own_lt h.row b hb) (h.own b hb).1, (h.own b hb).2.1, (h.own b hb).2.2.1, .inl (h.own b hb).2.2.2⟩⟩, ?_, ?_⟩
    · exact hf.mono (fun j _ hj => hj.elim (h.inF j) (fun e => e ▸ h.mC))
    · exact fun j hj => hj.elim .inl (fun hj => (hF j hj).elim (fun hj => .inl (h.inF j hj)) .inr)
  rcases hm with rfl | rfl
  · exact (begin1_any W F g sp n m ss.length c A chunk mode0 wr op now dur log h.dsk h.span h.spF h.mF h.spm h.meta_ hy hn h1 hn2 hk hlog hwr).mono key
  · exact (begin2_any W F g sp n m ss.length c A chunk mode0 wr op now dur log h.dsk h.span h.spF h.mF h.spm h.meta_ hy hn h1 hn2 hk hlog hwr).mono key

/-- End. -/
theorem cend_any (W : World) (Fc : Nat → Prop) (g sp m n : Nat) (ss : List Sl) (chunk mode wr : Int) (op : Bool) (now dur : List Nat) (log : List (Nat × Nat × Nat)) (h : CacheAt W Fc g sp m n (one now dur log 0 false wr) ss chunk mode op)
    (hy : Syn now dur log) (hn : now.length = n) (h1 : 1 ≤ n) (hn2 : n ≤ 65536) (hk : ss.length ≤ 1024) (hlog : log.length < 1000000) (hwr : wr ≤ 1000000) :
    Calls Try.prog 33 #[.pointer (some ⟨m, 0, none⟩)] W fun e W' => e = .returned (.int .i64 0) ∧
      ∃ Fc', CacheAt W' Fc' g sp m n (one (now.set 0 (hdI ss.length chunk mode false)) (now.set 0 (hdI ss.length chunk mode false)) [] 0 false (wr + 1)) ss chunk mode false ∧ Turn Fc Fc' W W' := by
  obtain ⟨F, A, c, h⟩ := h
  refine (end_any W F g sp n m ss.length c A chunk mode wr op now dur log h.dsk h.span h.spF h.mF h.meta_ hy hn h1 hn2 hk hlog hwr).mono ?_
  rintro e W' ⟨rfl, F', hd, hC, hf, hF⟩
  have hout : ∀ b, b < W.heap.size → ¬ F b → ¬ F' b := fun b hb hn hc => (hF b hc).elim hn (fun hl => by omega)
  have hspn : ¬ (F sp ∨ sp = m) := fun e => e.elim h.spF h.spm
  refine ⟨rfl, fun j => Fc j ∨ F' j, ⟨F', A, c, hd, fun j hj => .inr hj, Cs.fr h.span hf hspn, hout sp (Cs.lt h.span) h.spF, .inl h.spC, h.spm, hout m h.meta_.lt h.mF, .inl h.mC, hC,
    own_fr h.row hf (fun b hb e => e.elim (h.own b hb).1 (h.own b hb).2.2.1), fun b hb => ⟨hout b (own_lt h.row b hb) (h.own b hb).1, (h.own b hb).2.1, (h.own b hb).2.2.1, .inl (h.own b hb).2.2.2⟩⟩, ?_, ?_⟩
  · exact hf.mono (fun j _ hj => hj.elim (h.inF j) (fun e => e ▸ h.mC))
  · exact fun j hj => hj.elim .inl (fun hj => (hF j hj).elim (fun hj => .inl (h.inF j hj)) .inr)

/-- Flush. -/
theorem cflush_any (W : World) (Fc : Nat → Prop) (g sp m n : Nat) (S : DS) (ss : List Sl) (chunk mode : Int) (op : Bool) (h : CacheAt W Fc g sp m n S ss chunk mode op) (hlog : S.log.length ≤ 1000000) :
    Calls Try.prog 35 #[.pointer (some ⟨m, 0, none⟩)] W fun e W' => e = .returned (.int .i64 (S.chkF 0)) ∧ ∃ Fc', CacheAt W' Fc' g sp m n (S.flush 0) ss chunk mode op ∧ Turn Fc Fc' W W' := by
  obtain ⟨F, A, c, h⟩ := h
  refine (mflush_any W F g sp 0 n m S _ _ _ _ h.dsk h.span h.spF h.meta_ hlog).mono ?_
  rintro e W' ⟨rfl, F', hd, ht⟩
  exact ⟨rfl, _, ⟨F', A, c, h.turn hd ht⟩, turn_wide h.inF ht⟩

/-- Slots. -/
theorem cslots_any (W : World) (Fc : Nat → Prop) (g sp m n : Nat) (S : DS) (ss : List Sl) (chunk mode : Int) (op : Bool) (h : CacheAt W Fc g sp m n S ss chunk mode op) (hk : ss.length ≤ 1024) :
    Calls Try.prog 16 #[.pointer (some ⟨m, 0, none⟩)] W fun e w' => ∃ v, e = .returned v ∧ w'.ownsRow W.heap.size 50 4 v ss.length (scs ss) ∧ Below W.heap.size W w' := by
  obtain ⟨F, A, c, h⟩ := h
  exact slots_any W 0 m c ss.length A ss _ _ _ _ rfl h.meta_ h.row (by omega)

/-- The cells of a cache. -/
theorem CacheAt.cells {W : World} {Fc : Nat → Prop} {g sp m n : Nat} {S : DS} {ss : List Sl} {chunk mode : Int} {op : Bool} (h : CacheAt W Fc g sp m n S ss chunk mode op) :
    ∃ y, Cs W m 89 #[spanV sp, y, .int .i64 chunk, .int .i64 mode, .bool op] := by
  obtain ⟨F, A, c, h⟩ := h
  exact ⟨_, h.meta_⟩

end Go.Proofs.Ytpiffapnbjnjiaa
