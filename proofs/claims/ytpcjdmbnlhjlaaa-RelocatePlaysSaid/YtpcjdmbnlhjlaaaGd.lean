/-
  Disks: Flush.
  Disks: New.
  Disks: Load (where no write is unflushed).
  Disks: Span, the methods of a span; Image, Unflushed, Count.
  Disks: Read, Write and Flush of a span; block.Span.
  Disks: make.Loaded, Spans.
  Disks: make.Spans.
-/
import Derived.Test.YtpcjdmbnlhjlaaaGc
namespace Go.Proofs.Ytpcjdmbnlhjlaaa
set_option linter.unusedVariables false
open Go.RowKit
attribute [local go_sem] Oper.semAt_some

/-- What the sectors held at the last flush, behind the records of a log. -/
def flDur (now : List Nat) (i : Nat) : List (Nat × Nat × Nat) → List Nat → List Nat
  | [], dur => dur
  | r :: l, dur => flDur now i l (if r.1 = i then dur.set r.2.1 (now[r.2.1]?.getD 0) else dur)
theorem flDur_snoc (now : List Nat) (i : Nat) (l : List (Nat × Nat × Nat)) (r : Nat × Nat × Nat) (dur : List Nat) :
    flDur now i (l ++ [r]) dur = if r.1 = i then (flDur now i l dur).set r.2.1 (now[r.2.1]?.getD 0) else flDur now i l dur := by
  induction l generalizing dur with
  | nil => simp [flDur]
  | cons q l ih => simp only [List.cons_append, flDur, ih]
theorem flDur_length (now : List Nat) (i : Nat) (l : List (Nat × Nat × Nat)) (dur : List Nat) : (flDur now i l dur).length = dur.length := by
  induction l generalizing dur with
  | nil => rfl
  | cons q l ih => rw [flDur, ih]; split <;> simp
theorem flDur_w (now : List Nat) (hn : W64 now) (i : Nat) (l : List (Nat × Nat × Nat)) (dur : List Nat) (h : W64 dur) : W64 (flDur now i l dur) := by
  induction l generalizing dur with
  | nil => exact h
  | cons q l ih =>
    rw [flDur]
    apply ih
    split
    · exact h.set _ _ (hn.at _)
    · exact h
def DS.flTo (S : DS) (i k : Nat) : DS := { S with dr := S.dr.set i ((S.drv i).1, flDur (S.drv i).1 i (S.log.take k) (S.drv i).2.1, (S.drv i).2.2) }
def others (i : Nat) (l : List (Nat × Nat × Nat)) : List (Nat × Nat × Nat) := l.filter fun r => !(r.1 == i)
def DS.flush (S : DS) (d : Int) : DS := if S.chkF d ≠ 0 then S else { S.flTo d.toNat S.log.length with log := others d.toNat S.log }

theorem DLay.frIn {W W' : World} {F G : Nat → Prop} {g : Nat} {S : DS} {dv lv : Value} {mb : Nat} {zs : List Dl} (h : DLay W g S dv lv mb zs) (hi : DIn F g dv lv mb zs) (hf : Fr G W W') (hn : ∀ j, F j → ¬ G j) : DLay W' g S dv lv mb zs :=
  ⟨h.arr.fr hf (hn _ hi.arr), own_fr h.drv hf (fun b hb => hn _ (hi.drv b hb)), (hf.block mb (map_lt h.map) (hn _ hi.map)).trans h.map, own_fr h.log hf (fun b hb => hn _ (hi.log b hb)),
    h.dr, fun z hz => (h.now z hz).fr hf (hn _ (hi.now z hz)), fun z hz => (h.dur z hz).fr hf (hn _ (hi.dur z hz)), h.apart⟩
theorem DIn.lt {W : World} {F : Nat → Prop} {g : Nat} {S : DS} {dv lv : Value} {mb : Nat} {zs : List Dl} (h : DIn F g dv lv mb zs) (hl : DLay W g S dv lv mb zs) : DIn (fun j => F j ∧ j < W.heap.size) g dv lv mb zs :=
  ⟨⟨h.arr, hl.arr.lt⟩, ⟨h.map, map_lt hl.map⟩, fun b hb => ⟨h.drv b hb, own_lt hl.drv b hb⟩, fun b hb => ⟨h.log b hb, own_lt hl.log b hb⟩, fun z hz => ⟨h.now z hz, (hl.now z hz).lt⟩, fun z hz => ⟨h.dur z hz, (hl.dur z hz).lt⟩⟩
theorem DIn.mono {F G : Nat → Prop} {g : Nat} {dv lv : Value} {mb : Nat} {zs : List Dl} (h : DIn F g dv lv mb zs) (hm : ∀ j, F j → G j) : DIn G g dv lv mb zs :=
  ⟨hm _ h.arr, hm _ h.map, fun b hb => hm _ (h.drv b hb), fun b hb => hm _ (h.log b hb), fun z hz => hm _ (h.now z hz), fun z hz => hm _ (h.dur z hz)⟩

theorem flTo_zero (S : DS) (i : Nat) (hi : i < S.dr.length) : S.flTo i 0 = S := by
  have : S.dr.set i ((S.drv i).1, flDur (S.drv i).1 i (S.log.take 0) (S.drv i).2.1, (S.drv i).2.2) = S.dr := by
    simp only [List.take_zero, flDur]
    apply List.ext_getElem? 
    intro k
    by_cases e : k = i
    · subst e; rw [List.getElem?_set_self hi]; simp [DS.drv, hi]
    · rw [List.getElem?_set_ne (Ne.symm e)]
  unfold DS.flTo
  rw [this]
theorem flTo_drv (S : DS) (i k : Nat) (hi : i < S.dr.length) : (S.flTo i k).drv i = ((S.drv i).1, flDur (S.drv i).1 i (S.log.take k) (S.drv i).2.1, (S.drv i).2.2) := by
  show (S.dr.set i _)[i]?.getD _ = _
  rw [List.getElem?_set_self hi]
  rfl
theorem take_snoc' {α : Type} (l : List α) (k : Nat) (r : α) (h : l[k]? = some r) : l.take (k + 1) = l.take k ++ [r] := by
  obtain ⟨hk, e⟩ := List.getElem?_eq_some_iff.1 h
  rw [List.take_succ_eq_append_getElem hk, e]
theorem flTo_step (S : DS) (i k : Nat) (hi : i < S.dr.length) (r : Nat × Nat × Nat) (hr : S.log[k]? = some r) :
    (r.1 = i → S.flTo i (k + 1) = (S.flTo i k).setDur i r.2.1 ((S.drv i).1[r.2.1]?.getD 0)) ∧ (r.1 ≠ i → S.flTo i (k + 1) = S.flTo i k) := by
  constructor
  · intro e
    unfold DS.setDur
    rw [flTo_drv S i k hi]
    unfold DS.flTo
    simp only [take_snoc' S.log k r hr, flDur_snoc, if_pos e, List.set_set]
  · intro e
    unfold DS.flTo
    simp only [take_snoc' S.log k r hr, flDur_snoc, if_neg e]
theorem DS.Ok.flush {S : DS} (h : S.Ok) (i : Nat) (hi : i < S.dr.length) : ({ S.flTo i S.log.length with log := others i S.log } : DS).Ok := by
  have hm : S.drv i ∈ S.dr := by unfold DS.drv; rw [List.getElem?_eq_getElem hi]; exact List.getElem_mem _
  have hd := h.drv _ hm
  refine ⟨by simp [DS.flTo]; exact h.nd, ?_, ?_, h.fuse, h.wr⟩
  · intro x hx
    simp only [DS.flTo] at hx
    rcases List.mem_or_eq_of_mem_set hx with hx | rfl
    · exact h.drv x hx
    · exact ⟨hd.1, flDur_w _ hd.1 _ _ _ hd.2.1, by rw [flDur_length]; exact hd.2.2.1, hd.2.2.2⟩
  · intro r hr
    have hr' := h.log r (List.mem_filter.1 hr).1
    refine ⟨by simp [DS.flTo]; exact hr'.1, ?_, hr'.2.2⟩
    show r.2.1 < ((S.flTo i S.log.length).drv r.1).1.length
    by_cases e : r.1 = i
    · rw [e, flTo_drv S i _ hi]; rw [← e]; exact hr'.2.1
    · have : (S.flTo i S.log.length).drv r.1 = S.drv r.1 := by
        rw [drv_set (S.flTo i S.log.length) S.dr i r.1 _ hi rfl, if_neg e]; rfl
      rw [this]; exact hr'.2.1

def FlushP (W : World) (F : Nat → Prop) (g : Nat) (S : DS) (d : Int) (e : Ending) (W' : World) : Prop :=
  e = .returned (.int .i64 (S.chkF d)) ∧ ∃ F', DskAt W' F' g (S.flush d) ∧ Turn F F' W W'

theorem others_snoc (i : Nat) (l : List (Nat × Nat × Nat)) (r : Nat × Nat × Nat) : (r.1 = i → others i (l ++ [r]) = others i l) ∧ (r.1 ≠ i → others i (l ++ [r]) = others i l ++ [r]) := by
  unfold others
  constructor
  · intro e; simp [List.filter_append, e]
  · intro e; simp [List.filter_append, e]
theorem others_le (i : Nat) (l : List (Nat × Nat × Nat)) : (others i l).length ≤ l.length := List.length_filter_le _ _

theorem Fr.trans_ge {F G : Nat → Prop} {A B C : World} (h : Fr F A B) (k : Fr G B C) (hg : ∀ j, G j → A.heap.size ≤ j) : Fr F A C :=
  ⟨k.os.trans h.os, k.tape.trans h.tape, k.output.trans h.output, Nat.le_trans h.size k.size, fun j hj hn => (k.block j (Nat.lt_of_lt_of_le hj h.size) (fun hc => by have := hg j hc; omega)).trans (h.block j hj hn)⟩
theorem fr_grown {A B : World} {v : Value} (h : A.grownBy B v.ownBlock) : Fr (fun j => v.ownBlock = some j) A B := ⟨h.os, h.tape, h.output, h.size, fun j hj hn => h.block j hj (fun e => hn e.symm)⟩

theorem DLay.x_of {W : World} {g : Nat} {S : DS} {dv lv : Value} {mb : Nat} {zs : List Dl} (h : DLay W g S dv lv mb zs) {i : Nat} {z : Dl} (hz : zs[i]? = some z) : z.x = S.drv i := by
  unfold DS.drv
  rw [h.dr, List.getElem?_map, hz]
  rfl

/-- What holds at the head of a round of Flush. -/
structure FlI (W : World) (F : Nat → Prop) (g B t6 i : Nat) (S : DS) (dv lv : Value) (mb : Nat) (nb db : Nat) (w1 wr : World) (k : Nat) (v7 : Value) : Prop where
  lay : ∃ zs z, DLay wr g (S.flTo i k) dv lv mb zs ∧ DIn (fun j => F j ∧ j < B) g dv lv mb zs ∧ zs[i]? = some z ∧ z.nb = nb ∧ z.db = db
  rest : wr.ownsRow B 112 3 v7 (others i (S.log.take k)).length (rcells (others i (S.log.take k)))
  box : Cs wr t6 89 #[.slice (some ⟨nb, 0, none⟩) (S.drv i).1.length (S.drv i).1.length, .slice (some ⟨db, 0, none⟩) (S.drv i).1.length (S.drv i).1.length, .bool (S.drv i).2.2]
  fr : Fr F W wr
  size : B ≤ wr.heap.size

set_option maxRecDepth 100000 in
set_option maxHeartbeats 2000000 in
theorem aflush_any (W : World) (F : Nat → Prop) (g : Nat) (S : DS) (d : Int) (h : DskAt W F g S) (hlog : S.log.length ≤ 1000000) :
    Calls Try.prog 74 #[.pointer (some ⟨g, 0, none⟩), .int .i64 d] W (FlushP W F g S d) := by
  have hb0 := (Below.refl _ W).alloc (Nat.le_refl _) (.cells (fv g [ckPow S, ckLoc S d, ckMis S d]).toArray 147)
  have HDk := Lib.hid (h.keep hb0)
  have HB := Lib.hid (Cs.new W 147 (fv g [ckPow S, ckLoc S d, ckMis S d]).toArray)
  have HE : Hid (firstE ([ckPow S, ckLoc S d, ckMis S d].map (·.2)) = S.chkF d) := rfl
  have hgW := h.lt.1
  go_enter Try.func74, Try.ntmps74
  go_wp2_with fail
  refine (check_any _ g W.heap.size 3 d 0 [ckPow S, ckLoc S d, ckMis S d] rfl (by omega) HB.out (answers3 HDk.out)).mono ?_
  rintro e w1 ⟨rfl, hb1⟩
  rw [HE.out]
  have hB1 := hb0.trans (hb1.mono hb0.size)
  have HD1 := Lib.hid (HDk.out.keep hb1)
  clear HB HDk hb1
  by_cases h0 : S.chkF d = 0
  · have HC0 := Lib.hid h0
    rw [h0]
    have hloc := cLoc_zero (firstE_all3 h0).2.1
    obtain ⟨i, rfl⟩ : ∃ i : Nat, d = (i : Int) := ⟨d.toNat, by omega⟩
    have hi : i < S.dr.length := by omega
    obtain ⟨ho, dv, lv, mb, zs, hl, hin⟩ := HD1.out
    have HL := Lib.hid hl
    have hnd := ho.nd
    obtain ⟨b, cap, z, rfl, hcl, hz, hzm, hx, c0, c1, c2⟩ := hl.one i hi
    obtain ⟨x0, x1, x2, x3, x4, x5⟩ := hl.cells
    obtain ⟨Al, cl, rfl⟩ := own_form hl.log
    have hdrv := ho.drv z.x (by rw [hl.dr]; exact List.mem_map_of_mem hzm)
    have hlen : z.x.2.1.length = z.x.1.length := hdrv.2.2.1
    rw [hlen] at c1
    rw [hx] at c0 c1 c2 hdrv
    have HO := Lib.hid ho
    have HIN := Lib.hid hin
    have HZ := Lib.hid hz
    have HX := Lib.hid hx
    generalize hnn : S.dr.length = nd at *
    have HND := Lib.hid hnn
    have t1 : (0 : Int) ≤ (i : Int) := by omega
    have t2 : (i : Int) < (nd : Int) := by omega
    have hgw1 : g < w1.heap.size := HL.out.arr.lt
    clear h0 x1 x3 x4 x5 hl hin ho hz hzm hx hlen hloc hnn
    have hWB : W.heap.size ≤ w1.heap.size := hB1.size
    have HST : Hid (FlI W F g w1.heap.size w1.heap.size i S (.slice (some ⟨b, 0, none⟩) nd cap) (.slice Al S.log.length cl) mb z.nb z.db w1 (w1.alloc (.cells #[.slice (some ⟨z.nb, 0, none⟩) (S.drv i).1.length (S.drv i).1.length, .slice (some ⟨z.db, 0, none⟩) (S.drv i).1.length (S.drv i).1.length, .bool (S.drv i).2.2] 89)) 0 (.slice none 0 0)) := by
      refine ⟨⟨zs, z, ?_, ((HIN.out.lt HL.out).mono (fun j hj => hj)), HZ.out, rfl, rfl⟩, World.ownsRow_nil _ _ _ _, Cs.new w1 _ _, (Fr.of_below hB1).alloc _, by simp⟩
      rw [flTo_zero S i (by rw [HND.out]; exact hi)]
      exact HL.out.keep ((Below.refl _ _).alloc (Nat.le_refl _) _)
    generalize hn' : S.log.length = n at *
    have HN := Lib.hid hn'
    generalize hm : (S.drv i).1.length = m at *
    have HM := Lib.hid hm
    have hMsz : m ≤ 65536 := hdrv.2.2.2
    have HDL := Lib.hid hdrv.2.2.1
    clear hn' hm hdrv
    generalize hdms : (S.drv i).2.2 = dms at *
    have HDM := Lib.hid hdms
    clear hdms
    go_wp2_with fail
    clear x0 x2 c0 c1 c2
    go_loopw [7, 35] (fun s7 s35 wr => ∃ (k : Nat) (v7 : Value), k ≤ n ∧ s7 = v7 ∧ s35 = .int .i64 k ∧ FlI W F g w1.heap.size w1.heap.size i S (.slice (some ⟨b, 0, none⟩) nd cap) (.slice Al n cl) mb z.nb z.db w1 wr k v7) (fun _ s35 _ => n - (intOf s35).toNat)
    case atStart => exact ⟨0, _, Nat.zero_le _, rfl, rfl, HST.out⟩
    case round =>
      obtain ⟨k, v7, hk, rfl, rfl, hI⟩ := hrel
      have HI := Lib.hid hI
      clear hI HST
      by_cases hlt : k < n
      · obtain ⟨zs', z', hlay, hin', hz', hnb, hdb⟩ := HI.out.lay
        have hx' := hlay.x_of hz'
        rw [flTo_drv S i k (by rw [HND.out]; exact hi)] at hx'
        obtain ⟨r, hr⟩ : ∃ r, S.log[k]? = some r := ⟨_, List.getElem?_eq_getElem (by rw [HN.out]; exact hlt)⟩
        have hrl := HO.out.log r (List.mem_of_getElem? hr)
        have hst := flTo_step S i k (by rw [HND.out]; exact hi) r hr
        have hos := others_snoc i (S.log.take k) r
        rw [← take_snoc' S.log k r hr] at hos
        have hlg : wr.ownsRow 0 112 3 (.slice Al n cl) n (rcells S.log) := by
          have := hlay.log
          rw [show (S.flTo i k).log = S.log from rfl, HN.out] at this
          exact this
        obtain ⟨lb, cl', hAl, _, hlblt⟩ := hlg.form (by omega)
        obtain ⟨rfl, rfl⟩ : Al = some ⟨lb, 0, none⟩ ∧ cl = cl' := by injection hAl with p _ q; exact ⟨p, q⟩
        obtain ⟨d0, d1, d2⟩ := rcells_at S.log k r hr
        have e0 := (hlg.cellAt (k * 3) (by omega)).trans d0
        have e1 := (hlg.cellAt (k * 3 + 1) (by omega)).trans d1
        have e2 := (hlg.cellAt (k * 3 + 2) (by omega)).trans d2
        obtain ⟨ri, ra, rv⟩ := r
        dsimp only at e0 e1 e2 hrl hst hos
        obtain ⟨A7, c7, hv7⟩ := own_form HI.out.rest
        subst hv7
        have hsz := HI.out.size
        have hLV := hlay.keep ((Below.refl _ _).alloc (Nat.le_refl _) (.cells #[.int .i64 (ri : Int), .int .i64 (ra : Int), .int .u64 (rv : Int)] 112))
        have hRV := HI.out.rest.alloc (.cells #[.int .i64 (ri : Int), .int .i64 (ra : Int), .int .u64 (rv : Int)] 112)
        have hBV := HI.out.box.alloc (.cells #[.int .i64 (ri : Int), .int .i64 (ra : Int), .int .u64 (rv : Int)] 112)
        have hFV := HI.out.fr.alloc (.cells #[.int .i64 (ri : Int), .int .i64 (ra : Int), .int .u64 (rv : Int)] 112)
        have hTV := Cs.new wr 112 #[.int .i64 (ri : Int), .int .i64 (ra : Int), .int .u64 (rv : Int)]
        have hsV : w1.heap.size ≤ (wr.alloc (.cells #[.int .i64 (ri : Int), .int .i64 (ra : Int), .int .u64 (rv : Int)] 112)).heap.size := by simp; omega
        have HLV := Lib.hid hLV
        have HRV := Lib.hid hRV
        have HBV := Lib.hid hBV
        have HTV := Lib.hid hTV
        have HR := Lib.hid hr
        have HST := Lib.hid hst
        have HOS := Lib.hid hos
        have HX' := Lib.hid hx'
        have HZ' := Lib.hid hz'
        have HNB := Lib.hid hnb
        have HDB := Lib.hid hdb
        have t5 : (k : Int) < (n : Int) := by omega
        have t6 : (0 : Int) ≤ (k : Int) := by omega
        clear hlay hr hlg hAl d0 d1 d2 hst hos hx' hz' hnb hdb hLV hRV hBV hTV HI
        by_cases hri : ri = i
        · subst ri
          have hra : ra < m := by rw [← HM.out]; exact hrl.2.1
          have hzm' := List.mem_of_getElem? HZ'.out
          have hcn := HLV.out.now z' hzm'
          have hcd := HLV.out.dur z' hzm'
          rw [HNB.out, HX'.out] at hcn
          rw [HDB.out, HX'.out] at hcd
          have cn := hcn.cell ra
          rw [List.getElem?_toArray, uv_at _ _ (by show ra < (S.drv i).1.length; rw [HM.out]; exact hra)] at cn
          have cd := hcd.cell ra
          rw [List.getElem?_toArray, uv_at _ _ (by show ra < (flDur _ _ _ _).length; rw [flDur_length, HDL.out]; exact hra)] at cd
          have fd := hcd.free ra
          have c6a := HBV.out.cell 0
          have c6b := HBV.out.cell 1
          rw [HM.out] at c6a c6b
          have c9 := HTV.out.cell 1
          simp only [List.getElem?_toArray, List.getElem?_cons_zero, List.getElem?_cons_succ] at c6a c6b c9
          have hL1 := (HLV.out.keep (Below.refl _ _).drew).dur_set i ra ((S.drv i).1[ra]?.getD 0) z' HZ'.out (by rw [HX'.out, flTo_drv S i k (by rw [HND.out]; exact hi)])
          rw [← (HST.out.1 rfl), HDB.out] at hL1
          have hzl : i < zs'.length := (List.getElem?_eq_some_iff.1 HZ'.out).1
          have hdx := hin'.dur z' hzm'
          rw [HDB.out] at hdx
          have hNew : FlI W F g w1.heap.size w1.heap.size i S (.slice (some ⟨b, 0, none⟩) nd cap) (.slice (some ⟨lb, 0, none⟩) n cl) mb z.nb z.db w1 ((wr.alloc (.cells #[.int .i64 (i : Int), .int .i64 (ra : Int), .int .u64 (rv : Int)] 112)).drew.setCell ⟨z.db, ra, none⟩ (.int .u64 (((S.drv i).1[ra]?.getD 0 : Nat) : Int))) (k + 1) (.slice A7 (others i (S.log.take k)).length c7) := by
            refine ⟨⟨_, _, hL1, hin'.setz i z' _ HZ'.out rfl HDB.out.symm, List.getElem?_set_self hzl, HNB.out, rfl⟩, ?_, ?_, ?_, ?_⟩
            · rw [HOS.out.1 rfl]
              exact own_fr (World.ownsRow.drew HRV.out) (fr_set _ z.db ra _) (cs_own_ne (W := (wr.alloc (.cells #[.int .i64 (i : Int), .int .i64 (ra : Int), .int .u64 (rv : Int)] 112)).drew) hcd HRV.out (by decide))
            · exact Cs.fr (W := (wr.alloc (.cells #[.int .i64 (i : Int), .int .i64 (ra : Int), .int .u64 (rv : Int)] 112)).drew) HBV.out (fr_set _ z.db ra _) (Ne.symm (cs_ne HBV.out hcd (by decide)))
            · exact (hFV.drew).set (.inl hdx.1) _
            · simpa using hsV
          have HNEW := Lib.hid hNew
          generalize (S.drv i).1[ra]?.getD 0 = v0 at *
          generalize (flDur _ _ _ _)[ra]?.getD 0 = v1 at cd
          have t7 : (0 : Int) ≤ (ra : Int) := by omega
          have t8 : (ra : Int) < (m : Int) := by omega
          clear hcn hcd hL1 hNew hdx hrl
          go_wp2_with fail
          refine wp_region_mix 13 13 (by kernel_rfl) (by kernel_rfl) (fun w' => w'.cell? ⟨w1.heap.size, 0, none⟩ = some (.slice (some ⟨z.nb, 0, none⟩) m m) ∧ w'.cell? ⟨w1.heap.size, 1, none⟩ = some (.slice (some ⟨z.db, 0, none⟩) m m) ∧ w'.cell? ⟨wr.heap.size, 1, none⟩ = some (.int .i64 (ra : Int)) ∧ w'.cell? ⟨z.nb, ra, none⟩ = some (.int .u64 (v0 : Int))) ⟨c6a, c6b, c9, cn⟩ ?_
          simp only [List.take_succ_cons, List.take_zero, List.drop_succ_cons, List.drop_zero]
          iterate 13
            refine ⟨?_, Or.inl ⟨by rfl, fun W' hS' => ?_⟩, fun _ _ _ h => h, ?_⟩
            rotate_left
            · obtain ⟨hs1, hs2, hs3, hs4⟩ := hS'
              go_simp
              with_reducible rfl
            simp only [Act.put, List.setIfInBounds_toArray, List.set_cons_zero, List.set_cons_succ]
          show wpSeqT _ _ _ _ _ _ _ _ _
          refine wpSeqT_list _ _ _ _ (by omega) ?_
          clear c6a c6b c9 cn
          go_wp2_with fail
          go_roundw
          case rel => exact ⟨k + 1, _, by omega, rfl, by go_num, HNEW.out⟩
          case measure => simp [intOf]; omega
        · have hb1 : ((ri : Int) == (i : Int)) = false := by simp; omega
          have hb2 : (ri == i) = false := by simpa using hri
          have hol := others_le i (S.log.take k)
          rw [List.length_take] at hol
          obtain ⟨ir, hir, hz0, hz1, hz2⟩ := info_parts record_info
          go_upto_region 11 with (fail)
          generalize hV : (wr.alloc (.cells #[.int .i64 (ri : Int), .int .i64 (ra : Int), .int .u64 (rv : Int)] 112)) = V at HLV HRV HBV HTV hFV hsV ⊢
          clear hV
          obtain ⟨c90, c91, c92⟩ : V.cell? ⟨wr.heap.size, 0, none⟩ = some (.int .i64 (ri : Int)) ∧ V.cell? ⟨wr.heap.size, 1, none⟩ = some (.int .i64 (ra : Int)) ∧ V.cell? ⟨wr.heap.size, 2, none⟩ = some (.int .u64 (rv : Int)) := ⟨HTV.out.cell 0, HTV.out.cell 1, HTV.out.cell 2⟩
          go_wp2_with (at_builtin; refine wpList_append_reads _ (by rfl) _ _ _ (by rfl) w1.heap.size 112 ir _ 3 24 Try.underlying84 hir hz0 hz1 hz2 rfl (by omega) (.slice A7 (others i (S.log.take k)).length c7) (others i (S.log.take k)).length (rcells (others i (S.log.take k))) (by rfl) (HRV.out.alloc _) (some ⟨V.heap.size, 0, none⟩) 1 1 [.int .i64 (ri : Int), .int .i64 (ra : Int), .int .u64 (rv : Int)] (by rfl) (by rfl) (Reads.new _ _ _) (by simp [Value.oneCell']) (by simp only [maxLen]; omega) (by omega) (by simp; omega) ?_; intro v5 w5 hown5 hg5 hat5)
          have hgf := fr_grown hg5
          have hbase := own_base HRV.out
          have hbx := HBV.out.alloc (.cells #[.int .i64 (ri : Int), .int .i64 (ra : Int), .int .u64 (rv : Int)] 112)
          have hL5 := (HLV.out.keep ((Below.refl _ _).alloc (Nat.le_refl _) (.cells #[.int .i64 (ri : Int), .int .i64 (ra : Int), .int .u64 (rv : Int)] 112))).frIn hin' hgf (fun j hj e => by have := hbase j e; omega)
          have hs5 := hg5.size
          rw [World.size_alloc] at hs5
          have HNEW : Hid (FlI W F g w1.heap.size w1.heap.size i S (.slice (some ⟨b, 0, none⟩) nd cap) (.slice (some ⟨lb, 0, none⟩) n cl) mb z.nb z.db w1 w5 (k + 1) v5) := by
            refine ⟨⟨zs', z', ?_, hin', HZ'.out, HNB.out, HDB.out⟩, ?_, ?_, ?_, by omega⟩
            · rw [HST.out.2 hri]; exact hL5
            · rw [HOS.out.2 hri, rcells_snoc, List.length_append]; exact hown5
            · exact hbx.fr hgf (fun e => cs_own_ne hbx (HRV.out.alloc _) (by decide) _ e rfl)
            · exact (hFV.alloc _).trans_ge hgf (fun j e => Nat.le_trans hWB (hbase j e))
          clear hgf hbase hbx hL5 hs5 hown5 hg5 hat5
          go_roundw
          case rel => exact ⟨k + 1, v5, by omega, rfl, by go_num, HNEW.out⟩
          case measure => simp [intOf]; omega
      · have hkn : k = n := by omega
        subst hkn
        obtain ⟨zs', z', hlay, hin', hz', hnb, hdb⟩ := HI.out.lay
        obtain ⟨A7, c7, hv7⟩ := own_form HI.out.rest
        subst hv7
        have hrest := own_lower HI.out.rest (Nat.zero_le _)
        have HLf := Lib.hid (hlay.log_set (l' := others i (S.log.take k)) (World.grownBy.refl wr _) hrest).1
        have f2 := hlay.arr.free 2
        have x2 := hlay.cells.2.2.1
        have hbase := own_base HI.out.rest
        have hFf := HI.out.fr.set (b := g) (i := 2) (.inl hin'.arr.1) (.slice A7 (others i (S.log.take k)).length c7)
        have HTK : Hid (S.log.take k = S.log) := by show _ = _; rw [← HN.out]; exact List.take_length
        have HR : Hid (S.flush (i : Int) = { S.flTo i k with log := others i (S.log.take k) }) := by
          show _ = _
          unfold DS.flush
          rw [if_neg (by simpa using HC0.out), HTK.out, Int.toNat_natCast, HN.out]
        have hOk := HO.out.flush i (by rw [HND.out]; exact hi)
        rw [HN.out] at hOk
        have hdf : DIn (wider F W) g (.slice (some ⟨b, 0, none⟩) nd cap) (.slice A7 (others i (S.log.take k)).length c7) mb zs' := by
          have hw := (hin'.mono (fun j hj => hj.1)).wider W
          exact ⟨hw.arr, hw.map, hw.drv, fun j hj => .inr (Nat.le_trans hWB (hbase j hj)), hw.now, hw.dur⟩
        have HDF := Lib.hid hdf
        generalize hol : (others i (S.log.take k)).length = ol at *
        clear hlay hrest HI hbase hdf hol
        go_wp2_with fail
        go_ret
        exact ⟨by rw [HC0.out]; rfl, wider F W, by rw [HR.out]; exact ⟨by rw [HTK.out]; exact hOk, _, _, mb, _, HLf.out, HDF.out⟩, turn_wider hFf⟩
  · have hz0 : (S.chkF d != 0) = true := by simpa using h0
    have HW : Hid (S.flush d = S) := by show _ = _; unfold DS.flush; rw [if_pos h0]
    clear h0
    go_wp2_with fail
    go_ret
    exact ⟨rfl, F, by rw [HW.out]; exact HD1.out, Turn.of_below hB1⟩

end Go.Proofs.Ytpcjdmbnlhjlaaa

namespace Go.Proofs.Ytpcjdmbnlhjlaaa
set_option linter.unusedVariables false
open Go.RowKit
attribute [local go_sem] Oper.semAt_some

theorem madeCells_u64 (n : Nat) : madeCells #[Value.int .u64 0] (n * 1) = (uv (List.replicate n 0)).toArray := by
  apply Array.ext'
  rw [toList_madeCells_one]
  simp [uv]
theorem run_make_u64 (n : Nat) (hn : n ≤ 1000000) (w : World) : (Instr.makeSlice 30 (.int .i64 (n : Int)) (.int .i64 (n : Int))).run Try.prog w = .ok (.slice (some ⟨w.heap.size, 0, none⟩) n n) (w.alloc (.cells (uv (List.replicate n 0)).toArray 32)) := by
  obtain ⟨i0, hi0, hz0, hz1, hz2⟩ := info_parts u64_info
  have := run_make (P := Try.prog) w 30 32 i0 _ Try.underlying30 hi0 hz0 .i64 .i64 (n : Int) (n : Int) (by omega) (Int.le_refl _) (by rw [hz2]; omega) (by omega)
  rw [this]
  simp only [Int.toNat_natCast, hz1]
  rw [show (Value.int IntKind.u64 0).cells = #[Value.int .u64 0] from rfl, madeCells_u64]

def zd (n : Nat) : List Nat × List Nat × Bool := (List.replicate n 0, List.replicate n 0, false)
theorem dcells_snoc (zs : List Dl) (z : Dl) : dcells (zs ++ [z]) = dcells zs ++ z.cells := by simp [dcells]
theorem drive_info : (Try.prog.info? 89).map (fun i => (i.zero, i.size, i.bytes)) = some (some (.agg #[.slice none 0 0, .slice none 0 0, .bool false]), 3, 56) := by kernel_rfl

/-- A disk more. -/
theorem DLay.push {A w5 : World} {g : Nat} {S : DS} {dv dv' lv : Value} {mb : Nat} {zs : List Dl} (h : DLay A g S dv lv mb zs) (z : Dl) (hn : Cs A z.nb 32 (uv z.x.1).toArray) (hd : Cs A z.db 32 (uv z.x.2.1).toArray)
    (hne : z.nb ≠ z.db) (hap : ∀ y ∈ zs, y.nb ≠ z.nb ∧ y.nb ≠ z.db ∧ y.db ≠ z.nb ∧ y.db ≠ z.db) (hg : A.grownBy w5 dv.ownBlock) (hr : w5.ownsRow 0 89 3 dv' (S.dr.length + 1) (dcells zs ++ z.cells)) :
    DLay (w5.setCell ⟨g, 0, none⟩ dv') g { S with dr := S.dr ++ [z.x] } dv' lv mb (zs ++ [z]) := by
  have hf := fr_grown hg
  have ha : Cs w5 g 86 #[dv, .map (some mb), lv, .int .i64 S.fuse, .bool S.down, .int .i64 S.wr] := h.arr.fr hf (fun e => cs_own_ne h.arr h.drv (by decide) g e rfl)
  have hm1 : w5.heap[mb]? = some (.map #[] 0) := (hf.block mb (map_lt h.map) (fun e => own_map_ne h.drv h.map mb e rfl)).trans h.map
  have hl1 : w5.ownsRow 0 112 3 lv S.log.length (rcells S.log) := own_fr h.log hf (fun b hb e => own_own_ne h.log h.drv (by decide) b b hb e rfl)
  have hn1 : ∀ y ∈ zs ++ [z], Cs w5 y.nb 32 (uv y.x.1).toArray := by
    intro y hy
    rcases List.mem_append.1 hy with hy | hy
    · exact (h.now y hy).fr hf (fun e => cs_own_ne (h.now y hy) h.drv (by decide) y.nb e rfl)
    · simp at hy; subst hy; exact hn.fr hf (fun e => cs_own_ne hn h.drv (by decide) _ e rfl)
  have hu1 : ∀ y ∈ zs ++ [z], Cs w5 y.db 32 (uv y.x.2.1).toArray := by
    intro y hy
    rcases List.mem_append.1 hy with hy | hy
    · exact (h.dur y hy).fr hf (fun e => cs_own_ne (h.dur y hy) h.drv (by decide) y.db e rfl)
    · simp at hy; subst hy; exact hd.fr hf (fun e => cs_own_ne hd h.drv (by decide) _ e rfl)
  have hfs := fr_set w5 g 0 dv'
  refine ⟨heap_setCell_same w5 g 0 _ _ dv' ha, ?_, (hfs.block mb (map_lt hm1) (cs_map_ne ha hm1)).trans hm1, own_fr hl1 hfs (cs_own_ne ha hl1 (by decide)), ?_,
    fun y hy => (hn1 y hy).fr hfs (cs_ne ha (hn1 y hy) (by decide)), fun y hy => (hu1 y hy).fr hfs (cs_ne ha (hu1 y hy) (by decide)), ?_⟩
  · show (w5.setCell _ _).ownsRow 0 _ 3 dv' (S.dr ++ [z.x]).length (dcells (zs ++ [z]))
    rw [dcells_snoc, List.length_append]
    exact own_fr hr hfs (cs_own_ne ha hr (by decide))
  · show S.dr ++ [z.x] = _
    rw [List.map_append, h.dr]; rfl
  · rw [List.flatMap_append, List.nodup_append]
    refine ⟨h.apart, by simp [hne], ?_⟩
    intro a ha b hb
    simp only [List.mem_flatMap, List.mem_cons, List.not_mem_nil, or_false] at ha
    obtain ⟨y, hy, ha⟩ := ha
    simp at hb
    have := hap y hy
    rcases ha with rfl | rfl <;> rcases hb with rfl | rfl
    · exact this.1
    · exact this.2.1
    · exact this.2.2.1
    · exact this.2.2.2

def DS.fresh (ns : List Nat) : DS := ⟨ns.map zd, [], 0, false, 0⟩
theorem fresh_ok (ns : List Nat) (h8 : ns.length ≤ 8) (hn : ∀ n ∈ ns, n ≤ 65536) : (DS.fresh ns).Ok := by
  refine ⟨by simp [DS.fresh]; exact h8, ?_, by simp [DS.fresh], ⟨by simp [DS.fresh], by simp [DS.fresh]⟩, by simp [DS.fresh]⟩
  intro x hx
  simp only [DS.fresh, List.mem_map] at hx
  obtain ⟨n, hm, rfl⟩ := hx
  have hw : W64 (List.replicate n 0) := by intro y hy; rw [List.mem_replicate] at hy; omega
  exact ⟨hw, hw, by simp [zd], by simp [zd]; exact hn n hm⟩

/-- What holds at the head of a round of New. -/
def NwI (W wr : World) (ns : List Nat) (k : Nat) : Prop :=
  ∃ dv mb zs, DLay wr (W.heap.size + 1) (DS.fresh (ns.take k)) dv (.slice none 0 0) mb zs ∧ DIn (fun j => W.heap.size ≤ j) (W.heap.size + 1) dv (.slice none 0 0) mb zs ∧ Below W.heap.size W wr
theorem NwI.step {W wr w5 : World} {ns : List Nat} {k n p q : Nat} {dv v5 : Value} {mb : Nat} {zs : List Dl} {o3 : Obj} (hl : DLay wr (W.heap.size + 1) (DS.fresh (ns.take k)) dv (.slice none 0 0) mb zs) (hi : DIn (fun j => W.heap.size ≤ j) (W.heap.size + 1) dv (.slice none 0 0) mb zs) (hb : Below W.heap.size W wr)
    (hn : ns[k]? = some n) (hpq : (p = wr.heap.size ∧ q = wr.heap.size + 1) ∨ (p = wr.heap.size + 1 ∧ q = wr.heap.size))
    (hg : (((wr.alloc (.cells (uv (List.replicate n 0)).toArray 32)).alloc (.cells (uv (List.replicate n 0)).toArray 32)).alloc o3).drew.grownBy w5 dv.ownBlock)
    (hr : w5.ownsRow 0 89 3 v5 ((ns.take k).length + 1) (dcells zs ++ [.slice (some ⟨p, 0, none⟩) n n, .slice (some ⟨q, 0, none⟩) n n, .bool false]))
    (hat : v5.ownBlock = dv.ownBlock ∨ ∀ j, v5.ownBlock = some j → W.heap.size ≤ j) : NwI W (w5.setCell ⟨W.heap.size + 1, 0, none⟩ v5) ns (k + 1) := by
  have hbl : Below wr.heap.size wr (((wr.alloc (.cells (uv (List.replicate n 0)).toArray 32)).alloc (.cells (uv (List.replicate n 0)).toArray 32)).alloc o3).drew := ((((Below.refl _ wr).alloc (Nat.le_refl _) _).alloc (by simp) _).alloc (by simp; omega) _).drew
  have c1 : Cs (((wr.alloc (.cells (uv (List.replicate n 0)).toArray 32)).alloc (.cells (uv (List.replicate n 0)).toArray 32)).alloc o3).drew wr.heap.size 32 (uv (List.replicate n 0)).toArray := ((Cs.new wr _ _).alloc _).alloc _
  have c2 : Cs (((wr.alloc (.cells (uv (List.replicate n 0)).toArray 32)).alloc (.cells (uv (List.replicate n 0)).toArray 32)).alloc o3).drew (wr.heap.size + 1) 32 (uv (List.replicate n 0)).toArray := by
    have := (Cs.new (wr.alloc (.cells (uv (List.replicate n 0)).toArray 32)) 32 (uv (List.replicate n 0)).toArray).alloc o3
    rw [World.size_alloc] at this; exact this
  generalize (((wr.alloc _).alloc _).alloc o3).drew = A at *
  have hlt : ∀ y ∈ zs, y.nb < wr.heap.size ∧ y.db < wr.heap.size := fun y hy => ⟨(hl.now y hy).lt, (hl.dur y hy).lt⟩
  have hsz := hb.size
  have hcp : Cs A p 32 (uv (List.replicate n 0)).toArray ∧ Cs A q 32 (uv (List.replicate n 0)).toArray := by
    rcases hpq with ⟨rfl, rfl⟩ | ⟨rfl, rfl⟩
    · exact ⟨c1, c2⟩
    · exact ⟨c2, c1⟩
  have hP := (hl.keep hbl).push ⟨p, q, zd n⟩ hcp.1 hcp.2 (by show p ≠ q; omega) (fun y hy => by have := hlt y hy; exact ⟨by show _ ≠ p; omega, by show _ ≠ q; omega, by show _ ≠ p; omega, by show _ ≠ q; omega⟩) hg
    (by show w5.ownsRow 0 _ 3 v5 ((DS.fresh (ns.take k)).dr.length + 1) _; simp only [DS.fresh, List.length_map, Dl.cells, zd, List.length_replicate]; exact hr)
  refine ⟨v5, mb, zs ++ [⟨p, q, zd n⟩], ?_, ⟨hi.arr, hi.map, ?_, hi.log, ?_, ?_⟩, ?_⟩
  · have e : DS.fresh (ns.take (k + 1)) = { DS.fresh (ns.take k) with dr := (DS.fresh (ns.take k)).dr ++ [zd n] } := by
      simp only [DS.fresh, take_snoc' ns k n hn, List.map_append, List.map_cons, List.map_nil]
    rw [e]
    exact hP
  · intro j hj
    rcases hat with e | e
    · rw [e] at hj; exact hi.drv j hj
    · exact e j hj
  · intro y hy
    rcases List.mem_append.1 hy with hy | hy
    · exact hi.now y hy
    · simp at hy; subst hy; show W.heap.size ≤ p; omega
  · intro y hy
    rcases List.mem_append.1 hy with hy | hy
    · exact hi.dur y hy
    · simp at hy; subst hy; show W.heap.size ≤ q; omega
  · have h1 := hb.trans (hbl.mono hsz)
    have h2 : Below W.heap.size A w5 := (fr_grown hg).below h1.size (fun j hj => hi.drv j hj)
    exact (h1.trans h2).setCell (p := ⟨W.heap.size + 1, 0, none⟩) (show W.heap.size ≤ W.heap.size + 1 by omega) _

theorem reads_new3 (w : World) (o o' : Obj) (cs : Array Value) (t : TypeId) : Reads (((w.alloc o).alloc o').alloc (.cells cs t)).drew (some ⟨w.heap.size + 1 + 1, 0, none⟩) cs.toList := by
  have := Reads.new ((w.alloc o).alloc o') cs t
  rw [World.size_alloc, World.size_alloc] at this
  exact this
theorem below_new3 (w : World) (o o' o3 : Obj) : Below w.heap.size w (((w.alloc o).alloc o').alloc o3).drew := ((((Below.refl _ w).alloc (Nat.le_refl _) _).alloc (by simp) _).alloc (by simp; omega) _).drew
theorem DLay.drv_cell {wr A w5 : World} {g : Nat} {S : DS} {dv lv : Value} {mb : Nat} {zs : List Dl} (h : DLay wr g S dv lv mb zs) (hA : Below wr.heap.size wr A) (hg : A.grownBy w5 dv.ownBlock) : w5.cell? ⟨g, 0, none⟩ = some dv ∧ w5.frozen? ⟨g, 0, none⟩ = false := by
  have ha := h.keep hA
  have := ha.arr.grown hg (fun e => cs_own_ne ha.arr ha.drv (by decide) g e.symm rfl)
  exact ⟨this.cell 0, this.free 0⟩

def NewP (W : World) (ns : List Nat) (e : Ending) (W' : World) : Prop :=
  ∃ g, e = .returned (.tuple #[.pointer (some ⟨g, 0, none⟩), .int .i64 0]) ∧ DskAt W' (fun j => W.heap.size ≤ j) g (DS.fresh ns) ∧ Below W.heap.size W W'

set_option maxRecDepth 100000 in
set_option maxHeartbeats 2000000 in
theorem dnew_any (W : World) (A : Option Addr) (N c : Nat) (ns : List Nat) (hA : Reads W A (iv (ns.map (Int.ofNat ·)))) (hN : ns.length = N) (h8 : N ≤ 8) (hn : ∀ n ∈ ns, 1 ≤ n ∧ n ≤ 65536) :
    Calls Try.prog 39 #[.slice A N c] W (NewP W ns) := by
  have h8' : ¬ (8 : Int) < (N : Int) := by omega
  have hmm := @run_makeMap Try.prog
  have HN := Lib.hid hN
  have HA := Lib.hid hA
  clear hN hA
  go_enter Try.func39, Try.ntmps39
  have hbA : Below W.heap.size W ((W.alloc (.map #[] 0)).alloc (.cells #[.slice none 0 0, .map (some W.heap.size), .slice none 0 0, .int .i64 0, .bool false, .int .i64 0] 86)) := ((Below.refl _ W).alloc (Nat.le_refl _) _).alloc (by simp) _
  have H0 : Hid (NwI W ((W.alloc (.map #[] 0)).alloc (.cells #[.slice none 0 0, .map (some W.heap.size), .slice none 0 0, .int .i64 0, .bool false, .int .i64 0] 86)) ns 0) := by
    have c1 := Cs.new (W.alloc (.map #[] 0)) 86 #[.slice none 0 0, .map (some W.heap.size), .slice none 0 0, .int .i64 0, .bool false, .int .i64 0]
    rw [World.size_alloc] at c1
    have hm : ((W.alloc (.map #[] 0)).alloc (.cells #[.slice none 0 0, .map (some W.heap.size), .slice none 0 0, .int .i64 0, .bool false, .int .i64 0] 86)).heap[W.heap.size]? = some (.map #[] 0) :=
      (((Below.refl _ _).alloc (Nat.le_refl _) _).block W.heap.size (by simp)).trans (heap_alloc_new W _)
    exact ⟨.slice none 0 0, W.heap.size, [], ⟨c1, World.ownsRow_nil _ _ _ _, hm, World.ownsRow_nil _ _ _ _, rfl, by simp, by simp, by simp⟩,
      ⟨by show W.heap.size ≤ _; omega, Nat.le_refl _, by simp [Value.ownBlock], by simp [Value.ownBlock], by simp, by simp⟩, hbA⟩
  go_wp2_with fail
  clear hmm
  go_loopw [15] (fun s wr => ∃ k : Nat, k ≤ N ∧ s = .int .i64 k ∧ NwI W wr ns k) (fun s _ => N - (intOf s).toNat)
  case atStart => exact ⟨0, Nat.zero_le _, rfl, H0.out⟩
  case round =>
    obtain ⟨k, hk, rfl, hI⟩ := hrel
    have HI := Lib.hid hI
    clear hI H0 hbA
    by_cases hlt : k < N
    · obtain ⟨dv, mb, zs, hl, hi, hb⟩ := HI.out
      obtain ⟨n, hnk⟩ : ∃ n, ns[k]? = some n := ⟨_, List.getElem?_eq_getElem (by rw [HN.out]; exact hlt)⟩
      have hn1 := hn n (List.mem_of_getElem? hnk)
      obtain ⟨ab, ao, rfl, hab, hac⟩ := HA.out.i (by rw [List.length_map, HN.out]; omega)
      have hc := (hb.cell (p := ⟨ab, ao + k, none⟩) hab).trans (hac k (by rw [List.length_map, HN.out]; exact hlt))
      rw [List.getElem?_map, hnk] at hc
      change wr.cell? _ = some (.int .i64 (n : Int)) at hc
      obtain ⟨Ad, cd, rfl⟩ := own_form hl.drv
      have hlen : (DS.fresh (ns.take k)).dr.length = k := by simp only [DS.fresh, List.length_map, List.length_take, HN.out]; omega
      have x0 := hl.cells.1
      have f0 : wr.frozen? ⟨W.heap.size + 1, 0, none⟩ = false := hl.arr.free 0
      rw [hlen] at x0
      have hdr := hl.drv
      rw [hlen] at hdr
      have hlk := hl
      rw [hlen] at hlk
      have HLK := Lib.hid hlk
      clear hlk
      have HL := Lib.hid hl
      have hik := hi
      rw [hlen] at hik
      have HIN := Lib.hid hik
      clear hik
      have HBW := Lib.hid hb
      have HDR := Lib.hid hdr
      have HNK := Lib.hid hnk
      have HLEN := Lib.hid hlen
      have hgb : W.heap.size + 1 < wr.heap.size := hl.arr.lt
      have t1 : ¬ (n : Int) < 1 := by omega
      have t2 : ¬ (65536 : Int) < (n : Int) := by omega
      have t3 : (k : Int) < (N : Int) := by omega
      have t4 : (0 : Int) ≤ (k : Int) := by omega
      have hmk := run_make_u64 n (by omega)
      obtain ⟨ir, hir, hz0, hz1, hz2⟩ := info_parts drive_info
      clear hl hi hb hnk hac hdr hlen HI
      go_wp2_with fail
      clear hc
      have xa : ∀ o, (wr.alloc o).cell? ⟨W.heap.size + 1, 0, none⟩ = some (.slice Ad k cd) := fun o => (World.cell?_alloc_lt wr o ⟨W.heap.size + 1, 0, none⟩ hgb).trans x0
      have xb : ∀ o o', ((wr.alloc o).alloc o').cell? ⟨W.heap.size + 1, 0, none⟩ = some (.slice Ad k cd) := fun o o' => (World.cell?_alloc_lt _ o' ⟨W.heap.size + 1, 0, none⟩ (by simp; omega)).trans (xa o)
      have xc : ∀ o o' o3, (((wr.alloc o).alloc o').alloc o3).cell? ⟨W.heap.size + 1, 0, none⟩ = some (.slice Ad k cd) := fun o o' o3 => (World.cell?_alloc_lt _ o3 ⟨W.heap.size + 1, 0, none⟩ (by simp; omega)).trans (xb o o')
      go_region_law ((refine step_append_reads _ (by rfl) (.tmp 29) (.tmp 35) _ (by rfl) 0 89 ir _ 3 56 Try.underlying82 hir hz0 hz1 hz2 rfl (by omega) (.slice Ad k cd) k (dcells zs) (by rfl) (own_keepB HDR.out (below_new3 _ _ _ _)) (some ⟨wr.heap.size + 1 + 1, 0, none⟩) 1 1 _ (by rfl) (by rfl) (reads_new3 _ _ _ _ _) (by simp [Value.oneCell']) (by simp only [maxLen]; omega) (by omega) (Nat.zero_le _) ?_; intro v5 w5 hown5 hg5 hat5; obtain ⟨A5, c5, hv5⟩ := own_form hown5; subst hv5; obtain ⟨y5, z5⟩ := HLK.out.drv_cell (below_new3 _ _ _ _) hg5))
      all_goals
        have hst : NwI W (w5.setCell ⟨W.heap.size + 1, 0, none⟩ (.slice A5 (k + 1) c5)) ns (k + 1) := by
          have htl : (ns.take k).length = k := by rw [List.length_take, HN.out]; omega
          have hat : (Value.slice A5 (k + 1) c5).ownBlock = (Value.slice Ad k cd).ownBlock ∨ ∀ j, (Value.slice A5 (k + 1) c5).ownBlock = some j → W.heap.size ≤ j := by
            rcases hat5 with e | e
            · exact .inl e
            · refine .inr (fun j hj => ?_)
              rw [e] at hj
              injection hj with hj
              rw [← hj]
              simp; omega
          first
            | (refine NwI.step HLK.out HIN.out HBW.out HNK.out (.inl ⟨rfl, rfl⟩) hg5 ?_ hat; rw [htl]; exact hown5)
            | (refine NwI.step HLK.out HIN.out HBW.out HNK.out (.inr ⟨rfl, rfl⟩) hg5 ?_ hat; rw [htl]; exact hown5)
        have HST := Lib.hid hst
        clear hst hown5 hg5 hat5 y5 z5 xa xb xc
        go_wp2_with fail
        go_roundw
        case rel => exact ⟨k + 1, by omega, by go_num, HST.out⟩
        case measure => simp [intOf]; omega
    · have hkn : k = N := by omega
      subst hkn
      obtain ⟨dv, mb, zs, hl, hi, hb⟩ := HI.out
      have HL := Lib.hid hl
      have htk : ns.take k = ns := by rw [← HN.out]; exact List.take_length
      rw [htk] at HL
      have hok := fresh_ok ns (by rw [HN.out]; exact h8) (fun n hm => (hn n hm).2)
      clear hl htk HI
      go_wp2_with fail
      go_ret2
      exact ⟨_, rfl, ⟨hok, dv, _, mb, zs, HL.out, hi⟩, hb⟩

end Go.Proofs.Ytpcjdmbnlhjlaaa

namespace Go.Proofs.Ytpcjdmbnlhjlaaa
set_option linter.unusedVariables false
open Go.RowKit
attribute [local go_sem] Oper.semAt_some

theorem delfunc_nil (W : World) (Al : Option Addr) (cl : Nat) (fv : Value) : Calls Try.prog 52 #[.slice Al 0 cl, fv] W fun e w' => e = .returned (.slice Al 0 cl) ∧ W = w' := by
  go_enter Try.func52, Try.ntmps52
  go_wp2_with fail
  have h : Calls Try.prog 57 #[.slice Al 0 cl, fv] W fun e w' => e = .returned (.int .i64 (-1)) ∧ W = w' := by
    go_enter Try.func57, Try.ntmps57
    go_wp2_with fail
    go_loop [8] (fun s => s = .int .i64 0) (fun s => 1)
    case atStart => rfl
    case round =>
      obtain rfl := hrel
      go_wp2_with fail
      go_ret
      exact ⟨rfl, rfl⟩
  refine h.mono ?_
  rintro e w' ⟨rfl, rfl⟩
  go_wp2_with fail
  go_ret
  exact ⟨rfl, rfl⟩

theorem fr_row (W : World) (g : Nat) (cs : Array Value) : Fr (fun j => j = g) W (W.setRow g cs) :=
  ⟨rfl, rfl, rfl, by simp, fun j _ hj => setRow_other W g j cs hj⟩

/-- The sectors of a disk have become others. -/
theorem DLay.now_fr {W W' : World} {g : Nat} {S : DS} {dv lv : Value} {mb : Nat} {zs : List Dl} (h : DLay W g S dv lv mb zs) (i : Nat) (z : Dl) (hz : zs[i]? = some z) (l : List Nat) (hl : l.length = z.x.1.length)
    (hf : Fr (fun j => j = z.nb) W W') (hc : Cs W' z.nb 32 (uv l).toArray) :
    DLay W' g { S with dr := S.dr.set i (l, (S.drv i).2.1, (S.drv i).2.2) } dv lv mb (zs.set i ⟨z.nb, z.db, (l, z.x.2.1, z.x.2.2)⟩) := by
  have hx := h.x_of hz
  have hzm := List.mem_of_getElem? hz
  have hcz := h.now z hzm
  have hcell : (⟨z.nb, z.db, (l, z.x.2.1, z.x.2.2)⟩ : Dl).cells = z.cells := by simp [Dl.cells, hl]
  have hlen : ({ S with dr := S.dr.set i (l, (S.drv i).2.1, (S.drv i).2.2) } : DS).dr.length = S.dr.length := by simp
  have hil : i < zs.length := (List.getElem?_eq_some_iff.1 hz).1
  refine ⟨h.arr.fr hf (Ne.symm (cs_ne h.arr hcz (by decide))), ?_, (hf.block mb (map_lt h.map) (cs_map_ne hcz h.map)).trans h.map, own_fr h.log hf (cs_own_ne hcz h.log (by decide)), ?_, ?_, ?_, ?_⟩
  · rw [hlen, dcells_set zs i z _ hz hcell]
    exact own_fr h.drv hf (cs_own_ne hcz h.drv (by decide))
  · simp only [List.map_set, ← hx]
    rw [h.dr]
  · intro y hy
    obtain ⟨k, hk, hkl⟩ := set_mem _ _ _ _ hy
    by_cases e : k = i
    · subst e
      rw [List.getElem?_set_self hil] at hk
      injection hk with hk
      subst hk
      exact hc
    · rw [List.getElem?_set_ne (Ne.symm e)] at hk
      exact (h.now y (List.mem_of_getElem? hk)).fr hf ((nodup_apart h.apart k i y z hk hz).2 e).1
  · intro y hy
    obtain ⟨k, hk, hkl⟩ := set_mem _ _ _ _ hy
    by_cases e : k = i
    · subst e
      rw [List.getElem?_set_self hil] at hk
      injection hk with hk
      subst hk
      exact (h.dur z hzm).fr hf (Ne.symm (nodup_apart h.apart k k z z hz hz).1)
    · rw [List.getElem?_set_ne (Ne.symm e)] at hk
      exact (h.dur y (List.mem_of_getElem? hk)).fr hf (Ne.symm (nodup_apart h.apart i k z y hz hk).1)
  · have := h.apart
    rwa [← apart_set zs i z ⟨z.nb, z.db, (l, z.x.2.1, z.x.2.2)⟩ hz rfl rfl] at this
theorem DLay.dur_fr {W W' : World} {g : Nat} {S : DS} {dv lv : Value} {mb : Nat} {zs : List Dl} (h : DLay W g S dv lv mb zs) (i : Nat) (z : Dl) (hz : zs[i]? = some z) (l : List Nat) (hl : l.length = z.x.2.1.length)
    (hf : Fr (fun j => j = z.db) W W') (hc : Cs W' z.db 32 (uv l).toArray) :
    DLay W' g { S with dr := S.dr.set i ((S.drv i).1, l, (S.drv i).2.2) } dv lv mb (zs.set i ⟨z.nb, z.db, (z.x.1, l, z.x.2.2)⟩) := by
  have hx := h.x_of hz
  have hzm := List.mem_of_getElem? hz
  have hcz := h.dur z hzm
  have hcell : (⟨z.nb, z.db, (z.x.1, l, z.x.2.2)⟩ : Dl).cells = z.cells := by simp [Dl.cells, hl]
  have hlen : ({ S with dr := S.dr.set i ((S.drv i).1, l, (S.drv i).2.2) } : DS).dr.length = S.dr.length := by simp
  have hil : i < zs.length := (List.getElem?_eq_some_iff.1 hz).1
  refine ⟨h.arr.fr hf (Ne.symm (cs_ne h.arr hcz (by decide))), ?_, (hf.block mb (map_lt h.map) (cs_map_ne hcz h.map)).trans h.map, own_fr h.log hf (cs_own_ne hcz h.log (by decide)), ?_, ?_, ?_, ?_⟩
  · rw [hlen, dcells_set zs i z _ hz hcell]
    exact own_fr h.drv hf (cs_own_ne hcz h.drv (by decide))
  · simp only [List.map_set, ← hx]
    rw [h.dr]
  · intro y hy
    obtain ⟨k, hk, hkl⟩ := set_mem _ _ _ _ hy
    by_cases e : k = i
    · subst e
      rw [List.getElem?_set_self hil] at hk
      injection hk with hk
      subst hk
      exact (h.now z hzm).fr hf (nodup_apart h.apart k k z z hz hz).1
    · rw [List.getElem?_set_ne (Ne.symm e)] at hk
      exact (h.now y (List.mem_of_getElem? hk)).fr hf (nodup_apart h.apart k i y z hk hz).1
  · intro y hy
    obtain ⟨k, hk, hkl⟩ := set_mem _ _ _ _ hy
    by_cases e : k = i
    · subst e
      rw [List.getElem?_set_self hil] at hk
      injection hk with hk
      subst hk
      exact hc
    · rw [List.getElem?_set_ne (Ne.symm e)] at hk
      exact (h.dur y (List.mem_of_getElem? hk)).fr hf ((nodup_apart h.apart k i y z hk hz).2 e).2
  · have := h.apart
    rwa [← apart_set zs i z ⟨z.nb, z.db, (z.x.1, l, z.x.2.2)⟩ hz rfl rfl] at this

theorem row_full (cur : Array Value) (cs : List Value) (h : cs.length = cur.size) : (cur.toList.take 0 ++ (cs ++ cur.toList.drop (0 + cs.length))).toArray = cs.toArray := by
  rw [List.take_zero, List.nil_append, Nat.zero_add, List.drop_of_length_le (by simp [h]), List.append_nil]

/-- Load, at a place that is right. -/
def DS.load (S : DS) (i : Nat) (l : List Nat) : DS := { S with dr := S.dr.set i (l, l, (S.drv i).2.2) }
theorem DS.Ok.load {S : DS} (h : S.Ok) (i : Nat) (l : List Nat) (hi : i < S.dr.length) (hl : l.length = (S.drv i).1.length) (hw : W64 l) (hlog : S.log = []) : (S.load i l).Ok := by
  have hm : S.drv i ∈ S.dr := by unfold DS.drv; rw [List.getElem?_eq_getElem hi]; exact List.getElem_mem _
  refine ⟨by simp [DS.load]; exact h.nd, ?_, by simp [DS.load, hlog], h.fuse, h.wr⟩
  intro x hx
  simp only [DS.load] at hx
  rcases List.mem_or_eq_of_mem_set hx with hx | rfl
  · exact h.drv x hx
  · exact ⟨hw, hw, rfl, by show l.length ≤ _; rw [hl]; exact (h.drv _ hm).2.2.2⟩

theorem load_eq (S : DS) (i : Nat) (l : List Nat) (hi : i < S.dr.length) :
    ({ ({ S with dr := S.dr.set i (l, (S.drv i).2.1, (S.drv i).2.2) } : DS) with dr := ({ S with dr := S.dr.set i (l, (S.drv i).2.1, (S.drv i).2.2) } : DS).dr.set i ((({ S with dr := S.dr.set i (l, (S.drv i).2.1, (S.drv i).2.2) } : DS).drv i).1, l, (({ S with dr := S.dr.set i (l, (S.drv i).2.1, (S.drv i).2.2) } : DS).drv i).2.2) } : DS) = S.load i l := by
  have h : ({ S with dr := S.dr.set i (l, (S.drv i).2.1, (S.drv i).2.2) } : DS).drv i = (l, (S.drv i).2.1, (S.drv i).2.2) := by
    show (S.dr.set i _)[i]?.getD _ = _
    rw [List.getElem?_set_self hi]
    rfl
  rw [h]
  simp only [DS.load, List.set_set]

def LoadP (W : World) (F : Nat → Prop) (g : Nat) (S : DS) (i : Nat) (l : List Nat) (e : Ending) (W' : World) : Prop :=
  e = .returned (.int .i64 0) ∧ DskAt W' F g (S.load i l) ∧ Fr F W W'

set_option maxRecDepth 100000 in
set_option maxHeartbeats 2000000 in
theorem aload_any (W : World) (F : Nat → Prop) (g i : Nat) (S : DS) (A : Option Addr) (c n : Nat) (l : List Nat) (h : DskAt W F g S) (hi : i < S.dr.length) (hlog : S.log = []) (hA : Reads W A (uv l)) (hn : l.length = n) (hn1 : 1 ≤ n)
    (hln : n = (S.drv i).1.length) (hw : W64 l) (hAF : ∀ b off, A = some ⟨b, off, none⟩ → ¬ F b) :
    Calls Try.prog 40 #[.pointer (some ⟨g, 0, none⟩), .int .i64 (i : Int), .slice A n c] W (LoadP W F g S i l) := by
  have hb0 := (Below.refl _ W).alloc (Nat.le_refl _) (.cells #[.int .i64 (i : Int)] 3)
  have hBX := Lib.hid (Cs.new W 3 #[.int .i64 (i : Int)])
  have hgW := h.lt.1
  obtain ⟨ho, dv, lv, mb, zs, hl, hin⟩ := h.keep hb0
  have HL := Lib.hid hl
  have HO := Lib.hid ho
  have HIN := Lib.hid hin
  have HLOG := Lib.hid hlog
  have hnd := ho.nd
  obtain ⟨b, cap, z, rfl, hcl, hz, hzm, hx, c0, c1, c2⟩ := hl.one i hi
  have hdrv := ho.drv z.x (by rw [hl.dr]; exact List.mem_map_of_mem hzm)
  have hlen : z.x.2.1.length = z.x.1.length := hdrv.2.2.1
  have hzn : z.x.1.length = n := by rw [hx, ← hln]
  have hn64 : n ≤ 65536 := by have := hdrv.2.2.2; omega
  obtain ⟨Al, cl, rfl⟩ := own_form hl.log
  obtain ⟨x0, x1, x2, x3, x4, x5⟩ := hl.cells
  have hll : S.log.length = 0 := by rw [hlog]; rfl
  rw [hll] at x2
  have HZ := Lib.hid hz
  have HX := Lib.hid hx
  have HZN := Lib.hid hzn
  have HLEN := Lib.hid hlen
  have HLN := Lib.hid hln
  rw [hlen] at c1
  rw [hzn] at c0 c1
  obtain ⟨ab, ao, rfl, hab, hac⟩ := hA.u (by omega)
  have hwl : ¬ F ab := hAF ab ao rfl
  have HN := Lib.hid hn
  have HAC := Lib.hid hac
  have HA := Lib.hid hA
  generalize hndn : S.dr.length = nd at *
  have HND := Lib.hid hndn
  generalize hms : z.x.2.2 = ms at *
  have t1 : (0 : Int) ≤ (i : Int) := by omega
  have t2 : (i : Int) < (nd : Int) := by omega
  have d1 : decide ((i : Int) < 0) = false := by simp
  have d2 : decide ((nd : Int) ≤ (i : Int)) = false := by simp; omega
  have d3 : decide (nd ≤ i) = false := by simp; omega
  have d4 : ((n : Int) != (n : Int)) = false := by simp
  have b0 : (W.alloc (.cells #[.int .i64 (i : Int)] 3)).cell? ⟨W.heap.size, 0, none⟩ = some (.int .i64 (i : Int)) := hBX.out.cell 0
  clear x1 x3 x4 x5 hl hin ho hz hzm hx hlen hdrv hzn hn hac hA hlog hll hndn hms h hln
  go_enter Try.func40, Try.ntmps40
  go_wp2_with fail
  go_quiet (fail)
  go_wp2_with fail
  have HL1 := Lib.hid (HL.out.keep (below_drewN (Below.refl _ _) nq))
  have HBX1 : Hid (Cs ((W.alloc (.cells #[.int .i64 (i : Int)] 3)).drewN nq) W.heap.size 3 #[.int .i64 (i : Int)]) := hBX.out
  have hB1 := below_drewN hb0 nq
  have y0 : ((W.alloc (.cells #[.int .i64 (i : Int)] 3)).drewN nq).cell? ⟨g, 0, none⟩ = some (.slice (some ⟨b, 0, none⟩) nd cap) := x0
  have y1 : ((W.alloc (.cells #[.int .i64 (i : Int)] 3)).drewN nq).cell? ⟨W.heap.size, 0, none⟩ = some (.int .i64 (i : Int)) := b0
  have y2 : ((W.alloc (.cells #[.int .i64 (i : Int)] 3)).drewN nq).cell? ⟨b, i * 3, none⟩ = some (.slice (some ⟨z.nb, 0, none⟩) n n) := c0
  have y3 : ((W.alloc (.cells #[.int .i64 (i : Int)] 3)).drewN nq).cell? ⟨b, i * 3 + 1, none⟩ = some (.slice (some ⟨z.db, 0, none⟩) n n) := c1
  have y4 : ((W.alloc (.cells #[.int .i64 (i : Int)] 3)).drewN nq).cell? ⟨b, i * 3 + 2, none⟩ = some (.bool ms) := c2
  clear hBX hb0 HL x0 b0 c0 c1 c2 x2
  generalize ((W.alloc _).drewN nq) = V1 at HL1 HBX1 hB1 y0 y1 y2 y3 y4 ⊢
  refine wp_region_mix 7 8 (by kernel_rfl) (by kernel_rfl) (fun w' => w'.cell? ⟨g, 0, none⟩ = some (.slice (some ⟨b, 0, none⟩) nd cap) ∧ w'.cell? ⟨W.heap.size, 0, none⟩ = some (.int .i64 (i : Int)) ∧ w'.cell? ⟨b, i * 3, none⟩ = some (.slice (some ⟨z.nb, 0, none⟩) n n) ∧ w'.cell? ⟨b, i * 3 + 1, none⟩ = some (.slice (some ⟨z.db, 0, none⟩) n n) ∧ w'.cell? ⟨b, i * 3 + 2, none⟩ = some (.bool ms)) ⟨y0, y1, y2, y3, y4⟩ ?_
  simp only [List.take_succ_cons, List.take_zero, List.drop_succ_cons, List.drop_zero]
  iterate 7
    refine ⟨?_, Or.inl ⟨by rfl, fun W' hS' => ?_⟩, fun _ _ _ h => h, ?_⟩
    rotate_left
    · obtain ⟨hs1, hs2, hs3, hs4, hs5⟩ := hS'
      go_simp
      with_reducible rfl
    simp only [Act.put, List.setIfInBounds_toArray, List.set_cons_zero, List.set_cons_succ]
  show wpSeqT _ _ _ _ _ _ _ _ _
  refine wpSeqT_step (fun K hK => ?_)
  go_simp
  refine hK _ _ (fun _ => ⟨(World.cell?_alloc_lt _ _ _ (World.block_lt_of_cell? _ _ y0)).trans y0, (World.cell?_alloc_lt _ _ _ (World.block_lt_of_cell? _ _ y1)).trans y1, (World.cell?_alloc_lt _ _ _ (World.block_lt_of_cell? _ _ y2)).trans y2, (World.cell?_alloc_lt _ _ _ (World.block_lt_of_cell? _ _ y3)).trans y3, (World.cell?_alloc_lt _ _ _ (World.block_lt_of_cell? _ _ y4)).trans y4⟩) ?_
  clear hK K
  refine wpSeqT_list _ _ _ _ (by omega) ?_
  clear y0 y2 y3 y4
  have hbl : Below V1.heap.size V1 (V1.alloc (.cells #[.slice (some ⟨z.nb, 0, none⟩) n n, .slice (some ⟨z.db, 0, none⟩) n n, .bool ms] 89)).drew := ((Below.refl _ V1).alloc (Nat.le_refl _) _).drew
  have HL2 := Lib.hid (HL1.out.keep hbl)
  have HT2 := Lib.hid ((Cs.new V1 89 #[.slice (some ⟨z.nb, 0, none⟩) n n, .slice (some ⟨z.db, 0, none⟩) n n, .bool ms]))
  have HX2 := Lib.hid (HBX1.out.below hbl HBX1.out.lt)
  have hB2 := hB1.trans (hbl.mono hB1.size)
  have hV1W : W.heap.size < V1.heap.size := HBX1.out.lt
  obtain ⟨i0, hi0, hz0, hz1, hz2⟩ := info_parts u64_info
  have hzm := List.mem_of_getElem? HZ.out
  have hgl := HIN.out.arr
  go_upto_region 6 with (fail)
  generalize hV2 : (V1.alloc (.cells #[.slice (some ⟨z.nb, 0, none⟩) n n, .slice (some ⟨z.db, 0, none⟩) n n, .bool ms] 89)).drew = V2 at HL2 HX2 hB2 ⊢
  have HT2 : Hid (Cs V2 V1.heap.size 89 #[.slice (some ⟨z.nb, 0, none⟩) n n, .slice (some ⟨z.db, 0, none⟩) n n, .bool ms]) := by rw [← hV2]; exact HT2.out
  clear hV2 hbl y1
  have hcn : V2.heap[z.nb]? = some (.cells (uv z.x.1).toArray 32 (0, 0)) := HL2.out.now z hzm
  have hln1 : z.x.1.length = (uv l).length := by rw [HZN.out, uv_length, HN.out]
  have hsrc2 : ∀ (j : Nat) v, (uv l)[j]? = some v → V2.cell? ((⟨ab, ao, none⟩ : Addr).add j) = some v := by
    intro j v hj
    have hjl : j < l.length := by rw [← uv_length]; exact (List.getElem?_eq_some_iff.1 hj).1
    rw [Addr.add_lit, hB2.cell (p := ⟨ab, ao + j, none⟩) hab, HAC.out j hjl, ← hj, uv_at l j hjl]
  have hnbF := HIN.out.now z hzm
  have hdbF := HIN.out.dur z hzm
  have habn : ab ≠ z.nb := fun e => hwl (e ▸ hnbF)
  have habd : ab ≠ z.db := fun e => hwl (e ▸ hdbF)
  obtain ⟨q0, q1, q2⟩ : V2.cell? ⟨V1.heap.size, 0, none⟩ = some (.slice (some ⟨z.nb, 0, none⟩) n n) ∧ V2.cell? ⟨V1.heap.size, 1, none⟩ = some (.slice (some ⟨z.db, 0, none⟩) n n) ∧ V2.cell? ⟨V1.heap.size, 2, none⟩ = some (.bool ms) := ⟨HT2.out.cell 0, HT2.out.cell 1, HT2.out.cell 2⟩
  clear q2
  have hcs : (uv l).length = Nat.min n n := by rw [uv_length, HN.out]; exact (Nat.min_self n).symm
  have hfit : 0 + (uv l).length ≤ (uv z.x.1).toArray.size := by rw [List.size_toArray, uv_length z.x.1, ← hln1]; omega
  have hfull : (uv l).length = (uv z.x.1).toArray.size := by rw [List.size_toArray, uv_length z.x.1, ← hln1]
  have hone : (Try.prog.info? 32).map (·.size) = some 1 := by rw [hi0, Option.map_some, hz1]
  -- behind the first copy
  have hne2 : V1.heap.size ≠ z.nb := Ne.symm (cs_ne HT2.out hcn (by decide))
  have HL3 := Lib.hid (HL2.out.now_fr i z HZ.out l (by rw [HN.out, HZN.out]) (fr_row V2 z.nb (uv l).toArray) (setRow_heap V2 z.nb _ _ _ _ hcn))
  have HT3 := Lib.hid (HT2.out.fr (fr_row V2 z.nb (uv l).toArray) hne2)
  have HX3 := Lib.hid (HX2.out.fr (fr_row V2 z.nb (uv l).toArray) (fun e => by have := cs_ne HX2.out hcn (by decide); omega))
  have hq1 : (V2.setRow z.nb (uv l).toArray).cell? ⟨V1.heap.size, 1, none⟩ = some (.slice (some ⟨z.db, 0, none⟩) n n) := HT3.out.cell 1
  have hil : i < zs.length := (List.getElem?_eq_some_iff.1 HZ.out).1
  have hz3 : (zs.set i ⟨z.nb, z.db, (l, z.x.2.1, z.x.2.2)⟩)[i]? = some ⟨z.nb, z.db, (l, z.x.2.1, z.x.2.2)⟩ := List.getElem?_set_self hil
  have HZ3 := Lib.hid hz3
  have hcd : (V2.setRow z.nb (uv l).toArray).heap[z.db]? = some (.cells (uv z.x.2.1).toArray 32 (0, 0)) := HL3.out.dur ⟨z.nb, z.db, (l, z.x.2.1, z.x.2.2)⟩ (List.mem_of_getElem? hz3)
  have hsrc3 : ∀ (j : Nat) v, (uv l)[j]? = some v → (V2.setRow z.nb (uv l).toArray).cell? ((⟨ab, ao, none⟩ : Addr).add j) = some v := by
    intro j v hj
    rw [← hsrc2 j v hj, Addr.add_lit]
    exact (fr_row V2 z.nb (uv l).toArray).cell (b := ab) (Nat.lt_of_lt_of_le hab hB2.size) habn
  have hln2 : z.x.2.1.length = (uv l).length := by rw [HLEN.out, HZN.out, uv_length, HN.out]
  have hfit2 : 0 + (uv l).length ≤ (uv z.x.2.1).toArray.size := by rw [List.size_toArray, uv_length z.x.2.1, ← hln2]; omega
  have hfull2 : (uv l).length = (uv z.x.2.1).toArray.size := by rw [List.size_toArray, uv_length z.x.2.1, ← hln2]
  -- behind the second
  have hne3 : V1.heap.size ≠ z.db := Ne.symm (cs_ne HT3.out hcd (by decide))
  have hL4 := HL3.out.dur_fr i _ HZ3.out l (by show l.length = z.x.2.1.length; rw [HN.out, HLEN.out, HZN.out]) (fr_row _ z.db (uv l).toArray) (setRow_heap _ z.db _ _ _ _ hcd)
  rw [load_eq S i l (by rw [HND.out]; exact hi)] at hL4
  rw [show S.log.length = 0 by rw [HLOG.out]; rfl] at hL4
  have HX4 := Lib.hid (HX3.out.fr (fr_row _ z.db (uv l).toArray) (fun e => by have := cs_ne HX3.out hcd (by decide); omega))
  have HL4 := Lib.hid hL4
  have hlg4 : (S.load i l).log.length = 0 := by show S.log.length = 0; rw [HLOG.out]; rfl
  have x42 := hL4.cells.2.2.1
  have f42 : ((V2.setRow z.nb (uv l).toArray).setRow z.db (uv l).toArray).frozen? ⟨g, 2, none⟩ = false := hL4.arr.free 2
  have hFr4 : Fr F W ((V2.setRow z.nb (uv l).toArray).setRow z.db (uv l).toArray) := ((Fr.of_below hB2).trans ((fr_row V2 z.nb (uv l).toArray).mono (fun j _ e => e ▸ hnbF))).trans ((fr_row _ z.db (uv l).toArray).mono (fun j _ e => e ▸ hdbF))
  have hIn4 := (HIN.out.setz i z ⟨z.nb, z.db, (l, z.x.2.1, z.x.2.2)⟩ HZ.out rfl rfl).setz i _ ⟨z.nb, z.db, (l, l, z.x.2.2)⟩ HZ3.out rfl rfl
  rw [show S.log.length = 0 by rw [HLOG.out]; rfl] at hIn4
  have HIN4 := Lib.hid hIn4
  have HF4 := Lib.hid hFr4
  have hlog4 := hL4.log
  have HLG := Lib.hid hlog4
  have HLL : Hid (S.log.length = 0) := by show _ = _; rw [HLOG.out]; rfl
  clear hz3 hL4 hIn4 hFr4 hlog4 hlg4
  go_wp2_with (first | ((with_reducible refine wpList_copy_own (o := ⟨some 36, _, _, _, _, _⟩) rfl (.tmp 34) (.tmp 35) 30 30 rfl 32 Try.underlying30 hone z.nb 0 n n ⟨ab, ao, none⟩ n c rfl rfl (uv z.x.1).toArray 32 hcn (uv l) hcs hsrc2 hfit (uv_one l) ?_); rw [row_full _ _ hfull]) | ((with_reducible refine wpList_copy_own (o := ⟨some 40, _, _, _, _, _⟩) rfl (.tmp 38) (.tmp 39) 30 30 rfl 32 Try.underlying30 hone z.db 0 n n ⟨ab, ao, none⟩ n c rfl rfl (uv z.x.2.1).toArray 32 hcd (uv l) hcs hsrc3 hfit2 (uv_one l) ?_); rw [row_full _ _ hfull2]))
  refine (delfunc_nil _ Al cl _).mono ?_
  rintro e w' ⟨rfl, rfl⟩
  clear hcn hcs hsrc2 hfit hfull hcd hsrc3 hfit2 hfull2 hq1 q0 q1 HT2 HT3 HX2 HX3 HL2 HL3 HL1 HBX1
  have HL5 := Lib.hid (HL4.out.log_set (l' := (S.load i l).log) (World.grownBy.refl _ _) HLG.out).1
  have HX5 := Lib.hid (HX4.out.fr (fr_set _ g 2 (.slice Al 0 cl)) (by show ¬ _ = _; omega))
  have HF5 := Lib.hid (HF4.out.set (b := g) (i := 2) (.inl hgl) (.slice Al 0 cl))
  generalize ((V2.setRow z.nb (uv l).toArray).setRow z.db (uv l).toArray) = V4 at HL4 HX4 x42 f42 HF4 HLG HL5 HX5 HF5 ⊢
  go_wp2_with fail
  clear x42 f42 HL4 HX4 HF4 HLG
  generalize (V4.setCell _ _) = V5 at HL5 HX5 HF5 ⊢
  go_loopw [52] (fun s wr => ∃ k q : Nat, k ≤ n ∧ s = .int .i64 k ∧ wr = V5.drewN q) (fun s _ => n - (intOf s).toNat)
  case atStart => exact ⟨0, 0, Nat.zero_le _, rfl, rfl⟩
  case round =>
    obtain ⟨k, q, hk, rfl, rfl⟩ := hrel
    by_cases hlt : k < n
    · have t5 : (k : Int) < (n : Int) := by omega
      have y1 : (V5.drewN q).cell? ⟨g, 1, none⟩ = some (.map (some mb)) := HL5.out.cells.2.1
      have y2 : (V5.drewN q).cell? ⟨W.heap.size, 0, none⟩ = some (.int .i64 (i : Int)) := HX5.out.cell 0
      have hdel := fun ty => run_bad_delete (V5.drewN (q + 1)) mb (i : Int) (k : Int) HL5.out.map ty
      go_wp2_with fail
      refine wp_region_mix 7 7 (by kernel_rfl) (by kernel_rfl) (fun w' => w'.cell? ⟨g, 1, none⟩ = some (.map (some mb)) ∧ w'.cell? ⟨W.heap.size, 0, none⟩ = some (.int .i64 (i : Int))) ⟨y1, y2⟩ ?_
      simp only [List.take_succ_cons, List.take_zero, List.drop_succ_cons, List.drop_zero]
      iterate 7
        refine ⟨?_, Or.inl ⟨by rfl, fun W' hS' => ?_⟩, fun _ _ _ h => h, ?_⟩
        rotate_left
        · obtain ⟨hs1, hs2⟩ := hS'
          go_simp
          with_reducible rfl
        simp only [Act.put, List.setIfInBounds_toArray, List.set_cons_zero, List.set_cons_succ]
      show wpSeqT _ _ _ _ _ _ _ _ _
      refine wpSeqT_list _ _ _ _ (by omega) ?_
      go_wp2_with fail
      go_roundw
      case rel => exact ⟨k + 1, q + 1, by omega, by go_num, rfl⟩
      case measure => simp [intOf]; omega
    · obtain hkn : k = n := by omega
      subst hkn
      have hok := HO.out.load i l (by rw [HND.out]; exact hi) (by rw [HN.out, ← HLN.out]) hw HLOG.out
      have HL6 := Lib.hid (HL5.out.keep (below_drewN (Below.refl _ _) q))
      have HF6 := Lib.hid (HF5.out.drewN q)
      go_wp2_with fail
      go_ret
      exact ⟨rfl, ⟨hok, _, _, mb, _, HL6.out, HIN4.out⟩, HF6.out⟩

end Go.Proofs.Ytpcjdmbnlhjlaaa

namespace Go.Proofs.Ytpcjdmbnlhjlaaa
set_option linter.unusedVariables false
open Go.RowKit
attribute [local go_sem] Oper.semAt_some

theorem acount_any (W : World) (F : Nat → Prop) (g : Nat) (S : DS) (h : DskAt W F g S) :
    Calls Try.prog 41 #[.pointer (some ⟨g, 0, none⟩)] W fun e w' => e = .returned (.int .i64 (S.dr.length : Int)) ∧ W = w' := by
  obtain ⟨ho, dv, lv, mb, zs, hl, hi⟩ := h
  obtain ⟨x0, x1, x2, x3, x4, x5⟩ := hl.cells
  obtain ⟨A, c, rfl⟩ := own_form hl.drv
  clear x1 x2 x3 x4 x5 hl hi ho
  generalize S.dr.length = n at *
  go_enter Try.func41, Try.ntmps41
  go_wp2_with fail
  go_ret
  exact ⟨rfl, rfl⟩

/-- The sectors of a disk, at a place that is right. -/
theorem image_any (W : World) (F : Nat → Prop) (g i : Nat) (S : DS) (h : DskAt W F g S) (hi : i < S.dr.length) :
    Calls Try.prog 21 #[.pointer (some ⟨g, 0, none⟩), .int .i64 (i : Int)] W fun e w' => ∃ v, e = .returned (.tuple #[v, .int .i64 0]) ∧ w'.ownsRow W.heap.size 32 1 v (S.drv i).1.length (uv (S.drv i).1) ∧ Below W.heap.size W w' := by
  obtain ⟨ho, dv, lv, mb, zs, hl, hin⟩ := h
  obtain ⟨x0, x1, x2, x3, x4, x5⟩ := hl.cells
  obtain ⟨b, cap, z, rfl, hcl, hz, hzm, hx, c0, c1, c2⟩ := hl.one i hi
  have hdrv := ho.drv z.x (by rw [hl.dr]; exact List.mem_map_of_mem hzm)
  have hcn := hl.now z hzm
  have hnd := ho.nd
  rw [hx] at hcn c0 hdrv
  have hR : Reads W (some ⟨z.nb, 0, none⟩) (uv (S.drv i).1) := by
    intro hz0
    exact ⟨z.nb, 0, rfl, hcn.lt, fun j v hj => by rw [Nat.zero_add, hcn.cell j, List.getElem?_toArray]; exact hj⟩
  have HR := Lib.hid hR
  have hln := hdrv.2.2.2
  have t1 : (0 : Int) ≤ (i : Int) := by omega
  have t2 : (i : Int) < (S.dr.length : Int) := by omega
  clear x1 x2 x3 x4 x5 hl hin ho hz hzm hx c1 c2 hdrv hcn hR
  generalize S.dr.length = nd at *
  go_enter Try.func21, Try.ntmps21
  go_wp2_with fail
  refine (clone_any _ _ (S.drv i).1 W HR.out (by omega)).mono ?_
  rintro e w' ⟨v, rfl, ho, hb⟩
  have HO := Lib.hid ho
  clear ho
  go_wp2_with fail
  go_ret2
  exact ⟨v, rfl, HO.out, hb⟩

/-- A span of a disk, whose whole it is. -/
def SpanAt (W : World) (sp g i n : Nat) : Prop := Cs W sp 116 #[.pointer (some ⟨g, 0, none⟩), .int .i64 (i : Int), .int .i64 0, .int .i64 (n : Int)]
def spanV (sp : Nat) : Value := .iface 114 (.pointer (some ⟨sp, 0, none⟩))

def insB (n a k : Int) : Bool := decide (0 ≤ a ∧ a ≤ n ∧ 0 ≤ k ∧ k ≤ n - a)
theorem inside_any (n a k : Int) (W : World) (h1 : 0 ≤ n) (h2 : n ≤ 100000000) : Calls Try.prog 51 #[.int .i64 n, .int .i64 a, .int .i64 k] W fun e w' => e = .returned (.bool (insB n a k)) ∧ W = w' := by
  by_cases q1 : 0 ≤ a
  · by_cases q2 : a ≤ n
    · by_cases q3 : 0 ≤ k
      · by_cases q4 : k ≤ n - a
        · have HI : Hid (insB n a k = true) := by show _ = _; unfold insB; simp; omega
          go_enter Try.func51, Try.ntmps51
          go_wp2
          go_ret
          exact ⟨by rw [HI.out]; rfl, rfl⟩
        · have HI : Hid (insB n a k = false) := by show _ = _; unfold insB; simp; omega
          have q5 : ¬ k ≤ n - a := q4
          go_enter Try.func51, Try.ntmps51
          go_wp2
          go_ret
          exact ⟨by rw [HI.out]; rfl, rfl⟩
      · have HI : Hid (insB n a k = false) := by show _ = _; unfold insB; simp; omega
        go_enter Try.func51, Try.ntmps51
        go_wp2
        go_ret
        exact ⟨by rw [HI.out]; rfl, rfl⟩
    · have HI : Hid (insB n a k = false) := by show _ = _; unfold insB; simp; omega
      go_enter Try.func51, Try.ntmps51
      go_wp2
      go_ret
      exact ⟨by rw [HI.out]; rfl, rfl⟩
  · have HI : Hid (insB n a k = false) := by show _ = _; unfold insB; simp; omega
    go_enter Try.func51, Try.ntmps51
    go_wp2
    go_ret
    exact ⟨by rw [HI.out]; rfl, rfl⟩

theorem ssize_any (W : World) (sp g i n : Nat) (h : SpanAt W sp g i n) : Calls Try.prog 92 #[.pointer (some ⟨sp, 0, none⟩)] W fun e w' => e = .returned (.int .i64 (n : Int)) ∧ W = w' := by
  have c3 : W.cell? ⟨sp, 3, none⟩ = some (.int .i64 (n : Int)) := Cs.cell h 3
  go_enter Try.func92, Try.ntmps92
  go_wp2
  go_ret
  exact ⟨rfl, rfl⟩

end Go.Proofs.Ytpcjdmbnlhjlaaa

namespace Go.Proofs.Ytpcjdmbnlhjlaaa
set_option linter.unusedVariables false
open Go.RowKit
attribute [local go_sem] Oper.semAt_some

theorem insB_one (n a : Int) : insB n a 1 = decide (0 ≤ a ∧ a < n) := by
  unfold insB
  rw [decide_eq_decide]
  omega

def DS.sE (S : DS) (i n : Nat) (a : Int) : Int := if 0 ≤ a ∧ a < (n : Int) then S.chk (i : Int) a else 1
def DS.sread (S : DS) (i n : Nat) (a : Int) : Nat := if 0 ≤ a ∧ a < (n : Int) then S.read (i : Int) a else 0
def DS.swE (S : DS) (i n : Nat) (a : Int) : Int := if 0 ≤ a ∧ a < (n : Int) then S.writeE (i : Int) a else 1
def DS.swrite (S : DS) (i n : Nat) (a : Int) (v : Nat) : DS := if 0 ≤ a ∧ a < (n : Int) then S.write (i : Int) a v else S

theorem SpanAt.cells {W : World} {sp g i n : Nat} (h : SpanAt W sp g i n) : W.cell? ⟨sp, 0, none⟩ = some (.pointer (some ⟨g, 0, none⟩)) ∧ W.cell? ⟨sp, 1, none⟩ = some (.int .i64 (i : Int)) ∧ W.cell? ⟨sp, 2, none⟩ = some (.int .i64 0) ∧ W.cell? ⟨sp, 3, none⟩ = some (.int .i64 (n : Int)) :=
  ⟨Cs.cell h 0, Cs.cell h 1, Cs.cell h 2, Cs.cell h 3⟩

set_option maxRecDepth 100000 in
set_option maxHeartbeats 1000000 in
theorem sread_any (W : World) (F : Nat → Prop) (g sp i n : Nat) (S : DS) (a : Int) (h : DskAt W F g S) (hs : SpanAt W sp g i n) (hn : n ≤ 65536) :
    Calls Try.prog 91 #[.pointer (some ⟨sp, 0, none⟩), .int .i64 a] W fun e w' => e = .returned (.tuple #[.int .u64 (S.sread i n a : Int), .int .i64 (S.sE i n a)]) ∧ Below W.heap.size W w' := by
  obtain ⟨x0, x1, x2, x3⟩ := hs.cells
  have HD := Lib.hid h
  by_cases hin : 0 ≤ a ∧ a < (n : Int)
  · have HI : Hid (insB (n : Int) a 1 = true) := by show _ = _; rw [insB_one]; exact decide_eq_true hin
    have HE : Hid (S.sE i n a = S.chk (i : Int) a) := by show _ = _; unfold DS.sE; rw [if_pos hin]
    have HR : Hid (S.sread i n a = S.read (i : Int) a) := by show _ = _; unfold DS.sread; rw [if_pos hin]
    have e0 : (0 : Int) + a = a := by omega
    have e2 : IntKind.i64.wrap a = a := IntWalk.i64_in _ (by omega)
    clear e0
    go_enter Try.func91, Try.ntmps91
    go_wp2_with fail
    refine (inside_any (n : Int) a 1 W (by omega) (by omega)).mono ?_
    rintro e w' ⟨rfl, rfl⟩
    rw [HI.out]
    go_wp2_with fail
    go_region_held3 (fun w' => w'.cell? ⟨sp, 0, none⟩ = some (.pointer (some ⟨g, 0, none⟩)) ∧ w'.cell? ⟨sp, 1, none⟩ = some (.int .i64 (i : Int)) ∧ w'.cell? ⟨sp, 2, none⟩ = some (.int .i64 0))
      (first | exact y1 | exact ⟨x0, x1, x2⟩)
      ((go_at_call 75; refine (aread_any W.drew F g S (i : Int) a HD.out.drew).mono ?_; rintro e w1 ⟨rfl, hb1⟩; have y1 : w1.cell? ⟨sp, 0, none⟩ = some (.pointer (some ⟨g, 0, none⟩)) ∧ w1.cell? ⟨sp, 1, none⟩ = some (.int .i64 (i : Int)) ∧ w1.cell? ⟨sp, 2, none⟩ = some (.int .i64 0) := ⟨(hb1.cell (p := ⟨sp, 0, none⟩) (Cs.lt hs)).trans x0, (hb1.cell (p := ⟨sp, 1, none⟩) (Cs.lt hs)).trans x1, (hb1.cell (p := ⟨sp, 2, none⟩) (Cs.lt hs)).trans x2⟩))
    go_wp2_with fail
    go_ret2
    exact ⟨by rw [HE.out, HR.out]; rfl, (Below.refl W.heap.size W).drew.trans hb1⟩
  · have HI : Hid (insB (n : Int) a 1 = false) := by show _ = _; rw [insB_one]; exact decide_eq_false hin
    have HE : Hid (S.sE i n a = 1) := by show _ = _; unfold DS.sE; rw [if_neg hin]
    have HR : Hid (S.sread i n a = 0) := by show _ = _; unfold DS.sread; rw [if_neg hin]
    go_enter Try.func91, Try.ntmps91
    go_wp2_with fail
    refine (inside_any (n : Int) a 1 W (by omega) (by omega)).mono ?_
    rintro e w' ⟨rfl, rfl⟩
    rw [HI.out]
    go_wp2_with fail
    go_ret2
    exact ⟨by rw [HE.out, HR.out]; rfl, Below.refl _ _⟩

def SWriteP (W : World) (F : Nat → Prop) (g i n : Nat) (S : DS) (a : Int) (v : Nat) (e : Ending) (W' : World) : Prop :=
  e = .returned (.int .i64 (S.swE i n a)) ∧ ∃ F', DskAt W' F' g (S.swrite i n a v) ∧ Turn F F' W W'

set_option maxRecDepth 100000 in
set_option maxHeartbeats 1000000 in
theorem swrite_any (W : World) (F : Nat → Prop) (g sp i n : Nat) (S : DS) (a : Int) (v : Nat) (h : DskAt W F g S) (hs : SpanAt W sp g i n) (hsp : ¬ F sp) (hn : n ≤ 65536) (hv : v < 18446744073709551616) (hlog : S.log.length ≤ 1000000) (hwr : S.wr ≤ 1000000000) :
    Calls Try.prog 93 #[.pointer (some ⟨sp, 0, none⟩), .int .i64 a, .int .u64 (v : Int)] W (SWriteP W F g i n S a v) := by
  obtain ⟨x0, x1, x2, x3⟩ := hs.cells
  have HD := Lib.hid h
  by_cases hin : 0 ≤ a ∧ a < (n : Int)
  · have HI : Hid (insB (n : Int) a 1 = true) := by show _ = _; rw [insB_one]; exact decide_eq_true hin
    have HE : Hid (S.swE i n a = S.writeE (i : Int) a) := by show _ = _; unfold DS.swE; rw [if_pos hin]
    have HR : Hid (S.swrite i n a v = S.write (i : Int) a v) := by show _ = _; unfold DS.swrite; rw [if_pos hin]
    have e0 : (0 : Int) + a = a := by omega
    have e2 : IntKind.i64.wrap a = a := IntWalk.i64_in _ (by omega)
    clear e0
    go_enter Try.func93, Try.ntmps93
    go_wp2_with fail
    refine (inside_any (n : Int) a 1 W (by omega) (by omega)).mono ?_
    rintro e w' ⟨rfl, rfl⟩
    rw [HI.out]
    go_wp2_with fail
    go_region_held3 (fun w' => w'.cell? ⟨sp, 0, none⟩ = some (.pointer (some ⟨g, 0, none⟩)) ∧ w'.cell? ⟨sp, 1, none⟩ = some (.int .i64 (i : Int)) ∧ w'.cell? ⟨sp, 2, none⟩ = some (.int .i64 0))
      (first | exact y1 | exact ⟨x0, x1, x2⟩)
      ((go_at_call 76; refine (awrite_any W.drew F g S (i : Int) a v HD.out.drew hv hlog hwr).mono ?_; rintro e w1 ⟨rfl, F', hd1, ht1⟩; have y1 : w1.cell? ⟨sp, 0, none⟩ = some (.pointer (some ⟨g, 0, none⟩)) ∧ w1.cell? ⟨sp, 1, none⟩ = some (.int .i64 (i : Int)) ∧ w1.cell? ⟨sp, 2, none⟩ = some (.int .i64 0) := ⟨(ht1.1.cell (b := sp) (Cs.lt hs) hsp).trans x0, (ht1.1.cell (b := sp) (Cs.lt hs) hsp).trans x1, (ht1.1.cell (b := sp) (Cs.lt hs) hsp).trans x2⟩))
    go_wp2_with fail
    go_ret
    exact ⟨by rw [HE.out]; rfl, F', by rw [HR.out]; exact hd1, ht1.1.undrew, ht1.2⟩
  · have HI : Hid (insB (n : Int) a 1 = false) := by show _ = _; rw [insB_one]; exact decide_eq_false hin
    have HE : Hid (S.swE i n a = 1) := by show _ = _; unfold DS.swE; rw [if_neg hin]
    have HR : Hid (S.swrite i n a v = S) := by show _ = _; unfold DS.swrite; rw [if_neg hin]
    go_enter Try.func93, Try.ntmps93
    go_wp2_with fail
    refine (inside_any (n : Int) a 1 W (by omega) (by omega)).mono ?_
    rintro e w' ⟨rfl, rfl⟩
    rw [HI.out]
    go_wp2_with fail
    go_ret
    exact ⟨by rw [HE.out]; rfl, F, by rw [HR.out]; exact HD.out, Turn.refl _ _⟩

set_option maxRecDepth 100000 in
set_option maxHeartbeats 1000000 in
theorem sflush_any (W : World) (F : Nat → Prop) (g sp i n : Nat) (S : DS) (h : DskAt W F g S) (hs : SpanAt W sp g i n) (hsp : ¬ F sp) (hlog : S.log.length ≤ 1000000) :
    Calls Try.prog 90 #[.pointer (some ⟨sp, 0, none⟩)] W (FlushP W F g S (i : Int)) := by
  obtain ⟨x0, x1, x2, x3⟩ := hs.cells
  have HD := Lib.hid h
  go_enter Try.func90, Try.ntmps90
  go_wp2_with fail
  go_region_held3 (fun w' => w'.cell? ⟨sp, 0, none⟩ = some (.pointer (some ⟨g, 0, none⟩)) ∧ w'.cell? ⟨sp, 1, none⟩ = some (.int .i64 (i : Int)))
    (first | exact y1 | exact ⟨x0, x1⟩)
    ((go_at_call 74; refine (aflush_any W.drew F g S (i : Int) HD.out.drew hlog).mono ?_; rintro e w1 ⟨rfl, F', hd1, ht1⟩; have y1 : w1.cell? ⟨sp, 0, none⟩ = some (.pointer (some ⟨g, 0, none⟩)) ∧ w1.cell? ⟨sp, 1, none⟩ = some (.int .i64 (i : Int)) := ⟨(ht1.1.cell (b := sp) (Cs.lt hs) hsp).trans x0, (ht1.1.cell (b := sp) (Cs.lt hs) hsp).trans x1⟩))
  go_wp2_with fail
  go_ret
  exact ⟨rfl, F', hd1, ht1.1.undrew, ht1.2⟩

/-- Span, of a whole disk. -/
theorem span_any (W : World) (F : Nat → Prop) (g i : Nat) (S : DS) (h : DskAt W F g S) (hi : i < S.dr.length) (h1 : 1 ≤ (S.drv i).1.length) :
    Calls Try.prog 42 #[.pointer (some ⟨g, 0, none⟩), .int .i64 (i : Int), .int .i64 0, .int .i64 ((S.drv i).1.length : Int)] W fun e w' =>
      ∃ sp, e = .returned (.tuple #[spanV sp, .int .i64 0]) ∧ SpanAt w' sp g i (S.drv i).1.length ∧ W.heap.size ≤ sp ∧ Below W.heap.size W w' := by
  have hS : S.size (i : Int) = (S.drv i).1.length := by unfold DS.size; rw [if_neg (by omega)]; rfl
  have hm : S.drv i ∈ S.dr := by unfold DS.drv; rw [List.getElem?_eq_getElem hi]; exact List.getElem_mem _
  have hle := (h.1.drv _ hm).2.2.2
  have HS := Lib.hid hS
  have HD := Lib.hid h
  generalize (S.drv i).1.length = n at *
  have HI : Hid (insB (n : Int) 0 (n : Int) = true) := by show _ = _; unfold insB; exact decide_eq_true (by omega)
  have t1 : ¬ (n : Int) < 1 := by omega
  clear hS hm h
  go_enter Try.func42, Try.ntmps42
  go_wp2_with fail
  refine (asize_any W F g S (i : Int) HD.out).mono ?_
  rintro e w1 ⟨rfl, q, rfl⟩
  rw [HS.out]
  go_wp2_with fail
  refine (inside_any (n : Int) 0 (n : Int) _ (by omega) (by omega)).mono ?_
  rintro e w' ⟨rfl, rfl⟩
  rw [HI.out]
  go_wp2_with fail
  go_ret2
  exact ⟨W.heap.size, rfl, Cs.new (W.drewN q) _ _, Nat.le_refl _, (below_drewN (Below.refl _ _) q).alloc (Nat.le_refl _) _⟩

end Go.Proofs.Ytpcjdmbnlhjlaaa

namespace Go.Proofs.Ytpcjdmbnlhjlaaa
set_option linter.unusedVariables false
open Go.RowKit
attribute [local go_sem] Oper.semAt_some

/-- An image of a disk, in memory. -/
structure Im where
  A : Option Addr
  c : Nat
  l : List Nat
def Im.v (p : Im) : Value := .slice p.A p.l.length p.c
def full (l : List Nat) : List Nat × List Nat × Bool := (l, l, false)
def DS.full (ls : List (List Nat)) : DS := ⟨ls.map Proofs.Ytpcjdmbnlhjlaaa.full, [], 0, false, 0⟩
/-- The first k disks are loaded. -/
def DS.half (ls : List (List Nat)) (k : Nat) : DS := ⟨(ls.take k).map Proofs.Ytpcjdmbnlhjlaaa.full ++ (ls.drop k).map (fun l => zd l.length), [], 0, false, 0⟩

theorem half_zero (ls : List (List Nat)) : DS.half ls 0 = DS.fresh (ls.map List.length) := by simp [DS.half, DS.fresh, Function.comp_def]
theorem half_full (ls : List (List Nat)) : DS.half ls ls.length = DS.full ls := by simp [DS.half, DS.full]
theorem half_len (ls : List (List Nat)) (k : Nat) (hk : k ≤ ls.length) : (DS.half ls k).dr.length = ls.length := by simp [DS.half]; omega
theorem half_drv (ls : List (List Nat)) (k : Nat) (l : List Nat) (h : ls[k]? = some l) : (DS.half ls k).drv k = zd l.length := by
  obtain ⟨hk, e⟩ := List.getElem?_eq_some_iff.1 h
  show ((ls.take k).map _ ++ (ls.drop k).map _)[k]?.getD _ = _
  rw [List.getElem?_append_right (by simp; omega), List.length_map, List.length_take, Nat.min_eq_left (by omega), Nat.sub_self, List.getElem?_map, List.getElem?_drop, Nat.add_zero, h]
  rfl
theorem half_step (ls : List (List Nat)) (k : Nat) (l : List Nat) (h : ls[k]? = some l) : (DS.half ls k).load k l = DS.half ls (k + 1) := by
  obtain ⟨hk, e⟩ := List.getElem?_eq_some_iff.1 h
  have hd : ls.drop k = l :: ls.drop (k + 1) := by rw [List.drop_eq_getElem_cons hk, e]
  have hset : (DS.half ls k).dr.set k (Proofs.Ytpcjdmbnlhjlaaa.full l) = (DS.half ls (k + 1)).dr := by
    show ((ls.take k).map _ ++ (ls.drop k).map _).set k _ = (ls.take (k + 1)).map _ ++ (ls.drop (k + 1)).map _
    rw [List.set_append_right _ _ (by simp; omega), List.length_map, List.length_take, Nat.min_eq_left (by omega), Nat.sub_self, hd, take_snoc' ls k l h]
    simp
  unfold DS.load
  rw [half_drv ls k l h]
  show ({ DS.half ls k with dr := (DS.half ls k).dr.set k (l, l, false) } : DS) = _
  rw [show (l, l, false) = Proofs.Ytpcjdmbnlhjlaaa.full l from rfl, hset]
  rfl

def LoadedP (W : World) (ls : List (List Nat)) (e : Ending) (W' : World) : Prop :=
  ∃ g, e = .returned (.pointer (some ⟨g, 0, none⟩)) ∧ DskAt W' (fun j => W.heap.size ≤ j) g (DS.full ls) ∧ Below W.heap.size W W'

set_option maxRecDepth 100000 in
set_option maxHeartbeats 2000000 in
theorem loaded_any (W : World) (gb cb N : Nat) (ims : List Im) (hG : Cs W gb 30 (ims.map Im.v).toArray) (hN : ims.length = N) (h8 : N ≤ 8) (hR : ∀ p ∈ ims, Reads W p.A (uv p.l)) (hl : ∀ p ∈ ims, 1 ≤ p.l.length ∧ p.l.length ≤ 65536 ∧ W64 p.l) :
    Calls Try.prog 26 #[.slice (some ⟨gb, 0, none⟩) N cb] W (LoadedP W (ims.map Im.l)) := by
  have HN := Lib.hid hN
  have HG := Lib.hid hG
  have HR := Lib.hid hR
  have HLL := Lib.hid hl
  obtain ⟨i1, hi1, hy0, hy1, hy2⟩ := info_parts int_info
  clear hN hG hR hl
  go_enter Try.func26, Try.ntmps26
  go_wp2_with fail
  go_loopw [3, 4] (fun s3 s4 wr => ∃ (k : Nat) (v3 : Value), k ≤ N ∧ s3 = v3 ∧ s4 = .int .i64 k ∧ wr.ownsRow W.heap.size 3 1 v3 k (iv ((ims.take k).map fun p => Int.ofNat p.l.length)) ∧ Below W.heap.size W wr) (fun _ s4 _ => N - (intOf s4).toNat)
  case atStart => exact ⟨0, _, Nat.zero_le _, rfl, rfl, World.ownsRow_nil _ _ _ _, Below.refl _ _⟩
  case round =>
    obtain ⟨k, v3, hk, rfl, rfl, hown, hb⟩ := hrel
    by_cases hlt : k < N
    · obtain ⟨p, hp⟩ : ∃ p, ims[k]? = some p := ⟨_, List.getElem?_eq_getElem (by rw [HN.out]; exact hlt)⟩
      have hc := (HG.out.below hb HG.out.lt).cell k
      rw [List.getElem?_toArray, List.getElem?_map, hp] at hc
      change wr.cell? _ = some (.slice p.A p.l.length p.c) at hc
      have hpl := HLL.out p (List.mem_of_getElem? hp)
      have HO := Lib.hid hown
      have hbs := hb.size
      have HTK : Hid (iv ((ims.take (k + 1)).map fun p => Int.ofNat p.l.length) = iv ((ims.take k).map fun p => Int.ofNat p.l.length) ++ [.int .i64 (p.l.length : Int)]) := by
        show _ = _
        rw [take_snoc' ims k p hp, List.map_append, iv_append]
        rfl
      obtain ⟨A3, c3, hv3⟩ := own_form hown
      subst hv3
      have t1 : (k : Int) < (N : Int) := by omega
      generalize p.l.length = n at *
      clear hp hown
      go_wp2_with (at_builtin; refine wpList_append_reads _ (by rfl) _ _ _ (by rfl) W.heap.size 3 i1 _ 1 8 Try.underlying22 hi1 hy0 hy1 hy2 rfl (by omega) (.slice A3 k c3) k _ (by rfl) (HO.out.alloc _) (some ⟨wr.heap.size, 0, none⟩) 1 1 [.int .i64 (n : Int)] (by rfl) (by rfl) (Reads.new _ _ _) (by simp [Value.oneCell']) (by simp only [maxLen]; omega) (by omega) (by simp; omega) ?_; intro v5 w5 hown5 hg5 hat5)
      have HB5 := Lib.hid (hb.trans (app_below HO.out hg5 hbs))
      rw [← HTK.out] at hown5
      have HO5 := Lib.hid hown5
      clear hown5 hg5 hat5
      go_roundw
      case rel => exact ⟨k + 1, v5, by omega, rfl, by go_num, HO5.out, HB5.out⟩
      case measure => simp [intOf]; omega
    · have hkn : k = N := by omega
      subst hkn
      have htk : ims.take k = ims := by rw [← HN.out]; exact List.take_length
      rw [htk] at hown
      obtain ⟨A3, c3, hv3⟩ := own_form hown
      subst hv3
      have hsz : (ims.map fun p => Int.ofNat p.l.length) = ((ims.map Im.l).map List.length).map (Int.ofNat ·) := by simp [Function.comp_def]
      rw [hsz] at hown
      have HO := Lib.hid hown
      have HNs : Hid (((ims.map Im.l).map List.length).length = k) := by show _ = _; rw [List.length_map, List.length_map]; exact HN.out
      have HLn : ∀ n ∈ (ims.map Im.l).map List.length, 1 ≤ n ∧ n ≤ 65536 := by
        intro n hn
        obtain ⟨q, hq, rfl⟩ := List.mem_map.1 hn
        obtain ⟨p, hp, rfl⟩ := List.mem_map.1 hq
        exact ⟨(HLL.out p hp).1, (HLL.out p hp).2.1⟩
      have HLn := Lib.hid HLn
      clear hown htk hsz
      go_wp2_with fail
      refine (dnew_any wr A3 k c3 ((ims.map Im.l).map List.length) (Reads.of_own HO.out) HNs.out h8 HLn.out).mono ?_
      rintro e V ⟨g, rfl, hd, hbv⟩
      have HD := Lib.hid hd
      clear hd
      go_wp2_with fail
      have hbs0 := hb.size
      have HB0 := Lib.hid (hb.trans (hbv.mono hb.size))
      have hD0 := HD.out
      rw [← half_zero (ims.map Im.l)] at hD0
      have HD0 := Lib.hid hD0
      clear hD0 HD hb hbv HO
      obtain ⟨wo, hwo⟩ : ∃ wo, wo = wr := ⟨_, rfl⟩
      rw [← hwo] at HD0 hbs0
      clear hwo
      go_loopw [7] (fun s7 wq => ∃ j : Nat, j ≤ k ∧ s7 = .int .i64 j ∧ DskAt wq (fun b => wo.heap.size ≤ b) g (DS.half (ims.map Im.l) j) ∧ Below W.heap.size W wq) (fun s7 _ => k - (intOf s7).toNat)
      case atStart => exact ⟨0, Nat.zero_le _, rfl, HD0.out, HB0.out⟩
      case round =>
        obtain ⟨j, hj, rfl, hd, hbq⟩ := hrel
        have HQ := Lib.hid hd
        have HBQ := Lib.hid hbq
        by_cases hjl : j < k
        · obtain ⟨p, hp⟩ : ∃ p, ims[j]? = some p := ⟨_, List.getElem?_eq_getElem (by rw [HN.out]; exact hjl)⟩
          have hpm := List.mem_of_getElem? hp
          have hc := (HG.out.below hbq HG.out.lt).cell j
          rw [List.getElem?_toArray, List.getElem?_map, hp] at hc
          change wr.cell? _ = some (.slice p.A p.l.length p.c) at hc
          have hlj : (ims.map Im.l)[j]? = some p.l := by rw [List.getElem?_map, hp]; rfl
          have HLJ := Lib.hid hlj
          have HPM := Lib.hid hpm
          have t1 : (j : Int) < (k : Int) := by omega
          have hAF : ∀ b off, p.A = some ⟨b, off, none⟩ → ¬ (wo.heap.size ≤ b) := by
            intro b off e
            obtain ⟨b', off', e', hlt', _⟩ := (HR.out p hpm).u (by have := (HLL.out p hpm).1; omega)
            rw [e] at e'
            simp only [Option.some.injEq, Addr.mk.injEq] at e'
            omega
          have HAF := Lib.hid hAF
          clear hp hpm hd hbq hlj hAF
          go_wp2_with fail
          refine (aload_any wr (fun b => wo.heap.size ≤ b) g j (DS.half (ims.map Im.l) j) p.A p.c p.l.length p.l HQ.out (by rw [half_len _ _ (by rw [List.length_map, HN.out]; omega), List.length_map, HN.out]; exact hjl) rfl ((HR.out p HPM.out).keep HBQ.out) rfl (HLL.out p HPM.out).1 (by rw [half_drv _ _ _ HLJ.out]; simp [zd]) (HLL.out p HPM.out).2.2 HAF.out).mono ?_
          rintro e V ⟨rfl, hd, hf⟩
          rw [half_step _ _ _ HLJ.out] at hd
          have HD := Lib.hid hd
          have HBV := Lib.hid (HBQ.out.trans (hf.below HBQ.out.size (fun b hb => Nat.le_trans hbs0 hb)))
          clear hd hf hc
          go_wp2_with fail
          go_roundw
          case rel => exact ⟨j + 1, by omega, by go_num, HD.out, HBV.out⟩
          case measure => simp [intOf]; omega
        · have hjk : j = k := by omega
          subst hjk
          have hln : (ims.map Im.l).length = j := by rw [List.length_map]; exact HN.out
          have hq := HQ.out
          rw [← hln, half_full] at hq
          have HQQ := Lib.hid hq
          clear hq hd hln hbq
          go_wp2_with fail
          go_ret
          exact ⟨g, rfl, ⟨HQQ.out.1, by obtain ⟨dv, lv, mb, zs, h1, h2⟩ := HQQ.out.2; exact ⟨dv, lv, mb, zs, h1, h2.mono (fun b hb => Nat.le_trans hbs0 hb)⟩⟩, HBQ.out⟩

end Go.Proofs.Ytpcjdmbnlhjlaaa

namespace Go.Proofs.Ytpcjdmbnlhjlaaa
set_option linter.unusedVariables false
open Go.RowKit
attribute [local go_sem] Oper.semAt_some

theorem dev_info : (Try.prog.info? 74).map (fun i => (i.zero, i.size, i.bytes)) = some (some .nilIface, 1, 16) := by kernel_rfl

/-- Spans of the first disks, in new memory. -/
def SpansAt (W0 W : World) (g : Nat) (S : DS) (sps : List Nat) : Prop := ∀ i sp, sps[i]? = some sp → SpanAt W sp g i (S.drv i).1.length ∧ W0.heap.size ≤ sp
theorem SpansAt.keep {W0 W W' : World} {g : Nat} {S : DS} {sps : List Nat} (h : SpansAt W0 W g S sps) (hb : Below W.heap.size W W') : SpansAt W0 W' g S sps :=
  fun i sp hs => ⟨Cs.below (h i sp hs).1 hb (Cs.lt (h i sp hs).1), (h i sp hs).2⟩
theorem SpansAt.grown {W0 W W' : World} {g : Nat} {S : DS} {sps : List Nat} {base n : Nat} {v : Value} {xs : List Value} (h : SpansAt W0 W g S sps) (hr : W.ownsRow base 74 1 v n xs) (hg : W.grownBy W' v.ownBlock) : SpansAt W0 W' g S sps :=
  fun i sp hs => ⟨Cs.grown (h i sp hs).1 hg (fun e => cs_own_ne (h i sp hs).1 hr (by decide) sp e.symm rfl), (h i sp hs).2⟩
def spv (sps : List Nat) : List Value := sps.map spanV
theorem spv_one (l : List Nat) : ∀ u ∈ spv l, u.oneCell' = true := by
  intro u hu
  obtain ⟨x, _, rfl⟩ := List.mem_map.1 hu
  rfl

def SpansP (W : World) (g : Nat) (S : DS) (e : Ending) (W' : World) : Prop :=
  ∃ v sps, e = .returned v ∧ sps.length = S.dr.length ∧ W'.ownsRow W.heap.size 74 1 v S.dr.length (spv sps) ∧ SpansAt W W' g S sps ∧ Below W.heap.size W W'

set_option maxRecDepth 100000 in
set_option maxHeartbeats 2000000 in
theorem spans_any (W : World) (F : Nat → Prop) (g : Nat) (S : DS) (h : DskAt W F g S) (hz : ∀ x ∈ S.dr, 1 ≤ x.1.length) :
    Calls Try.prog 27 #[.pointer (some ⟨g, 0, none⟩)] W (SpansP W g S) := by
  have HD := Lib.hid h
  have hn8 := h.1.nd
  obtain ⟨N, hN⟩ : ∃ N, S.dr.length = N := ⟨_, rfl⟩
  have HN := Lib.hid hN
  rw [hN] at hn8
  have HZ := Lib.hid hz
  obtain ⟨i1, hi1, hy0, hy1, hy2⟩ := info_parts dev_info
  clear hN h hz
  go_enter Try.func27, Try.ntmps27
  go_wp2_with fail
  go_loopw [3, 4] (fun s3 s4 wr => ∃ (k : Nat) (v3 : Value) (sps : List Nat), k ≤ N ∧ s3 = v3 ∧ s4 = .int .i64 k ∧ sps.length = k ∧ wr.ownsRow W.heap.size 74 1 v3 k (spv sps) ∧ SpansAt W wr g S sps ∧ Below W.heap.size W wr) (fun _ s4 _ => N - (intOf s4).toNat)
  case atStart => exact ⟨0, _, [], Nat.zero_le _, rfl, rfl, rfl, World.ownsRow_nil _ _ _ _, (fun i sp hs => by simp at hs), Below.refl _ _⟩
  case round =>
    obtain ⟨k, v3, sps, hk, rfl, rfl, hsl, hown, hsp, hb⟩ := hrel
    have HSL := Lib.hid hsl
    have HO := Lib.hid hown
    have HSP := Lib.hid hsp
    have HB := Lib.hid hb
    obtain ⟨A3, c3, hv3⟩ := own_form hown
    subst hv3
    have hDk := Lib.hid (HD.out.keep hb)
    clear hsl hown hsp hb
    by_cases hlt : k < N
    · have t1 : (k : Int) < (N : Int) := by omega
      have hkS : k < S.dr.length := by rw [HN.out]; exact hlt
      have hszk : S.size (k : Int) = (S.drv k).1.length := by unfold DS.size; rw [if_neg (by omega)]; rfl
      have hm : S.drv k ∈ S.dr := by unfold DS.drv; rw [List.getElem?_eq_getElem hkS]; exact List.getElem_mem _
      have HSZ := Lib.hid hszk
      have HM := Lib.hid hm
      have HKS := Lib.hid hkS
      clear hszk hm hkS
      go_wp2_with fail
      refine (acount_any wr _ g S hDk.out).mono ?_
      rintro e w' ⟨rfl, rfl⟩
      rw [HN.out]
      go_wp2_with fail
      refine (asize_any wr _ g S (k : Int) hDk.out).mono ?_
      rintro e w1 ⟨rfl, q, rfl⟩
      rw [HSZ.out]
      go_wp2_with fail
      refine (span_any (wr.drewN q) _ g k S (hDk.out.drewN q) HKS.out (HZ.out _ HM.out)).mono ?_
      rintro e w2 ⟨sp, rfl, hspn, hsge, hb2⟩
      have hbq : Below wr.heap.size wr w2 := (below_drewN (Below.refl wr.heap.size wr) q).trans hb2
      have HO2 := Lib.hid (own_keepB HO.out hbq)
      have HSP2 := Lib.hid (HSP.out.keep hbq)
      have HB2 := Lib.hid (HB.out.trans (hbq.mono HB.out.size))
      have hge : W.heap.size ≤ sp := Nat.le_trans HB.out.size hsge
      have HSN := Lib.hid hspn
      have hbs2 := HB2.out.size
      clear hspn hb2 hbq hsge
      unfold spanV
      go_wp2_with (at_builtin; refine wpList_append_reads _ (by rfl) _ _ _ (by rfl) W.heap.size 74 i1 _ 1 16 Try.underlying34 hi1 hy0 hy1 hy2 rfl (by omega) (.slice A3 k c3) k (spv sps) (by rfl) (HO2.out.alloc _) (some ⟨w2.heap.size, 0, none⟩) 1 1 [spanV sp] (by rfl) (by rfl) (Reads.new _ _ _) (by simp [spanV, Value.oneCell']) (by simp only [maxLen]; omega) (by omega) (by simp; omega) ?_; intro v5 w5 hown5 hg5 hat5)
      have HB5 := Lib.hid (HB2.out.trans (app_below HO2.out hg5 hbs2))
      have hsp5 : SpansAt W w5 g S (sps ++ [sp]) := by
        have ha : Below w2.heap.size w2 (w2.alloc (.cells #[Value.iface 114 (.pointer (some ⟨sp, 0, none⟩))] 74)) := (Below.refl _ _).alloc (Nat.le_refl _) _
        have h1 := (HSP2.out.keep ha).grown (HO2.out.alloc _) hg5
        intro i q hq
        by_cases hi : i < sps.length
        · rw [List.getElem?_append_left hi] at hq
          exact h1 i q hq
        · rw [List.getElem?_append_right (by omega)] at hq
          have hi0 : i - sps.length = 0 := by
            rcases Nat.eq_zero_or_pos (i - sps.length) with e | e
            · exact e
            · rw [List.getElem?_eq_none (by simp; omega)] at hq; cases hq
          rw [hi0] at hq
          simp at hq
          subst hq
          have hik : i = k := by have := HSL.out; omega
          subst hik
          have hc := Cs.below HSN.out ha (Cs.lt HSN.out)
          exact ⟨Cs.grown hc hg5 (fun e => cs_own_ne hc (HO2.out.alloc _) (by decide) sp e.symm rfl), hge⟩
      have HSP5 := Lib.hid hsp5
      have HO5 : Hid (w5.ownsRow W.heap.size 74 1 v5 (k + 1) (spv (sps ++ [sp]))) := by
        show w5.ownsRow _ _ _ _ _ _
        have := hown5
        unfold spv at this ⊢
        rw [List.map_append]
        exact this
      clear hown5 hg5 hat5 hsp5
      go_roundw
      case rel => exact ⟨k + 1, v5, sps ++ [sp], by omega, rfl, by go_num, by rw [List.length_append, HSL.out]; rfl, HO5.out, HSP5.out, HB5.out⟩
      case measure => simp [intOf]; omega
    · have hkn : k = N := by omega
      subst hkn
      go_wp2_with fail
      refine (acount_any wr _ g S hDk.out).mono ?_
      rintro e w' ⟨rfl, rfl⟩
      rw [HN.out]
      go_wp2_with fail
      go_ret
      exact ⟨_, sps, rfl, by rw [HSL.out, HN.out], by rw [HN.out]; exact HO.out, HSP.out, HB.out⟩

end Go.Proofs.Ytpcjdmbnlhjlaaa
