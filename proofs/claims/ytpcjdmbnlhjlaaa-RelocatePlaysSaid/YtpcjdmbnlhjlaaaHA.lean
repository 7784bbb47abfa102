import Derived.Test.YtpcjdmbnlhjlaaaGd
import Derived.Test.YtpcjdmbnlhjlaaaDiskR
namespace Go.Proofs.Ytpcjdmbnlhjlaaa
set_option linter.unusedVariables false
open Go.RowKit
attribute [local go_sem] Oper.semAt_some

theorem DskAt.tight {W : World} {F : Nat → Prop} {g : Nat} {S : DS} (h : DskAt W F g S) : DskAt W (fun j => F j ∧ j < W.heap.size) g S := by
  obtain ⟨ho, dv, lv, mb, zs, hl, hi⟩ := h
  exact ⟨ho, dv, lv, mb, zs, hl, hi.lt hl⟩

theorem m_write (k sp : Nat) (W : World) : Sem.run Try.prog (method (k + 1) 114 (.pointer (some ⟨sp, 0, none⟩)) "Write") W = .ok (93, .pointer (some ⟨sp, 0, none⟩)) W := by kernel_rfl

theorem m_flush (k sp : Nat) (W : World) : Sem.run Try.prog (method (k + 1) 114 (.pointer (some ⟨sp, 0, none⟩)) "Flush") W = .ok (90, .pointer (some ⟨sp, 0, none⟩)) W := by kernel_rfl

theorem m_read (k sp : Nat) (W : World) : Sem.run Try.prog (method (k + 1) 114 (.pointer (some ⟨sp, 0, none⟩)) "Read") W = .ok (91, .pointer (some ⟨sp, 0, none⟩)) W := by kernel_rfl

theorem m_size (k sp : Nat) (W : World) : Sem.run Try.prog (method (k + 1) 114 (.pointer (some ⟨sp, 0, none⟩)) "Size") W = .ok (92, .pointer (some ⟨sp, 0, none⟩)) W := by kernel_rfl

theorem wput_log (S : DS) (d a v : Nat) : (S.wput d a v).log.length ≤ S.log.length + 1 := by
  unfold DS.wput
  simp

theorem write_log (S : DS) (d a : Int) (v : Nat) : (S.write d a v).log.length ≤ S.log.length + 1 := by
  unfold DS.write
  split
  · omega
  · split
    · show S.log.length ≤ _; omega
    · have := wput_log S.burnt d.toNat a.toNat v
      have h2 : S.burnt.log = S.log := by unfold DS.burnt; rfl
      rw [h2] at this
      exact this

theorem swrite_log (S : DS) (i n : Nat) (a : Int) (v : Nat) : (S.swrite i n a v).log.length ≤ S.log.length + 1 := by
  unfold DS.swrite
  split
  · exact write_log _ _ _ _
  · omega

theorem wput_wr (S : DS) (d a v : Nat) : (S.wput d a v).wr ≤ S.wr + 1 := by
  unfold DS.wput
  exact Int.le_refl _

theorem write_wr (S : DS) (d a : Int) (v : Nat) : (S.write d a v).wr ≤ S.wr + 1 := by
  unfold DS.write
  split
  · omega
  · split
    · show S.wr ≤ _; omega
    · exact wput_wr S.burnt d.toNat a.toNat v

theorem swrite_wr (S : DS) (i n : Nat) (a : Int) (v : Nat) : (S.swrite i n a v).wr ≤ S.wr + 1 := by
  unfold DS.swrite
  split
  · exact write_wr _ _ _ _
  · omega

theorem Turn.tg {F F' : Nat → Prop} {W W' : World} (h : Turn (fun j => F j ∧ j < W.heap.size) F' W W') : Turn F F' W W' :=
  ⟨h.1.mono (fun j _ hj => hj.1), fun j hj => (h.2 j hj).elim (fun a => .inl a.1) .inr⟩

theorem down_any (W : World) (F : Nat → Prop) (g : Nat) (S : DS) (h : DskAt W F g S) :
    Calls Try.prog 89 #[.pointer (some ⟨g, 0, none⟩)] W fun e w' => e = .returned (.bool S.down) ∧ W = w' := by
  obtain ⟨ho, dv, lv, mb, zs, hl, hi⟩ := h
  have c4 : W.cell? ⟨g, 4, none⟩ = some (.bool S.down) := Cs.cell hl.arr 4
  clear ho hl hi
  go_enter Try.func89, Try.ntmps89
  go_wp2_with fail
  go_ret
  exact ⟨rfl, rfl⟩

theorem fuse_any (W : World) (F : Nat → Prop) (g : Nat) (S : DS) (n : Int) (h : DskAt W F g S) (hn : 0 ≤ n) (hn2 : n ≤ 9223372036854775807) :
    Calls Try.prog 48 #[.pointer (some ⟨g, 0, none⟩), .int .i64 n] W fun e w' => e = .returned (.tuple #[]) ∧ DskAt w' F g { S with fuse := n } ∧ Fr F W w' := by
  obtain ⟨ho, dv, lv, mb, zs, hl, hi⟩ := h
  have c3 : W.cell? ⟨g, 3, none⟩ = some (.int .i64 S.fuse) := Cs.cell hl.arr 3
  have f3 := Cs.free hl.arr 3
  have hmx : max n 0 = n := by omega
  have HL := Lib.hid (hl.setFuse n)
  have HI := Lib.hid hi
  have HO : Hid (({ S with fuse := n } : DS).Ok) := ⟨ho.nd, ho.drv, ho.log, ⟨hn, hn2⟩, ho.wr⟩
  clear ho hl hi
  go_enter Try.func48, Try.ntmps48
  go_wp2_with fail
  refine bodyPost_end (v := .tuple #[]) (by simp [results, Try.f48, go_sem]) rfl ?_
  exact ⟨rfl, ⟨HO.out, dv, lv, mb, zs, HL.out, HI.out⟩, (Fr.refl F W).set (.inl HI.out.arr) _⟩

end Go.Proofs.Ytpcjdmbnlhjlaaa
