import Derived.Test.YtjnkajdfdhockaaC1
import Derived.Test.YtjnkajdfdhockaaFieldsP
namespace Go.Proofs.Ytjnkajdfdhockaa
set_option linter.unusedVariables false
open Go.RowKit

set_option maxHeartbeats 400000 in
theorem divided_any (A : Option Addr) (c : Nat) (ws : List Int) (w : World) (hA : Reads w A (iv ws)) (hl : ws.length ≤ 1000000) :
    Calls Try.prog 52 #[.slice A ws.length c] w fun e w' => e = .returned (.bool (okW 0 ws)) ∧ w = w' := by
  obtain ⟨n, hn⟩ : ∃ n, ws.length = n := ⟨_, rfl⟩
  have hcx : ∀ i, i < n → ∃ b off, A = some ⟨b, off, none⟩ ∧ w.cell? ⟨b, off + i, none⟩ = some (.int .i64 (ws[i]?.getD 0)) := by
    intro i hi
    obtain ⟨b, off, e, _, hc⟩ := hA.i (by omega)
    exact ⟨b, off, e, hc i (by omega)⟩
  have HX := Lib.hid hcx
  rw [hn] at hl ⊢
  have HN := Lib.hid hn
  clear hcx hA hn
  go_enter Try.func52, Try.ntmps52
  go_wp2
  go_loop [3, 8] (fun s i => ∃ (k : Nat) (t : Int), k ≤ n ∧ i = .int .i64 k ∧ s = .int .i64 t ∧ 0 ≤ t ∧ t ≤ 64 ∧ Hid (okW 0 ws = okW t (ws.drop k))) (fun _ i => n - (intOf i).toNat)
  case atStart => exact ⟨0, 0, Nat.zero_le _, rfl, rfl, by omega, by omega, rfl⟩
  case round =>
    obtain ⟨k, t, hk, rfl, rfl, ht0, ht1, hs⟩ := hrel
    by_cases hlt : k < n
    · obtain ⟨b, off, rfl, hc1⟩ := HX.out k hlt
      obtain ⟨x, ex⟩ : ∃ x, ws[k]?.getD 0 = x := ⟨_, rfl⟩
      have H2 := Lib.hid (okW_drop t ws k (by rw [HN.out]; exact hlt) x ex)
      rw [ex] at hc1
      clear ex
      by_cases h1 : x < 1
      · go_wp2
        go_ret
        exact ⟨ret_bool (by rw [hs.out, H2.out]; simp; intros; omega), rfl⟩
      · by_cases h2 : 64 < x
        · go_wp2
          go_ret
          exact ⟨ret_bool (by rw [hs.out, H2.out]; simp; intros; omega), rfl⟩
        · by_cases h3 : 64 < t + x
          · go_wp2
            go_ret
            exact ⟨ret_bool (by rw [hs.out, H2.out]; simp; intros; omega), rfl⟩
          · have H3 : Hid (okW 0 ws = okW (t + x) (ws.drop (k + 1))) := by
              show _ = _
              rw [hs.out, H2.out]
              simp
              intros; omega
            go_wp2
            go_round
            case rel => exact ⟨k + 1, t + x, by omega, by go_num, rfl, by omega, by omega, H3⟩
            case measure => simp [intOf]; omega
    · go_wp2
      go_ret
      refine ⟨ret_bool ?_, rfl⟩
      rw [hs.out, List.drop_of_length_le (by rw [HN.out]; omega)]
      rfl

end Go.Proofs.Ytjnkajdfdhockaa
