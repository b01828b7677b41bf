/- What the reference's buffer weighs. Conditions: the pointer leads to such a buffer, whose numbers are of everyday size. -/
import Derived.Test.YtlnekfodkeifkaaDoorRefBuf
namespace Go.Proofs.YtlnekfodkeifkaaDoor.W
open Go.RowKit Go.Maps Go.Proofs.YtlnekfodkeifkaaDoorW.PrintLast Go.Proofs.YtlnekfodkeifkaaDoorW.PrintWords Go.Proofs.YtlnekfodkeifkaaDoor.OC
attribute [local go_sem] World.setCell_drew
set_option linter.unusedSimpArgs false
set_option linter.unusedVariables false

theorem wt_take {L : List Ev} {k : Nat} {e : Ev} (h : L[k]? = some e) : wt (L.take (k + 1)) = wt (L.take k) + hv e.weight := by
  obtain ⟨hk, rfl⟩ := List.getElem?_eq_some_iff.1 h
  rw [List.take_succ_eq_append_getElem hk, wt_snoc]
/-- The cells of an event in the row. -/
theorem RBuf.at {w : World} {B g : Nat} {N : Int} {L : List Ev} {R : Int} {A : Option Addr} {c : Nat} (h : RBuf w B g N L R A c) {k : Nat} {e : Ev} (he : L[k]? = some e) : ∃ r, A = some ⟨r, 0, none⟩ ∧
    w.cell? ⟨r, k * 4, none⟩ = some (.int .i64 e.deed) ∧ w.cell? ⟨r, k * 4 + 1, none⟩ = some (.int .i64 e.node) ∧ w.cell? ⟨r, k * 4 + 2, none⟩ = some (.int .i64 e.key) ∧ w.cell? ⟨r, k * 4 + 3, none⟩ = some (.int .i64 e.weight) := by
  obtain ⟨h0, h1, h2, h3⟩ := flat_at L k e he
  obtain ⟨hk, _⟩ := List.getElem?_eq_some_iff.1 he
  rcases h.own.2 with ⟨_, hz⟩ | ⟨r, cap, cur, e1, _⟩
  · omega
  · injection e1 with e1 _ _
    subst e1
    have ap : ∀ j, (⟨r, 0, none⟩ : Addr).add j = ⟨r, j, none⟩ := fun j => by rw [add_plain]
    have c0 := h.own.cells (g := r) rfl (k * 4) _ h0
    have c1 := h.own.cells (g := r) rfl (k * 4 + 1) _ h1
    have c2 := h.own.cells (g := r) rfl (k * 4 + 2) _ h2
    have c3 := h.own.cells (g := r) rfl (k * 4 + 3) _ h3
    rw [ap] at c0 c1 c2 c3
    exact ⟨r, rfl, c0, c1, c2, c3⟩
set_option maxRecDepth 100000 in
set_option maxHeartbeats 1000000 in
theorem rweight_any {B g : Nat} {N : Int} {L : List Ev} {R : Int} {A : Option Addr} {c : Nat} {w : World} (h : RBuf w B g N L R A c) (hL : L.length ≤ 100000) :
    Calls Tryd.prog 25 #[.pointer (some ⟨g, 0, none⟩)] w fun e w' => e = .returned (.int .i64 (wt L)) ∧ w = w' := by
  obtain ⟨c0, c1, c2⟩ := cells3 h.block
  have H := Lib.hid h
  clear h c0 c2
  go_enter Tryd.func25, Tryd.ntmps25
  go_wp2
  go_loop [3, 4] (fun n i => ∃ (k : Nat) (s : Int), k ≤ L.length ∧ i = .int .i64 k ∧ n = .int .i64 s ∧ Hid (s = wt (L.take k))) (fun _ i => L.length - (intOf i).toNat)
  case atStart => exact ⟨0, 0, Nat.zero_le _, rfl, rfl, Lib.hid (by simp [wt])⟩
  case round =>
    obtain ⟨k, s, hk, rfl, rfl, hs⟩ := hrel
    by_cases hlt : k < L.length
    · obtain ⟨e, he⟩ : ∃ e, L[k]? = some e := ⟨_, List.getElem?_eq_getElem hlt⟩
      obtain ⟨r, rfl, x0, x1, x2, x3⟩ := H.out.at he
      have hwt := wt_take he
      have b1 := wt_is (L.take k)
      have b2 : (L.take k).length ≤ k := List.length_take_le _ _
      rw [← hs.out] at b1 hwt
      have b3 := b1.1
      have b4 : s ≤ 1000000000000000 := by omega
      have HW := Lib.hid hwt
      clear hwt b1 b2 he x0 x1 x2
      obtain ⟨x, hx⟩ : ∃ x, e.weight = x := ⟨_, rfl⟩
      rw [hx] at x3
      have HX := Lib.hid hx
      clear hx
      by_cases a1 : x < 0
      · go_wp2
        go_round
        case rel => exact ⟨k + 1, s, by omega, by go_num, by first | rfl | go_num, Lib.hid (by rw [HW.out, HX.out]; unfold hv; rw [if_neg (by omega)]; omega)⟩
        case measure => simp [intOf]; omega
      · by_cases a2 : 2147483648 < x
        · go_wp2
          go_round
          case rel => exact ⟨k + 1, s + 2147483648, by omega, by go_num, by first | rfl | go_num, Lib.hid (by rw [HW.out, HX.out]; unfold hv; rw [if_pos (by omega : (0:Int) < x), if_pos (by omega)])⟩
          case measure => simp [intOf]; omega
        · go_wp2
          go_round
          case rel => exact ⟨k + 1, s + x, by omega, by go_num, by first | rfl | go_num, Lib.hid (by rw [HW.out, HX.out]; unfold hv; (repeat' (split)) <;> omega)⟩
          case measure => simp [intOf]; omega
    · obtain rfl : k = L.length := by omega
      rw [List.take_length] at hs
      go_wp2
      go_ret
      exact ⟨retInt hs.out, rfl⟩
end Go.Proofs.YtlnekfodkeifkaaDoor.W
