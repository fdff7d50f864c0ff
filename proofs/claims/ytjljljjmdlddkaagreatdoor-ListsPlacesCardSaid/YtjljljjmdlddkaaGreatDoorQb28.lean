/- Texts joined: L16, G16, St31 -/
import Derived.Test.YtjljljjmdlddkaaGreatDoorQb27
import Derived.Test.YtjljljjmdlddkaaGreatDoorQb23
import Derived.Test.YtjljljjmdlddkaaGreatDoorQb7
import Derived.Test.YtjljljjmdlddkaaGreatDoorQb4
import Derived.Test.YtjljljjmdlddkaaGreatDoorQb15
import Derived.Lib.AppendIntMem
import Derived.Lib.ItoaLen
import Derived.Lib.LaidTab
import Derived.Below

/- What the program tells of a few lists. -/
namespace Go.Proofs.YtjljljjmdlddkaaGreatDoor
open Go.ChangeShapes Go.WideShapes Go.ChangeAt Go.RowKit

theorem LD.mk0 {W0 w : World} {bS bM : Nat} (h : SP w bS bM []) (hb : Below W0.heap.size W0 w) (h1 : W0.heap.size ≤ bS) (h2 : W0.heap.size ≤ bM) : LD W0 w bS bM [] := ⟨⟨⟨[], h, trivial⟩, fun _ h => by cases h⟩, hb, h1, h2⟩
theorem okL_of {k : ByteArray} {ys : List ByteArray} (h : (decide (1 ≤ k.size) && decide (k.size ≤ 512) && !ys.isEmpty && decide (ys.length ≤ 31) && ys.all (fun s => decide (s.size ≤ 4096))) = true) : okL k ys := by
  simp only [Bool.and_eq_true, decide_eq_true_eq, List.all_eq_true] at h
  obtain ⟨⟨⟨⟨h1, h2⟩, h3⟩, h4⟩, h5⟩ := h
  exact ⟨h1, h2, fun e => by subst e; simp at h3, h4, h5⟩
/-- A do with written arguments. -/
theorem lit0 {W0 : World} {bS bM : Nat} {D D' D2 : List (ByteArray × List ByteArray)} {k n n2 : Int} {s : ByteArray} (X : World) (hL : LD W0 X bS bM D) (xs : List ByteArray) (hn : xs.length ≤ 1000) (hd : ∀ vA w, LD W0 w bS bM D → SSl w vA xs → Calls Tryz.prog 8 #[.pointer (some ⟨bS, 0, none⟩), vA] w (DoP W0 bS bM D' k n s R0 w)) (hD : D' = D2) (hn2 : n = n2) : Calls Tryz.prog 8 #[.pointer (some ⟨bS, 0, none⟩), .slice (some ⟨X.heap.size, 0, none⟩) xs.length xs.length] (X.alloc (.cells (xs.map Value.string).toArray 9)) fun e w' => e = .returned (.agg #[.int .i64 k, .int .i64 n2, .string s, .slice none 0 0]) ∧ LD W0 w' bS bM D2 ∧ Kp X.heap.size (fun i => i ≠ bS ∧ i ≠ bM) X w' := by
  subst hD hn2
  have hb : Below X.heap.size X (X.alloc (.cells (xs.map Value.string).toArray 9)) := alloc_old
  refine (hd _ _ (hL.old hb) (SSl.lit X xs hn)).mono ?_
  rintro e w' ⟨A, m, c, rfl, hR, h2, h3⟩
  cases hR
  exact ⟨rfl, h2, (Kp.of hb).trans (h3.mono (Below.size hb) (fun _ h => h))⟩
theorem litR {W0 : World} {bS bM : Nat} {D D' D2 : List (ByteArray × List ByteArray)} {k n n2 : Int} {s : ByteArray} {R R2 : Nat → World → Value → Prop} (hK : RKeep R) (X : World) (hL : LD W0 X bS bM D) (xs : List ByteArray) (hn : xs.length ≤ 1000) (hd : ∀ vA w, LD W0 w bS bM D → SSl w vA xs → Calls Tryz.prog 8 #[.pointer (some ⟨bS, 0, none⟩), vA] w (DoP W0 bS bM D' k n s R w)) (hD : D' = D2) (hn2 : n = n2) (hR2 : R = R2) : Calls Tryz.prog 8 #[.pointer (some ⟨bS, 0, none⟩), .slice (some ⟨X.heap.size, 0, none⟩) xs.length xs.length] (X.alloc (.cells (xs.map Value.string).toArray 9)) fun e w' => ∃ A m c, e = .returned (.agg #[.int .i64 k, .int .i64 n2, .string s, .slice A m c]) ∧ R2 X.heap.size w' (.slice A m c) ∧ LD W0 w' bS bM D2 ∧ Kp X.heap.size (fun i => i ≠ bS ∧ i ≠ bM) X w' := by
  subst hD hn2 hR2
  have hb : Below X.heap.size X (X.alloc (.cells (xs.map Value.string).toArray 9)) := alloc_old
  refine (hd _ _ (hL.old hb) (SSl.lit X xs hn)).mono ?_
  rintro e w' ⟨A, m, c, rfl, hR, h2, h3⟩
  exact ⟨A, m, c, rfl, hK.mono _ _ _ _ hR (Below.size hb), h2, (Kp.of hb).trans (h3.mono (Below.size hb) (fun _ h => h))⟩
theorem LD.ne {W0 w : World} {bS bM : Nat} {D : List (ByteArray × List ByteArray)} (h : LD W0 w bS bM D) {b : Nat} {cs : Array Value} {t : TypeId} (hb : w.heap[b]? = some (.cells cs t)) (ht : t ≠ 41) : b ≠ bS ∧ b ≠ bM := SPG.ne KL okL h.sp hb ht
theorem RO.own {rs : List (Option ByteArray)} {c : Nat} {v : Value} {X : World} (h : RO rs c X v) : ∀ g, v.ownBlock = some g → ∃ cur, X.heap[g]? = some (.cells cur 28) := by
  intro g hg
  unfold RO World.ownsRow at h
  obtain ⟨_, ⟨rfl, _⟩ | ⟨g', cap, cur, rfl, _, h2, _⟩⟩ := h
  · cases hg
  · cases hg
    exact ⟨cur, h2⟩
theorem RO.below {rs : List (Option ByteArray)} {c : Nat} {v : Value} {X Y : World} (h : RO rs c X v) (hb : Below X.heap.size X Y) : RO rs c Y v := row_below h hb
theorem RO.keepD {rs : List (Option ByteArray)} {c : Nat} {v : Value} {X Y W0 : World} {bS bM : Nat} {D : List (ByteArray × List ByteArray)} (hK : Kp X.heap.size (fun i => i ≠ bS ∧ i ≠ bM) X Y) (h : LD W0 X bS bM D) (hb : RO rs c X v) : RO rs c Y v := row_kept hb (fun g hg => by
  obtain ⟨cur, hh⟩ := hb.own g hg
  exact hK.block g (lt_blk hh) (h.ne hh (by decide)))
theorem RO.form {rs : List (Option ByteArray)} {c : Nat} {w : World} {A : Option Addr} {m cc : Nat} (h : RO rs c w (.slice A m cc)) (hne : rs ≠ []) : m = rs.length ∧ (∃ g, A = some ⟨g, 0, none⟩) ∧ m ≤ cc := by
  unfold RO World.ownsRow at h
  obtain ⟨_, ⟨h1, h0⟩ | ⟨g, cap, cur, h1, _, _, h3, _⟩⟩ := h
  · exact absurd (List.eq_nil_of_length_eq_zero h0) hne
  · cases h1
    exact ⟨rfl, ⟨g, rfl⟩, h3⟩
theorem keepL {X Y W0 : World} {bS bM b : Nat} {D : List (ByteArray × List ByteArray)} {cs : Array Value} {t : TypeId} (hK : Kp X.heap.size (fun i => i ≠ bS ∧ i ≠ bM) X Y) (h : LD W0 X bS bM D) (hb : X.heap[b]? = some (.cells cs t)) (ht : t ≠ 41) : Y.heap[b]? = some (.cells cs t) :=
  (hK.block b (lt_blk hb) (h.ne hb ht)).trans hb
theorem t_a (W0 : World) (bS bM : Nat) (X : World) (hL : LD W0 X bS bM []) (q : Nat) (hq : X.heap.size = q) : Calls Tryz.prog 8 #[.pointer (some ⟨bS, 0, none⟩), .slice (some ⟨q, 0, none⟩) 6 6] (X.alloc (.cells #[.string ⟨#[82, 80, 85, 83, 72]⟩, .string ⟨#[107]⟩, .string ⟨#[97]⟩, .string ⟨#[98]⟩, .string ⟨#[99]⟩, .string ⟨#[97]⟩] 9)) fun e w' => e = .returned (.agg #[.int .i64 3, .int .i64 4, .string ⟨#[]⟩, .slice none 0 0]) ∧ LD W0 w' bS bM [(⟨#[107]⟩, [⟨#[97]⟩, ⟨#[98]⟩, ⟨#[99]⟩, ⟨#[97]⟩])] ∧ Kp X.heap.size (fun i => i ≠ bS ∧ i ≠ bM) X w' := by
  subst hq
  exact lit0 X hL [⟨#[82, 80, 85, 83, 72]⟩, ⟨#[107]⟩, ⟨#[97]⟩, ⟨#[98]⟩, ⟨#[99]⟩, ⟨#[97]⟩] (by simp) (fun vA w h hA => d_RPUSH W0 bS bM [] ⟨#[107]⟩ [⟨#[97]⟩, ⟨#[98]⟩, ⟨#[99]⟩, ⟨#[97]⟩] (by simp [findD]) (by simp) (okL_of (by kernel_rfl)) (by simp) vA w h hA) (by kernel_rfl) (by kernel_rfl)
theorem t_b (W0 : World) (bS bM : Nat) (X : World) (hL : LD W0 X bS bM [(⟨#[107]⟩, [⟨#[97]⟩, ⟨#[98]⟩, ⟨#[99]⟩, ⟨#[97]⟩])]) (q : Nat) (hq : X.heap.size = q) : Calls Tryz.prog 8 #[.pointer (some ⟨bS, 0, none⟩), .slice (some ⟨q, 0, none⟩) 4 4] (X.alloc (.cells #[.string ⟨#[76, 82, 69, 77]⟩, .string ⟨#[107]⟩, .string ⟨#[45, 49]⟩, .string ⟨#[97]⟩] 9)) fun e w' => e = .returned (.agg #[.int .i64 3, .int .i64 1, .string ⟨#[]⟩, .slice none 0 0]) ∧ LD W0 w' bS bM [(⟨#[107]⟩, [⟨#[97]⟩, ⟨#[98]⟩, ⟨#[99]⟩])] ∧ Kp X.heap.size (fun i => i ≠ bS ∧ i ≠ bM) X w' := by
  subst hq
  exact lit0 X hL [⟨#[76, 82, 69, 77]⟩, ⟨#[107]⟩, ⟨#[45, 49]⟩, ⟨#[97]⟩] (by simp) (fun vA w h hA => d_LREM W0 bS bM [(⟨#[107]⟩, [⟨#[97]⟩, ⟨#[98]⟩, ⟨#[99]⟩, ⟨#[97]⟩])] ⟨#[107]⟩ ⟨#[45, 49]⟩ (-1) (by decide) (by kernel_rfl) (by omega) ⟨#[97]⟩ [⟨#[97]⟩, ⟨#[98]⟩, ⟨#[99]⟩, ⟨#[97]⟩] (by kernel_rfl) (by simp) vA w h hA) (by kernel_rfl) (by kernel_rfl)
theorem t_c (W0 : World) (bS bM : Nat) (X : World) (hL : LD W0 X bS bM [(⟨#[107]⟩, [⟨#[97]⟩, ⟨#[98]⟩, ⟨#[99]⟩])]) (q : Nat) (hq : X.heap.size = q) : Calls Tryz.prog 8 #[.pointer (some ⟨bS, 0, none⟩), .slice (some ⟨q, 0, none⟩) 4 4] (X.alloc (.cells #[.string ⟨#[76, 82, 65, 78, 71, 69]⟩, .string ⟨#[107]⟩, .string ⟨#[48]⟩, .string ⟨#[45, 49]⟩] 9)) fun e w' => ∃ A m c, e = .returned (.agg #[.int .i64 6, .int .i64 0, .string ⟨#[]⟩, .slice A m c]) ∧ (RO [some ⟨#[97]⟩, some ⟨#[98]⟩, some ⟨#[99]⟩]) X.heap.size w' (.slice A m c) ∧ LD W0 w' bS bM [(⟨#[107]⟩, [⟨#[97]⟩, ⟨#[98]⟩, ⟨#[99]⟩])] ∧ Kp X.heap.size (fun i => i ≠ bS ∧ i ≠ bM) X w' := by
  subst hq
  exact litR (RO.keep _) X hL [⟨#[76, 82, 65, 78, 71, 69]⟩, ⟨#[107]⟩, ⟨#[48]⟩, ⟨#[45, 49]⟩] (by simp) (fun vA w h hA => d_LRANGE W0 bS bM [(⟨#[107]⟩, [⟨#[97]⟩, ⟨#[98]⟩, ⟨#[99]⟩])] ⟨#[107]⟩ ⟨#[48]⟩ (0) (by decide) (by kernel_rfl) (by omega) ⟨#[45, 49]⟩ (-1) (by decide) (by kernel_rfl) (by omega) [⟨#[97]⟩, ⟨#[98]⟩, ⟨#[99]⟩] (by kernel_rfl) (by simp) vA w h hA) (by kernel_rfl) (by kernel_rfl) (by kernel_rfl)
theorem t_d (W0 : World) (bS bM : Nat) (X : World) (hL : LD W0 X bS bM [(⟨#[107]⟩, [⟨#[97]⟩, ⟨#[98]⟩, ⟨#[99]⟩])]) (q : Nat) (hq : X.heap.size = q) : Calls Tryz.prog 8 #[.pointer (some ⟨bS, 0, none⟩), .slice (some ⟨q, 0, none⟩) 3 3] (X.alloc (.cells #[.string ⟨#[82, 80, 79, 80, 76, 80, 85, 83, 72]⟩, .string ⟨#[107]⟩, .string ⟨#[107]⟩] 9)) fun e w' => e = .returned (.agg #[.int .i64 4, .int .i64 0, .string ⟨#[99]⟩, .slice none 0 0]) ∧ LD W0 w' bS bM [(⟨#[107]⟩, [⟨#[99]⟩, ⟨#[97]⟩, ⟨#[98]⟩])] ∧ Kp X.heap.size (fun i => i ≠ bS ∧ i ≠ bM) X w' := by
  subst hq
  exact lit0 X hL [⟨#[82, 80, 79, 80, 76, 80, 85, 83, 72]⟩, ⟨#[107]⟩, ⟨#[107]⟩] (by simp) (fun vA w h hA => d_TURN W0 bS bM [(⟨#[107]⟩, [⟨#[97]⟩, ⟨#[98]⟩, ⟨#[99]⟩])] ⟨#[107]⟩ [⟨#[97]⟩, ⟨#[98]⟩, ⟨#[99]⟩] (by kernel_rfl) (by simp) ⟨#[99]⟩ (by kernel_rfl) vA w h hA) (by kernel_rfl) (by kernel_rfl)
theorem t_e (W0 : World) (bS bM : Nat) (X : World) (hL : LD W0 X bS bM [(⟨#[107]⟩, [⟨#[99]⟩, ⟨#[97]⟩, ⟨#[98]⟩])]) (q : Nat) (hq : X.heap.size = q) : Calls Tryz.prog 8 #[.pointer (some ⟨bS, 0, none⟩), .slice (some ⟨q, 0, none⟩) 3 3] (X.alloc (.cells #[.string ⟨#[76, 73, 78, 68, 69, 88]⟩, .string ⟨#[107]⟩, .string ⟨#[48]⟩] 9)) fun e w' => e = .returned (.agg #[.int .i64 4, .int .i64 0, .string ⟨#[99]⟩, .slice none 0 0]) ∧ LD W0 w' bS bM [(⟨#[107]⟩, [⟨#[99]⟩, ⟨#[97]⟩, ⟨#[98]⟩])] ∧ Kp X.heap.size (fun i => i ≠ bS ∧ i ≠ bM) X w' := by
  subst hq
  exact lit0 X hL [⟨#[76, 73, 78, 68, 69, 88]⟩, ⟨#[107]⟩, ⟨#[48]⟩] (by simp) (fun vA w h hA => d_LINDEX W0 bS bM [(⟨#[107]⟩, [⟨#[99]⟩, ⟨#[97]⟩, ⟨#[98]⟩])] ⟨#[107]⟩ ⟨#[48]⟩ (0) (by decide) (by kernel_rfl) (by omega) 0 ⟨#[99]⟩ [⟨#[99]⟩, ⟨#[97]⟩, ⟨#[98]⟩] (by kernel_rfl) (by simp) (.inl ⟨by omega, by simp, rfl⟩) (by kernel_rfl) vA w h hA) (by kernel_rfl) (by kernel_rfl)
theorem t_f (W0 : World) (bS bM : Nat) (X : World) (hL : LD W0 X bS bM [(⟨#[107]⟩, [⟨#[99]⟩, ⟨#[97]⟩, ⟨#[98]⟩])]) (q : Nat) (hq : X.heap.size = q) : Calls Tryz.prog 8 #[.pointer (some ⟨bS, 0, none⟩), .slice (some ⟨q, 0, none⟩) 2 2] (X.alloc (.cells #[.string ⟨#[76, 80, 79, 80]⟩, .string ⟨#[110, 111, 110, 101]⟩] 9)) fun e w' => e = .returned (.agg #[.int .i64 5, .int .i64 0, .string ⟨#[]⟩, .slice none 0 0]) ∧ LD W0 w' bS bM [(⟨#[107]⟩, [⟨#[99]⟩, ⟨#[97]⟩, ⟨#[98]⟩])] ∧ Kp X.heap.size (fun i => i ≠ bS ∧ i ≠ bM) X w' := by
  subst hq
  exact lit0 X hL [⟨#[76, 80, 79, 80]⟩, ⟨#[110, 111, 110, 101]⟩] (by simp) (fun vA w h hA => d_LPOP0 W0 bS bM [(⟨#[107]⟩, [⟨#[99]⟩, ⟨#[97]⟩, ⟨#[98]⟩])] ⟨#[110, 111, 110, 101]⟩ (by kernel_rfl) vA w h hA) (by kernel_rfl) (by kernel_rfl)
set_option maxRecDepth 100000 in
set_option maxHeartbeats 8000000 in
theorem told (W0 : World) : Calls Tryz.prog 6 #[] W0 fun e w' => e = .returned (.bool true) ∧ Below W0.heap.size W0 w' := by
  have NW := Lib.hid (New9 W0)
  go_enter Tryz.func6, Tryz.ntmps6
  go_wp2_with (first | (go_at_call 7; (with_reducible refine (NW.out).mono ?_); rintro e v0 ⟨bS, bM, rfl, hS0, hbS, hbM, hB0⟩; have L0 := Lib.hid (LD.mk0 hS0 hB0 hbS hbM); clear hS0 hbS hbM hB0; refine Hid.out ?_))
  refine Lib.hid ?_
  have D1 := Lib.hid (t_a W0 bS bM (v0) L0.out (v0.heap.size) rfl)
  go_wp2_with (first | (go_at_call 8; (with_reducible refine (D1.out).mono ?_); rintro e v1 ⟨rfl, hL1, hK1⟩; have L1 := Lib.hid hL1; clear hL1 hK1; refine Hid.out ?_))
  refine Lib.hid ?_
  have M1 := Lib.hid (L1.out.old (alloc_old (o := .cells #[.int .i64 3, .int .i64 4, .string ⟨#[]⟩, .slice none 0 0] 28)))
  have ga1 := Lib.hid (heap_alloc_new v1 (.cells #[.int .i64 3, .int .i64 4, .string ⟨#[]⟩, .slice none 0 0] 28))
  have D2 := Lib.hid (t_b W0 bS bM (v1.alloc (.cells #[.int .i64 3, .int .i64 4, .string ⟨#[]⟩, .slice none 0 0] 28)) M1.out (v1.heap.size + 1) (by simp))
  go_wp2_with (first | (go_at_call 8; (with_reducible refine (D2.out).mono ?_); rintro e v2 ⟨rfl, hL2, hK2⟩; have L2 := Lib.hid hL2; have fa2 := Lib.hid (keepL hK2 M1.out ga1.out (by decide)); clear hL2 hK2; refine Hid.out ?_))
  refine Lib.hid ?_
  have M2 := Lib.hid (L2.out.old (alloc_old (o := .cells #[.int .i64 3, .int .i64 1, .string ⟨#[]⟩, .slice none 0 0] 28)))
  have ga2 := Lib.hid (blk_below fa2.out (alloc_old (o := .cells #[.int .i64 3, .int .i64 1, .string ⟨#[]⟩, .slice none 0 0] 28)))
  have gb2 := Lib.hid (heap_alloc_new v2 (.cells #[.int .i64 3, .int .i64 1, .string ⟨#[]⟩, .slice none 0 0] 28))
  have D3 := Lib.hid (t_c W0 bS bM (v2.alloc (.cells #[.int .i64 3, .int .i64 1, .string ⟨#[]⟩, .slice none 0 0] 28)) M2.out (v2.heap.size + 1) (by simp))
  go_wp2_with (first | (go_at_call 8; (with_reducible refine (D3.out).mono ?_); rintro e v3 ⟨A, m, cc, rfl, hR3, hL3, hK3⟩; have L3 := Lib.hid hL3; have fa3 := Lib.hid (keepL hK3 M2.out ga2.out (by decide)); have fb3 := Lib.hid (keepL hK3 M2.out gb2.out (by decide)); have fR3 := Lib.hid hR3; clear hL3 hK3 hR3; refine Hid.out ?_))
  refine Lib.hid ?_
  have M3 := Lib.hid (L3.out.old (alloc_old (o := .cells #[.int .i64 6, .int .i64 0, .string ⟨#[]⟩, .slice A m cc] 28)))
  have ga3 := Lib.hid (blk_below fa3.out (alloc_old (o := .cells #[.int .i64 6, .int .i64 0, .string ⟨#[]⟩, .slice A m cc] 28)))
  have gb3 := Lib.hid (blk_below fb3.out (alloc_old (o := .cells #[.int .i64 6, .int .i64 0, .string ⟨#[]⟩, .slice A m cc] 28)))
  have gR3 := Lib.hid (RO.below fR3.out (alloc_old (o := .cells #[.int .i64 6, .int .i64 0, .string ⟨#[]⟩, .slice A m cc] 28)))
  have gc3 := Lib.hid (heap_alloc_new v3 (.cells #[.int .i64 6, .int .i64 0, .string ⟨#[]⟩, .slice A m cc] 28))
  have D4 := Lib.hid (t_d W0 bS bM (v3.alloc (.cells #[.int .i64 6, .int .i64 0, .string ⟨#[]⟩, .slice A m cc] 28)) M3.out (v3.heap.size + 1) (by simp))
  go_wp2_with (first | (go_at_call 8; (with_reducible refine (D4.out).mono ?_); rintro e v4 ⟨rfl, hL4, hK4⟩; have L4 := Lib.hid hL4; have fa4 := Lib.hid (keepL hK4 M3.out ga3.out (by decide)); have fb4 := Lib.hid (keepL hK4 M3.out gb3.out (by decide)); have fc4 := Lib.hid (keepL hK4 M3.out gc3.out (by decide)); have fR4 := Lib.hid (RO.keepD hK4 M3.out gR3.out); clear hL4 hK4; refine Hid.out ?_))
  refine Lib.hid ?_
  have M4 := Lib.hid (L4.out.old (alloc_old (o := .cells #[.int .i64 4, .int .i64 0, .string ⟨#[99]⟩, .slice none 0 0] 28)))
  have ga4 := Lib.hid (blk_below fa4.out (alloc_old (o := .cells #[.int .i64 4, .int .i64 0, .string ⟨#[99]⟩, .slice none 0 0] 28)))
  have gb4 := Lib.hid (blk_below fb4.out (alloc_old (o := .cells #[.int .i64 4, .int .i64 0, .string ⟨#[99]⟩, .slice none 0 0] 28)))
  have gR4 := Lib.hid (RO.below fR4.out (alloc_old (o := .cells #[.int .i64 4, .int .i64 0, .string ⟨#[99]⟩, .slice none 0 0] 28)))
  have gc4 := Lib.hid (blk_below fc4.out (alloc_old (o := .cells #[.int .i64 4, .int .i64 0, .string ⟨#[99]⟩, .slice none 0 0] 28)))
  have gd4 := Lib.hid (heap_alloc_new v4 (.cells #[.int .i64 4, .int .i64 0, .string ⟨#[99]⟩, .slice none 0 0] 28))
  have D5 := Lib.hid (t_e W0 bS bM (v4.alloc (.cells #[.int .i64 4, .int .i64 0, .string ⟨#[99]⟩, .slice none 0 0] 28)) M4.out (v4.heap.size + 1) (by simp))
  go_wp2_with (first | (go_at_call 8; (with_reducible refine (D5.out).mono ?_); rintro e v5 ⟨rfl, hL5, hK5⟩; have L5 := Lib.hid hL5; have fa5 := Lib.hid (keepL hK5 M4.out ga4.out (by decide)); have fb5 := Lib.hid (keepL hK5 M4.out gb4.out (by decide)); have fc5 := Lib.hid (keepL hK5 M4.out gc4.out (by decide)); have fd5 := Lib.hid (keepL hK5 M4.out gd4.out (by decide)); have fR5 := Lib.hid (RO.keepD hK5 M4.out gR4.out); clear hL5 hK5; refine Hid.out ?_))
  refine Lib.hid ?_
  have M5 := Lib.hid (L5.out.old (alloc_old (o := .cells #[.int .i64 4, .int .i64 0, .string ⟨#[99]⟩, .slice none 0 0] 28)))
  have ga5 := Lib.hid (blk_below fa5.out (alloc_old (o := .cells #[.int .i64 4, .int .i64 0, .string ⟨#[99]⟩, .slice none 0 0] 28)))
  have gb5 := Lib.hid (blk_below fb5.out (alloc_old (o := .cells #[.int .i64 4, .int .i64 0, .string ⟨#[99]⟩, .slice none 0 0] 28)))
  have gR5 := Lib.hid (RO.below fR5.out (alloc_old (o := .cells #[.int .i64 4, .int .i64 0, .string ⟨#[99]⟩, .slice none 0 0] 28)))
  have gc5 := Lib.hid (blk_below fc5.out (alloc_old (o := .cells #[.int .i64 4, .int .i64 0, .string ⟨#[99]⟩, .slice none 0 0] 28)))
  have gd5 := Lib.hid (blk_below fd5.out (alloc_old (o := .cells #[.int .i64 4, .int .i64 0, .string ⟨#[99]⟩, .slice none 0 0] 28)))
  have ge5 := Lib.hid (heap_alloc_new v5 (.cells #[.int .i64 4, .int .i64 0, .string ⟨#[99]⟩, .slice none 0 0] 28))
  have D6 := Lib.hid (t_f W0 bS bM (v5.alloc (.cells #[.int .i64 4, .int .i64 0, .string ⟨#[99]⟩, .slice none 0 0] 28)) M5.out (v5.heap.size + 1) (by simp))
  obtain ⟨⟨a0, a1, a2, a3⟩, _⟩ := cells4 ga5.out
  obtain ⟨⟨b0, b1, b2, b3⟩, _⟩ := cells4 gb5.out
  obtain ⟨⟨c0, c1, c2, c3⟩, _⟩ := cells4 gc5.out
  obtain ⟨⟨d0, d1, d2, d3⟩, _⟩ := cells4 gd5.out
  obtain ⟨⟨e0, e1, e2, e3⟩, _⟩ := cells4 ge5.out
  obtain ⟨rfl, ⟨g, rfl⟩, hcc⟩ := gR5.out.form (by simp)
  have cw := row_cell gR5.out 10 (.string ⟨#[99]⟩) rfl
  have fK : ∀ w, (Instr.field 28 (.agg #[.int .i64 5, .int .i64 0, .string ⟨#[]⟩, .slice none 0 0]) 0).run Tryz.prog w = .ok (.int .i64 5) w := fun w => by kernel_rfl
  go_wp2_with (first | (go_at_call 8; (with_reducible refine (D6.out).mono ?_); rintro e v6 ⟨rfl, hL6, _⟩; have L6 := Lib.hid hL6; clear hL6))
  go_ret
  exact ⟨by simp, L6.out.below⟩
end Go.Proofs.YtjljljjmdlddkaaGreatDoor

/- Rows of texts of the call's own: append. -/
namespace Go.Proofs.YtjljljjmdlddkaaGreatDoor
open Go.ChangeShapes Go.WideShapes Go.ChangeAt Go.RowKit

/-- A row of texts of the call's own. -/
def TO (w : World) (c : Nat) (v : Value) (xs : List ByteArray) : Prop := w.ownsRow c 9 1 v xs.length (xs.map Value.string)
theorem TO.ssl {w : World} {c : Nat} {v : Value} {xs : List ByteArray} (h : TO w c v xs) : SSl w v xs := by
  have h' := h
  unfold TO World.ownsRow at h'
  obtain ⟨_, ⟨rfl, h0⟩ | ⟨g, cap, cur, rfl, h1, h2, h3, h4, h5, h6⟩⟩ := h'
  · exact ⟨none, 0, by rw [h0], by omega, Nat.zero_le _, fun hne => absurd (List.length_eq_zero_iff.1 h0) hne⟩
  · refine ⟨_, cap, rfl, h3, h4, fun _ => ⟨g, 0, rfl, (Array.getElem?_eq_some_iff.1 h2).1, fun i s hi => ?_⟩⟩
    rw [Nat.zero_add]
    exact row_cell h i _ (by rw [List.getElem?_map, hi]; rfl)
theorem step_append_TO {ops : Array Oper} {o : Oper} {a : Act} {K : Act → World → Prop} {Q : Exit → Act → World → Prop} {E : Prop} (w : World) (hg : o.guard = none) (s x : Operand) (hop : o.op = Op.call { callee := Callee.builtin Builtin.append, args := #[s, x], argTypes := #[33, 33] })
    (c : Nat) (v : Value) (xs : List ByteArray) (N : Nat) (hN : xs.length = N) (hs : a.eval s = v) (h : TO w c v xs) (ys : List ByteArray) (M : Nat) (hM : ys.length = M) (b : Nat) (hx : a.eval x = .slice (some ⟨b, 0, none⟩) M M) (hb : w.heap[b]? = some (.cells (ys.map Value.string).toArray 9)) (hp : 0 < M) (hl : N + M ≤ 100000) (hc : c ≤ w.heap.size)
    (k : ∀ g cap w', TO w' c (.slice (some ⟨g, 0, none⟩) (N + M) cap) (xs ++ ys) → w.grownBy w' v.ownBlock → (v.ownBlock = some g ∨ g = w.heap.size) → K (a.put o.dst (.slice (some ⟨g, 0, none⟩) (N + M) cap)) w') :
    if Region.wanted o (yielded ops a.tmps) = true then Oper.wp Tryz.prog o a w K Q else E := by
  subst hN
  subst hM
  obtain ⟨i0, hi, hz0, hz1, hz2⟩ := info_parts i9
  refine step_append_lies w hg s x 33 hop c 9 i0 _ 1 16 Tryz.underlying33 hi hz0 hz1 hz2 rfl (by decide) v xs.length _ hs h ⟨b, 0, none⟩ ys.length ys.length (ys.map Value.string) hx (by simp) (news_blk hb) (map_one ys) hp (by unfold maxLen; omega) (by omega) hc _ rfl ?_
  intro g cap w' h1 h2 h3 _
  refine k g cap w' ?_ h2 h3
  unfold TO
  rw [List.length_append, List.map_append]
  exact h1
theorem append_TO {ops : Array Oper} {rest : List Oper} {o : Oper} {a : Act} {Q : Exit → Act → World → Prop} (w : World) (hg : o.guard = none) (s x : Operand) (hop : o.op = Op.call { callee := Callee.builtin Builtin.append, args := #[s, x], argTypes := #[33, 33] })
    (c : Nat) (v : Value) (xs : List ByteArray) (N : Nat) (hN : xs.length = N) (hs : a.eval s = v) (h : TO w c v xs) (ys : List ByteArray) (M : Nat) (hM : ys.length = M) (b : Nat) (hx : a.eval x = .slice (some ⟨b, 0, none⟩) M M) (hb : w.heap[b]? = some (.cells (ys.map Value.string).toArray 9)) (hp : 0 < M) (hl : N + M ≤ 100000) (hc : c ≤ w.heap.size)
    (k : ∀ g cap w', TO w' c (.slice (some ⟨g, 0, none⟩) (N + M) cap) (xs ++ ys) → w.grownBy w' v.ownBlock → (v.ownBlock = some g ∨ g = w.heap.size) → wpList Tryz.prog ops Q rest (a.put o.dst (.slice (some ⟨g, 0, none⟩) (N + M) cap)) w') : wpList Tryz.prog ops Q (o :: rest) a w := by
  subst hN
  subst hM
  obtain ⟨i0, hi, hz0, hz1, hz2⟩ := info_parts i9
  refine wpList_append_lies w hg s x 33 hop c 9 i0 _ 1 16 Tryz.underlying33 hi hz0 hz1 hz2 rfl (by decide) v xs.length _ hs h ⟨b, 0, none⟩ ys.length ys.length (ys.map Value.string) hx (by simp) (news_blk hb) (map_one ys) hp (by unfold maxLen; omega) (by omega) hc _ rfl ?_
  intro g cap w' h1 h2 h3 _
  refine k g cap w' ?_ h2 h3
  unfold TO
  rw [List.length_append, List.map_append]
  exact h1
theorem TO.lit (X : World) (xs : List ByteArray) (b : Nat) (c : Nat) (n : Nat) (hn : xs.length = n) (hm : n ≤ 1000) (hc : c ≤ b) (h : X.heap[b]? = some (.cells (xs.map Value.string).toArray 9)) : TO X c (.slice (some ⟨b, 0, none⟩) n n) xs := by
  subst hn
  unfold TO World.ownsRow
  refine ⟨by simp, .inr ⟨b, xs.length, _, rfl, hc, h, Nat.le_refl _, by unfold maxLen; omega, by simp, ?_⟩⟩
  exact List.take_of_length_le (by simp)
end Go.Proofs.YtjljljjmdlddkaaGreatDoor

/- Numbers' texts: Print, Number, and that they are read back. -/
namespace Go.Proofs.YtjljljjmdlddkaaGreatDoor
open Go.ChangeShapes Go.WideShapes Go.ChangeAt Go.RowKit

theorem val_dec (u : Nat) : val (Lib.decDigits u) = u ∧ (Lib.decDigits u).all dig = true := by
  induction u using Nat.strongRecOn with
  | _ u ih =>
    rw [Lib.decDigits]
    split
    · rename_i h
      have hc : (UInt8.ofNat (48 + u)).toNat = 48 + u := by rw [UInt8.toNat_ofNat']; omega
      refine ⟨by simp [val]; omega, ?_⟩
      simp only [List.all_cons, List.all_nil, Bool.and_true, dig, hc]
      exact decide_eq_true (by omega)
    · rename_i h
      have hc : (UInt8.ofNat (48 + u % 10)).toNat = 48 + u % 10 := by rw [UInt8.toNat_ofNat']; omega
      obtain ⟨h1, h2⟩ := ih (u / 10) (by omega)
      refine ⟨by rw [val_snoc, h1, hc]; omega, ?_⟩
      rw [List.all_append, h2]
      simp only [List.all_cons, List.all_nil, Bool.and_true, dig, hc]
      exact decide_eq_true (by omega)
theorem dec_head (u : Nat) : ∃ c r, Lib.decDigits u = c :: r ∧ (c.toNat = 48 → u = 0 ∧ r = []) ∧ 48 ≤ c.toNat ∧ c.toNat ≤ 57 := by
  induction u using Nat.strongRecOn with
  | _ u ih =>
    rw [Lib.decDigits]
    split
    · rename_i h
      have hc : (UInt8.ofNat (48 + u)).toNat = 48 + u := by rw [UInt8.toNat_ofNat']; omega
      exact ⟨_, _, rfl, fun g => ⟨by omega, rfl⟩, by omega, by omega⟩
    · rename_i h
      obtain ⟨c, r, h1, h2, h3⟩ := ih (u / 10) (by omega)
      rw [h1]
      refine ⟨c, r ++ [UInt8.ofNat (48 + u % 10)], by simp, fun g => ?_, h3⟩
      have := h2 g
      omega
theorem parse_itoa (n : Int) (h0 : -9223372036854775808 ≤ n) (h1 : n ≤ 9223372036854775807) : parseI (Lib.itoa n) = some n := by
  unfold Lib.itoa
  split
  · rename_i hn
    obtain ⟨c, r, e, hz, hc⟩ := dec_head n.natAbs
    obtain ⟨hv, ha⟩ := val_dec n.natAbs
    have hneg : isNeg (45 :: Lib.decDigits n.natAbs) = true := rfl
    have hb : body (45 :: Lib.decDigits n.natAbs) = Lib.decDigits n.natAbs := rfl
    have hac : acc true (val (Lib.decDigits n.natAbs)) = n := by rw [hv]; simp [acc]; omega
    have hp := parse_ok (45 :: Lib.decDigits n.natAbs) (by rw [hb, e]; simp) (by
      rw [hb, e]
      simp only [List.head?_cons, Option.some.injEq]
      rintro ⟨g, _⟩
      have := hz (by rw [g]; rfl)
      omega) (by rw [hb]; exact ha) (by rw [hneg, hb, hac]; exact rng_yes h0 h1)
    rw [hp, hneg, hb, hac]
  · rename_i hn
    obtain ⟨c, r, e, hz, hc⟩ := dec_head n.toNat
    obtain ⟨hv, ha⟩ := val_dec n.toNat
    have hneg : isNeg (Lib.decDigits n.toNat) = false := by
      rw [e]; unfold isNeg
      simp only [List.head?_cons]
      rw [beq_eq_false_iff_ne]
      intro g
      injection g with g
      rw [g] at hc
      have : (45 : UInt8).toNat = 45 := rfl
      omega
    have hb : body (Lib.decDigits n.toNat) = Lib.decDigits n.toNat := by unfold body; rw [hneg]; rfl
    have hac : acc false (val (Lib.decDigits n.toNat)) = n := by rw [hv]; simp [acc]; omega
    have hp := parse_ok (Lib.decDigits n.toNat) (by rw [hb, e]; simp) (by
      rw [hb, e]
      simp only [List.head?_cons, Option.some.injEq]
      rintro ⟨g, hl⟩
      have := hz (by rw [g]; rfl)
      rw [this.2] at hl
      simp at hl) (by rw [hb]; exact ha) (by rw [hneg, hb, hac]; exact rng_yes h0 h1)
    rw [hp, hneg, hb, hac]
/-- What a call leaves: nothing that was there at the beginning has turned. -/
def Tab (w0 : World) : Prop := Lib.TabIs Tryz.prog w0 "internal/strconv.uint64pow10" .u64 Lib.pow10Tab
theorem Tab.at_ {w0 w : World} (h : Tab w0) (hi : Below w0.heap.size w0 w) : Lib.TabIs Tryz.prog w "internal/strconv.uint64pow10" .u64 Lib.pow10Tab := Lib.tabBelow_of_tabIs h w hi
def I64 (n : Int) : Prop := -9223372036854775808 ≤ n ∧ n ≤ 9223372036854775807
/-- A number's text. -/
def numT (n : Int) : ByteArray := ⟨(Lib.itoa n).toArray⟩
theorem numT_size (n : Int) (hn : I64 n) : (numT n).size ≤ 21 := Lib.itoa_length_le n (by have := hn.1; omega) (by have := hn.2; omega)
theorem parse_numT (n : Int) (hn : I64 n) : parseI (numT n).data.toList = some n := parse_itoa n hn.1 hn.2
theorem Fmt82 {w0 : World} (hT : Tab w0) (n : Int) (hn : I64 n) (w : World) (hi : Below w0.heap.size w0 w) : Calls Tryz.prog 66 #[.int .i64 n, .int .i64 10] w fun e w' => e = .returned (.string (numT n)) ∧ Below w.heap.size w w' := by
  refine (Tryz.internal_strconv_FormatInt_10 n hn.1 hn.2 w (hT.at_ hi)).mono ?_
  rintro e w' ⟨rfl, k, os, rfl⟩
  exact ⟨rfl, Lib.below_grow _ w (Nat.le_refl _) k os⟩
theorem Number13 {w0 : World} (hT : Tab w0) (n : Int) (hn : I64 n) (w : World) (hi : Below w0.heap.size w0 w) : Calls Tryz.prog 9 #[.int .i64 n] w fun e w' => e = .returned (.string (numT n)) ∧ Below w.heap.size w w' := by
  have C := Lib.hid (show Calls Tryz.prog 14 #[.int .i64 n] w fun e w' => e = .returned (.string (numT n)) ∧ Below w.heap.size w w' from by
    refine (Tryz.strconv_Itoa n hn.1 hn.2 w (hT.at_ hi)).mono ?_
    rintro e w' ⟨rfl, k, os, rfl⟩
    exact ⟨rfl, Lib.below_grow _ w (Nat.le_refl _) k os⟩)
  clear hT hi hn
  go_enter Tryz.func9, Tryz.ntmps9
  go_wp2_with (go_at_call 14; refine (C.out).mono ?_; rintro e w' ⟨rfl, hi'⟩)
  go_ret
  exact ⟨by simp, by assumption⟩
end Go.Proofs.YtjljljjmdlddkaaGreatDoor
