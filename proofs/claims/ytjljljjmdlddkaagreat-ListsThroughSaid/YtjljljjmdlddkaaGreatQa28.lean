/- Texts joined: L16, G16, Iter, G17 -/
import Derived.Test.YtjljljjmdlddkaaGreatQa27
import Derived.Test.YtjljljjmdlddkaaGreatQa23
import Derived.Test.YtjljljjmdlddkaaGreatQa7
import Derived.Shelf.SlIter.Nil
import Derived.Shelf.SortM.Plain
import Derived.Shelf.SortM.SortNone
import Derived.Test.YtjljljjmdlddkaaGreatProg
import Derived.Test.YtjljljjmdlddkaaGreatQa12
import Derived.Deep.AppendLies

/- What the program tells of a few lists. -/
namespace Go.Proofs.YtjljljjmdlddkaaGreat
open Go.ChangeShapes Go.WideShapes Go.ChangeAt Go.RowKit

theorem LD.mk0 {W0 w : World} {bS bM : Nat} (h : SP w bS bM []) (hb : Below W0.heap.size W0 w) (h1 : W0.heap.size ≤ bS) (h2 : W0.heap.size ≤ bM) : LD W0 w bS bM [] := ⟨⟨⟨[], h, trivial⟩, fun _ h => by cases h⟩, hb, h1, h2⟩
theorem okL_of {k : ByteArray} {ys : List ByteArray} (h : (decide (1 ≤ k.size) && decide (k.size ≤ 512) && !ys.isEmpty && decide (ys.length ≤ 31) && ys.all (fun s => decide (s.size ≤ 4096))) = true) : okL k ys := by
  simp only [Bool.and_eq_true, decide_eq_true_eq, List.all_eq_true] at h
  obtain ⟨⟨⟨⟨h1, h2⟩, h3⟩, h4⟩, h5⟩ := h
  exact ⟨h1, h2, fun e => by subst e; simp at h3, h4, h5⟩
/-- A do with written arguments. -/
theorem lit0 {W0 : World} {bS bM : Nat} {D D' D2 : List (ByteArray × List ByteArray)} {k n n2 : Int} {s : ByteArray} (X : World) (hL : LD W0 X bS bM D) (xs : List ByteArray) (hn : xs.length ≤ 1000) (hd : ∀ vA w, LD W0 w bS bM D → SSl w vA xs → Calls Tryz.prog 6 #[.pointer (some ⟨bS, 0, none⟩), vA] w (DoP W0 bS bM D' k n s R0 w)) (hD : D' = D2) (hn2 : n = n2) : Calls Tryz.prog 6 #[.pointer (some ⟨bS, 0, none⟩), .slice (some ⟨X.heap.size, 0, none⟩) xs.length xs.length] (X.alloc (.cells (xs.map Value.string).toArray 9)) fun e w' => e = .returned (.agg #[.int .i64 k, .int .i64 n2, .string s, .slice none 0 0]) ∧ LD W0 w' bS bM D2 ∧ Kp X.heap.size (fun i => i ≠ bS ∧ i ≠ bM) X w' := by
  subst hD hn2
  have hb : Below X.heap.size X (X.alloc (.cells (xs.map Value.string).toArray 9)) := alloc_old
  refine (hd _ _ (hL.old hb) (SSl.lit X xs hn)).mono ?_
  rintro e w' ⟨A, m, c, rfl, hR, h2, h3⟩
  cases hR
  exact ⟨rfl, h2, (Kp.of hb).trans (h3.mono (Below.size hb) (fun _ h => h))⟩
theorem litR {W0 : World} {bS bM : Nat} {D D' D2 : List (ByteArray × List ByteArray)} {k n n2 : Int} {s : ByteArray} {R R2 : Nat → World → Value → Prop} (hK : RKeep R) (X : World) (hL : LD W0 X bS bM D) (xs : List ByteArray) (hn : xs.length ≤ 1000) (hd : ∀ vA w, LD W0 w bS bM D → SSl w vA xs → Calls Tryz.prog 6 #[.pointer (some ⟨bS, 0, none⟩), vA] w (DoP W0 bS bM D' k n s R w)) (hD : D' = D2) (hn2 : n = n2) (hR2 : R = R2) : Calls Tryz.prog 6 #[.pointer (some ⟨bS, 0, none⟩), .slice (some ⟨X.heap.size, 0, none⟩) xs.length xs.length] (X.alloc (.cells (xs.map Value.string).toArray 9)) fun e w' => ∃ A m c, e = .returned (.agg #[.int .i64 k, .int .i64 n2, .string s, .slice A m c]) ∧ R2 X.heap.size w' (.slice A m c) ∧ LD W0 w' bS bM D2 ∧ Kp X.heap.size (fun i => i ≠ bS ∧ i ≠ bM) X w' := by
  subst hD hn2 hR2
  have hb : Below X.heap.size X (X.alloc (.cells (xs.map Value.string).toArray 9)) := alloc_old
  refine (hd _ _ (hL.old hb) (SSl.lit X xs hn)).mono ?_
  rintro e w' ⟨A, m, c, rfl, hR, h2, h3⟩
  exact ⟨A, m, c, rfl, hK.mono _ _ _ _ hR (Below.size hb), h2, (Kp.of hb).trans (h3.mono (Below.size hb) (fun _ h => h))⟩
theorem LD.ne {W0 w : World} {bS bM : Nat} {D : List (ByteArray × List ByteArray)} (h : LD W0 w bS bM D) {b : Nat} {cs : Array Value} {t : TypeId} (hb : w.heap[b]? = some (.cells cs t)) (ht : t ≠ 35) : b ≠ bS ∧ b ≠ bM := SPG.ne KL okL h.sp hb ht
theorem RO.own {rs : List (Option ByteArray)} {c : Nat} {v : Value} {X : World} (h : RO rs c X v) : ∀ g, v.ownBlock = some g → ∃ cur, X.heap[g]? = some (.cells cur 28) := by
  intro g hg
  unfold RO World.ownsRow at h
  obtain ⟨_, ⟨rfl, _⟩ | ⟨g', cap, cur, rfl, _, h2, _⟩⟩ := h
  · cases hg
  · cases hg
    exact ⟨cur, h2⟩
theorem RO.below {rs : List (Option ByteArray)} {c : Nat} {v : Value} {X Y : World} (h : RO rs c X v) (hb : Below X.heap.size X Y) : RO rs c Y v := row_below h hb
theorem RO.keepD {rs : List (Option ByteArray)} {c : Nat} {v : Value} {X Y W0 : World} {bS bM : Nat} {D : List (ByteArray × List ByteArray)} (hK : Kp X.heap.size (fun i => i ≠ bS ∧ i ≠ bM) X Y) (h : LD W0 X bS bM D) (hb : RO rs c X v) : RO rs c Y v := row_kept hb (fun g hg => by
  obtain ⟨cur, hh⟩ := hb.own g hg
  exact hK.block g (lt_blk hh) (h.ne hh (by decide)))
theorem RO.form {rs : List (Option ByteArray)} {c : Nat} {w : World} {A : Option Addr} {m cc : Nat} (h : RO rs c w (.slice A m cc)) (hne : rs ≠ []) : m = rs.length ∧ (∃ g, A = some ⟨g, 0, none⟩) ∧ m ≤ cc := by
  unfold RO World.ownsRow at h
  obtain ⟨_, ⟨h1, h0⟩ | ⟨g, cap, cur, h1, _, _, h3, _⟩⟩ := h
  · exact absurd (List.eq_nil_of_length_eq_zero h0) hne
  · cases h1
    exact ⟨rfl, ⟨g, rfl⟩, h3⟩
theorem keepL {X Y W0 : World} {bS bM b : Nat} {D : List (ByteArray × List ByteArray)} {cs : Array Value} {t : TypeId} (hK : Kp X.heap.size (fun i => i ≠ bS ∧ i ≠ bM) X Y) (h : LD W0 X bS bM D) (hb : X.heap[b]? = some (.cells cs t)) (ht : t ≠ 35) : Y.heap[b]? = some (.cells cs t) :=
  (hK.block b (lt_blk hb) (h.ne hb ht)).trans hb
theorem t_a (W0 : World) (bS bM : Nat) (X : World) (hL : LD W0 X bS bM []) (q : Nat) (hq : X.heap.size = q) : Calls Tryz.prog 6 #[.pointer (some ⟨bS, 0, none⟩), .slice (some ⟨q, 0, none⟩) 6 6] (X.alloc (.cells #[.string ⟨#[82, 80, 85, 83, 72]⟩, .string ⟨#[107]⟩, .string ⟨#[97]⟩, .string ⟨#[98]⟩, .string ⟨#[99]⟩, .string ⟨#[97]⟩] 9)) fun e w' => e = .returned (.agg #[.int .i64 3, .int .i64 4, .string ⟨#[]⟩, .slice none 0 0]) ∧ LD W0 w' bS bM [(⟨#[107]⟩, [⟨#[97]⟩, ⟨#[98]⟩, ⟨#[99]⟩, ⟨#[97]⟩])] ∧ Kp X.heap.size (fun i => i ≠ bS ∧ i ≠ bM) X w' := by
  subst hq
  exact lit0 X hL [⟨#[82, 80, 85, 83, 72]⟩, ⟨#[107]⟩, ⟨#[97]⟩, ⟨#[98]⟩, ⟨#[99]⟩, ⟨#[97]⟩] (by simp) (fun vA w h hA => d_RPUSH W0 bS bM [] ⟨#[107]⟩ [⟨#[97]⟩, ⟨#[98]⟩, ⟨#[99]⟩, ⟨#[97]⟩] (by simp [findD]) (by simp) (okL_of (by kernel_rfl)) (by simp) vA w h hA) (by kernel_rfl) (by kernel_rfl)
theorem t_b (W0 : World) (bS bM : Nat) (X : World) (hL : LD W0 X bS bM [(⟨#[107]⟩, [⟨#[97]⟩, ⟨#[98]⟩, ⟨#[99]⟩, ⟨#[97]⟩])]) (q : Nat) (hq : X.heap.size = q) : Calls Tryz.prog 6 #[.pointer (some ⟨bS, 0, none⟩), .slice (some ⟨q, 0, none⟩) 4 4] (X.alloc (.cells #[.string ⟨#[76, 82, 69, 77]⟩, .string ⟨#[107]⟩, .string ⟨#[45, 49]⟩, .string ⟨#[97]⟩] 9)) fun e w' => e = .returned (.agg #[.int .i64 3, .int .i64 1, .string ⟨#[]⟩, .slice none 0 0]) ∧ LD W0 w' bS bM [(⟨#[107]⟩, [⟨#[97]⟩, ⟨#[98]⟩, ⟨#[99]⟩])] ∧ Kp X.heap.size (fun i => i ≠ bS ∧ i ≠ bM) X w' := by
  subst hq
  exact lit0 X hL [⟨#[76, 82, 69, 77]⟩, ⟨#[107]⟩, ⟨#[45, 49]⟩, ⟨#[97]⟩] (by simp) (fun vA w h hA => d_LREM W0 bS bM [(⟨#[107]⟩, [⟨#[97]⟩, ⟨#[98]⟩, ⟨#[99]⟩, ⟨#[97]⟩])] ⟨#[107]⟩ ⟨#[45, 49]⟩ (-1) (by decide) (by kernel_rfl) (by omega) ⟨#[97]⟩ [⟨#[97]⟩, ⟨#[98]⟩, ⟨#[99]⟩, ⟨#[97]⟩] (by kernel_rfl) (by simp) vA w h hA) (by kernel_rfl) (by kernel_rfl)
theorem t_c (W0 : World) (bS bM : Nat) (X : World) (hL : LD W0 X bS bM [(⟨#[107]⟩, [⟨#[97]⟩, ⟨#[98]⟩, ⟨#[99]⟩])]) (q : Nat) (hq : X.heap.size = q) : Calls Tryz.prog 6 #[.pointer (some ⟨bS, 0, none⟩), .slice (some ⟨q, 0, none⟩) 4 4] (X.alloc (.cells #[.string ⟨#[76, 82, 65, 78, 71, 69]⟩, .string ⟨#[107]⟩, .string ⟨#[48]⟩, .string ⟨#[45, 49]⟩] 9)) fun e w' => ∃ A m c, e = .returned (.agg #[.int .i64 6, .int .i64 0, .string ⟨#[]⟩, .slice A m c]) ∧ (RO [some ⟨#[97]⟩, some ⟨#[98]⟩, some ⟨#[99]⟩]) X.heap.size w' (.slice A m c) ∧ LD W0 w' bS bM [(⟨#[107]⟩, [⟨#[97]⟩, ⟨#[98]⟩, ⟨#[99]⟩])] ∧ Kp X.heap.size (fun i => i ≠ bS ∧ i ≠ bM) X w' := by
  subst hq
  exact litR (RO.keep _) X hL [⟨#[76, 82, 65, 78, 71, 69]⟩, ⟨#[107]⟩, ⟨#[48]⟩, ⟨#[45, 49]⟩] (by simp) (fun vA w h hA => d_LRANGE W0 bS bM [(⟨#[107]⟩, [⟨#[97]⟩, ⟨#[98]⟩, ⟨#[99]⟩])] ⟨#[107]⟩ ⟨#[48]⟩ (0) (by decide) (by kernel_rfl) (by omega) ⟨#[45, 49]⟩ (-1) (by decide) (by kernel_rfl) (by omega) [⟨#[97]⟩, ⟨#[98]⟩, ⟨#[99]⟩] (by kernel_rfl) (by simp) vA w h hA) (by kernel_rfl) (by kernel_rfl) (by kernel_rfl)
theorem t_d (W0 : World) (bS bM : Nat) (X : World) (hL : LD W0 X bS bM [(⟨#[107]⟩, [⟨#[97]⟩, ⟨#[98]⟩, ⟨#[99]⟩])]) (q : Nat) (hq : X.heap.size = q) : Calls Tryz.prog 6 #[.pointer (some ⟨bS, 0, none⟩), .slice (some ⟨q, 0, none⟩) 3 3] (X.alloc (.cells #[.string ⟨#[82, 80, 79, 80, 76, 80, 85, 83, 72]⟩, .string ⟨#[107]⟩, .string ⟨#[107]⟩] 9)) fun e w' => e = .returned (.agg #[.int .i64 4, .int .i64 0, .string ⟨#[99]⟩, .slice none 0 0]) ∧ LD W0 w' bS bM [(⟨#[107]⟩, [⟨#[99]⟩, ⟨#[97]⟩, ⟨#[98]⟩])] ∧ Kp X.heap.size (fun i => i ≠ bS ∧ i ≠ bM) X w' := by
  subst hq
  exact lit0 X hL [⟨#[82, 80, 79, 80, 76, 80, 85, 83, 72]⟩, ⟨#[107]⟩, ⟨#[107]⟩] (by simp) (fun vA w h hA => d_TURN W0 bS bM [(⟨#[107]⟩, [⟨#[97]⟩, ⟨#[98]⟩, ⟨#[99]⟩])] ⟨#[107]⟩ [⟨#[97]⟩, ⟨#[98]⟩, ⟨#[99]⟩] (by kernel_rfl) (by simp) ⟨#[99]⟩ (by kernel_rfl) vA w h hA) (by kernel_rfl) (by kernel_rfl)
theorem t_e (W0 : World) (bS bM : Nat) (X : World) (hL : LD W0 X bS bM [(⟨#[107]⟩, [⟨#[99]⟩, ⟨#[97]⟩, ⟨#[98]⟩])]) (q : Nat) (hq : X.heap.size = q) : Calls Tryz.prog 6 #[.pointer (some ⟨bS, 0, none⟩), .slice (some ⟨q, 0, none⟩) 3 3] (X.alloc (.cells #[.string ⟨#[76, 73, 78, 68, 69, 88]⟩, .string ⟨#[107]⟩, .string ⟨#[48]⟩] 9)) fun e w' => e = .returned (.agg #[.int .i64 4, .int .i64 0, .string ⟨#[99]⟩, .slice none 0 0]) ∧ LD W0 w' bS bM [(⟨#[107]⟩, [⟨#[99]⟩, ⟨#[97]⟩, ⟨#[98]⟩])] ∧ Kp X.heap.size (fun i => i ≠ bS ∧ i ≠ bM) X w' := by
  subst hq
  exact lit0 X hL [⟨#[76, 73, 78, 68, 69, 88]⟩, ⟨#[107]⟩, ⟨#[48]⟩] (by simp) (fun vA w h hA => d_LINDEX W0 bS bM [(⟨#[107]⟩, [⟨#[99]⟩, ⟨#[97]⟩, ⟨#[98]⟩])] ⟨#[107]⟩ ⟨#[48]⟩ (0) (by decide) (by kernel_rfl) (by omega) 0 ⟨#[99]⟩ [⟨#[99]⟩, ⟨#[97]⟩, ⟨#[98]⟩] (by kernel_rfl) (by simp) (.inl ⟨by omega, by simp, rfl⟩) (by kernel_rfl) vA w h hA) (by kernel_rfl) (by kernel_rfl)
theorem t_f (W0 : World) (bS bM : Nat) (X : World) (hL : LD W0 X bS bM [(⟨#[107]⟩, [⟨#[99]⟩, ⟨#[97]⟩, ⟨#[98]⟩])]) (q : Nat) (hq : X.heap.size = q) : Calls Tryz.prog 6 #[.pointer (some ⟨bS, 0, none⟩), .slice (some ⟨q, 0, none⟩) 2 2] (X.alloc (.cells #[.string ⟨#[76, 80, 79, 80]⟩, .string ⟨#[110, 111, 110, 101]⟩] 9)) fun e w' => e = .returned (.agg #[.int .i64 5, .int .i64 0, .string ⟨#[]⟩, .slice none 0 0]) ∧ LD W0 w' bS bM [(⟨#[107]⟩, [⟨#[99]⟩, ⟨#[97]⟩, ⟨#[98]⟩])] ∧ Kp X.heap.size (fun i => i ≠ bS ∧ i ≠ bM) X w' := by
  subst hq
  exact lit0 X hL [⟨#[76, 80, 79, 80]⟩, ⟨#[110, 111, 110, 101]⟩] (by simp) (fun vA w h hA => d_LPOP0 W0 bS bM [(⟨#[107]⟩, [⟨#[99]⟩, ⟨#[97]⟩, ⟨#[98]⟩])] ⟨#[110, 111, 110, 101]⟩ (by kernel_rfl) vA w h hA) (by kernel_rfl) (by kernel_rfl)
set_option maxRecDepth 100000 in
set_option maxHeartbeats 8000000 in
theorem told (W0 : World) : Calls Tryz.prog 4 #[] W0 fun e w' => e = .returned (.bool true) ∧ Below W0.heap.size W0 w' := by
  have NW := Lib.hid (New9 W0)
  go_enter Tryz.func4, Tryz.ntmps4
  go_wp2_with (first | (go_at_call 5; (with_reducible refine (NW.out).mono ?_); rintro e v0 ⟨bS, bM, rfl, hS0, hbS, hbM, hB0⟩; have L0 := Lib.hid (LD.mk0 hS0 hB0 hbS hbM); clear hS0 hbS hbM hB0; refine Hid.out ?_))
  refine Lib.hid ?_
  have D1 := Lib.hid (t_a W0 bS bM (v0) L0.out (v0.heap.size) rfl)
  go_wp2_with (first | (go_at_call 6; (with_reducible refine (D1.out).mono ?_); rintro e v1 ⟨rfl, hL1, hK1⟩; have L1 := Lib.hid hL1; clear hL1 hK1; refine Hid.out ?_))
  refine Lib.hid ?_
  have M1 := Lib.hid (L1.out.old (alloc_old (o := .cells #[.int .i64 3, .int .i64 4, .string ⟨#[]⟩, .slice none 0 0] 28)))
  have ga1 := Lib.hid (heap_alloc_new v1 (.cells #[.int .i64 3, .int .i64 4, .string ⟨#[]⟩, .slice none 0 0] 28))
  have D2 := Lib.hid (t_b W0 bS bM (v1.alloc (.cells #[.int .i64 3, .int .i64 4, .string ⟨#[]⟩, .slice none 0 0] 28)) M1.out (v1.heap.size + 1) (by simp))
  go_wp2_with (first | (go_at_call 6; (with_reducible refine (D2.out).mono ?_); rintro e v2 ⟨rfl, hL2, hK2⟩; have L2 := Lib.hid hL2; have fa2 := Lib.hid (keepL hK2 M1.out ga1.out (by decide)); clear hL2 hK2; refine Hid.out ?_))
  refine Lib.hid ?_
  have M2 := Lib.hid (L2.out.old (alloc_old (o := .cells #[.int .i64 3, .int .i64 1, .string ⟨#[]⟩, .slice none 0 0] 28)))
  have ga2 := Lib.hid (blk_below fa2.out (alloc_old (o := .cells #[.int .i64 3, .int .i64 1, .string ⟨#[]⟩, .slice none 0 0] 28)))
  have gb2 := Lib.hid (heap_alloc_new v2 (.cells #[.int .i64 3, .int .i64 1, .string ⟨#[]⟩, .slice none 0 0] 28))
  have D3 := Lib.hid (t_c W0 bS bM (v2.alloc (.cells #[.int .i64 3, .int .i64 1, .string ⟨#[]⟩, .slice none 0 0] 28)) M2.out (v2.heap.size + 1) (by simp))
  go_wp2_with (first | (go_at_call 6; (with_reducible refine (D3.out).mono ?_); rintro e v3 ⟨A, m, cc, rfl, hR3, hL3, hK3⟩; have L3 := Lib.hid hL3; have fa3 := Lib.hid (keepL hK3 M2.out ga2.out (by decide)); have fb3 := Lib.hid (keepL hK3 M2.out gb2.out (by decide)); have fR3 := Lib.hid hR3; clear hL3 hK3 hR3; refine Hid.out ?_))
  refine Lib.hid ?_
  have M3 := Lib.hid (L3.out.old (alloc_old (o := .cells #[.int .i64 6, .int .i64 0, .string ⟨#[]⟩, .slice A m cc] 28)))
  have ga3 := Lib.hid (blk_below fa3.out (alloc_old (o := .cells #[.int .i64 6, .int .i64 0, .string ⟨#[]⟩, .slice A m cc] 28)))
  have gb3 := Lib.hid (blk_below fb3.out (alloc_old (o := .cells #[.int .i64 6, .int .i64 0, .string ⟨#[]⟩, .slice A m cc] 28)))
  have gR3 := Lib.hid (RO.below fR3.out (alloc_old (o := .cells #[.int .i64 6, .int .i64 0, .string ⟨#[]⟩, .slice A m cc] 28)))
  have gc3 := Lib.hid (heap_alloc_new v3 (.cells #[.int .i64 6, .int .i64 0, .string ⟨#[]⟩, .slice A m cc] 28))
  have D4 := Lib.hid (t_d W0 bS bM (v3.alloc (.cells #[.int .i64 6, .int .i64 0, .string ⟨#[]⟩, .slice A m cc] 28)) M3.out (v3.heap.size + 1) (by simp))
  go_wp2_with (first | (go_at_call 6; (with_reducible refine (D4.out).mono ?_); rintro e v4 ⟨rfl, hL4, hK4⟩; have L4 := Lib.hid hL4; have fa4 := Lib.hid (keepL hK4 M3.out ga3.out (by decide)); have fb4 := Lib.hid (keepL hK4 M3.out gb3.out (by decide)); have fc4 := Lib.hid (keepL hK4 M3.out gc3.out (by decide)); have fR4 := Lib.hid (RO.keepD hK4 M3.out gR3.out); clear hL4 hK4; refine Hid.out ?_))
  refine Lib.hid ?_
  have M4 := Lib.hid (L4.out.old (alloc_old (o := .cells #[.int .i64 4, .int .i64 0, .string ⟨#[99]⟩, .slice none 0 0] 28)))
  have ga4 := Lib.hid (blk_below fa4.out (alloc_old (o := .cells #[.int .i64 4, .int .i64 0, .string ⟨#[99]⟩, .slice none 0 0] 28)))
  have gb4 := Lib.hid (blk_below fb4.out (alloc_old (o := .cells #[.int .i64 4, .int .i64 0, .string ⟨#[99]⟩, .slice none 0 0] 28)))
  have gR4 := Lib.hid (RO.below fR4.out (alloc_old (o := .cells #[.int .i64 4, .int .i64 0, .string ⟨#[99]⟩, .slice none 0 0] 28)))
  have gc4 := Lib.hid (blk_below fc4.out (alloc_old (o := .cells #[.int .i64 4, .int .i64 0, .string ⟨#[99]⟩, .slice none 0 0] 28)))
  have gd4 := Lib.hid (heap_alloc_new v4 (.cells #[.int .i64 4, .int .i64 0, .string ⟨#[99]⟩, .slice none 0 0] 28))
  have D5 := Lib.hid (t_e W0 bS bM (v4.alloc (.cells #[.int .i64 4, .int .i64 0, .string ⟨#[99]⟩, .slice none 0 0] 28)) M4.out (v4.heap.size + 1) (by simp))
  go_wp2_with (first | (go_at_call 6; (with_reducible refine (D5.out).mono ?_); rintro e v5 ⟨rfl, hL5, hK5⟩; have L5 := Lib.hid hL5; have fa5 := Lib.hid (keepL hK5 M4.out ga4.out (by decide)); have fb5 := Lib.hid (keepL hK5 M4.out gb4.out (by decide)); have fc5 := Lib.hid (keepL hK5 M4.out gc4.out (by decide)); have fd5 := Lib.hid (keepL hK5 M4.out gd4.out (by decide)); have fR5 := Lib.hid (RO.keepD hK5 M4.out gR4.out); clear hL5 hK5; refine Hid.out ?_))
  refine Lib.hid ?_
  have M5 := Lib.hid (L5.out.old (alloc_old (o := .cells #[.int .i64 4, .int .i64 0, .string ⟨#[99]⟩, .slice none 0 0] 28)))
  have ga5 := Lib.hid (blk_below fa5.out (alloc_old (o := .cells #[.int .i64 4, .int .i64 0, .string ⟨#[99]⟩, .slice none 0 0] 28)))
  have gb5 := Lib.hid (blk_below fb5.out (alloc_old (o := .cells #[.int .i64 4, .int .i64 0, .string ⟨#[99]⟩, .slice none 0 0] 28)))
  have gR5 := Lib.hid (RO.below fR5.out (alloc_old (o := .cells #[.int .i64 4, .int .i64 0, .string ⟨#[99]⟩, .slice none 0 0] 28)))
  have gc5 := Lib.hid (blk_below fc5.out (alloc_old (o := .cells #[.int .i64 4, .int .i64 0, .string ⟨#[99]⟩, .slice none 0 0] 28)))
  have gd5 := Lib.hid (blk_below fd5.out (alloc_old (o := .cells #[.int .i64 4, .int .i64 0, .string ⟨#[99]⟩, .slice none 0 0] 28)))
  have ge5 := Lib.hid (heap_alloc_new v5 (.cells #[.int .i64 4, .int .i64 0, .string ⟨#[99]⟩, .slice none 0 0] 28))
  have D6 := Lib.hid (t_f W0 bS bM (v5.alloc (.cells #[.int .i64 4, .int .i64 0, .string ⟨#[99]⟩, .slice none 0 0] 28)) M5.out (v5.heap.size + 1) (by simp))
  obtain ⟨⟨a0, a1, a2, a3⟩, _⟩ := cells4 ga5.out
  obtain ⟨⟨b0, b1, b2, b3⟩, _⟩ := cells4 gb5.out
  obtain ⟨⟨c0, c1, c2, c3⟩, _⟩ := cells4 gc5.out
  obtain ⟨⟨d0, d1, d2, d3⟩, _⟩ := cells4 gd5.out
  obtain ⟨⟨e0, e1, e2, e3⟩, _⟩ := cells4 ge5.out
  obtain ⟨rfl, ⟨g, rfl⟩, hcc⟩ := gR5.out.form (by simp)
  have cw := row_cell gR5.out 10 (.string ⟨#[99]⟩) rfl
  have fK : ∀ w, (Instr.field 28 (.agg #[.int .i64 5, .int .i64 0, .string ⟨#[]⟩, .slice none 0 0]) 0).run Tryz.prog w = .ok (.int .i64 5) w := fun w => by kernel_rfl
  go_wp2_with (first | (go_at_call 6; (with_reducible refine (D6.out).mono ?_); rintro e v6 ⟨rfl, hL6, _⟩; have L6 := Lib.hid hL6; clear hL6))
  go_ret
  exact ⟨by simp, L6.out.below⟩
end Go.Proofs.YtjljljjmdlddkaaGreat

/- Rows of texts of the call's own: append. -/
namespace Go.Proofs.YtjljljjmdlddkaaGreat
open Go.ChangeShapes Go.WideShapes Go.ChangeAt Go.RowKit

/-- A row of texts of the call's own. -/
def TO (w : World) (c : Nat) (v : Value) (xs : List ByteArray) : Prop := w.ownsRow c 9 1 v xs.length (xs.map Value.string)
theorem TO.ssl {w : World} {c : Nat} {v : Value} {xs : List ByteArray} (h : TO w c v xs) : SSl w v xs := by
  have h' := h
  unfold TO World.ownsRow at h'
  obtain ⟨_, ⟨rfl, h0⟩ | ⟨g, cap, cur, rfl, h1, h2, h3, h4, h5, h6⟩⟩ := h'
  · exact ⟨none, 0, by rw [h0], by omega, Nat.zero_le _, fun hne => absurd (List.length_eq_zero_iff.1 h0) hne⟩
  · refine ⟨_, cap, rfl, h3, h4, fun _ => ⟨g, 0, rfl, (Array.getElem?_eq_some_iff.1 h2).1, fun i s hi => ?_⟩⟩
    rw [Nat.zero_add]
    exact row_cell h i _ (by rw [List.getElem?_map, hi]; rfl)
theorem step_append_TO {ops : Array Oper} {o : Oper} {a : Act} {K : Act → World → Prop} {Q : Exit → Act → World → Prop} {E : Prop} (w : World) (hg : o.guard = none) (s x : Operand) (hop : o.op = Op.call { callee := Callee.builtin Builtin.append, args := #[s, x], argTypes := #[22, 22] })
    (c : Nat) (v : Value) (xs : List ByteArray) (N : Nat) (hN : xs.length = N) (hs : a.eval s = v) (h : TO w c v xs) (ys : List ByteArray) (M : Nat) (hM : ys.length = M) (b : Nat) (hx : a.eval x = .slice (some ⟨b, 0, none⟩) M M) (hb : w.heap[b]? = some (.cells (ys.map Value.string).toArray 9)) (hp : 0 < M) (hl : N + M ≤ 100000) (hc : c ≤ w.heap.size)
    (k : ∀ g cap w', TO w' c (.slice (some ⟨g, 0, none⟩) (N + M) cap) (xs ++ ys) → w.grownBy w' v.ownBlock → (v.ownBlock = some g ∨ g = w.heap.size) → K (a.put o.dst (.slice (some ⟨g, 0, none⟩) (N + M) cap)) w') :
    if Region.wanted o (yielded ops a.tmps) = true then Oper.wp Tryz.prog o a w K Q else E := by
  subst hN
  subst hM
  obtain ⟨i0, hi, hz0, hz1, hz2⟩ := info_parts i9
  refine step_append_lies w hg s x 22 hop c 9 i0 _ 1 16 Tryz.underlying22 hi hz0 hz1 hz2 rfl (by decide) v xs.length _ hs h ⟨b, 0, none⟩ ys.length ys.length (ys.map Value.string) hx (by simp) (news_blk hb) (map_one ys) hp (by unfold maxLen; omega) (by omega) hc _ rfl ?_
  intro g cap w' h1 h2 h3 _
  refine k g cap w' ?_ h2 h3
  unfold TO
  rw [List.length_append, List.map_append]
  exact h1
theorem append_TO {ops : Array Oper} {rest : List Oper} {o : Oper} {a : Act} {Q : Exit → Act → World → Prop} (w : World) (hg : o.guard = none) (s x : Operand) (hop : o.op = Op.call { callee := Callee.builtin Builtin.append, args := #[s, x], argTypes := #[22, 22] })
    (c : Nat) (v : Value) (xs : List ByteArray) (N : Nat) (hN : xs.length = N) (hs : a.eval s = v) (h : TO w c v xs) (ys : List ByteArray) (M : Nat) (hM : ys.length = M) (b : Nat) (hx : a.eval x = .slice (some ⟨b, 0, none⟩) M M) (hb : w.heap[b]? = some (.cells (ys.map Value.string).toArray 9)) (hp : 0 < M) (hl : N + M ≤ 100000) (hc : c ≤ w.heap.size)
    (k : ∀ g cap w', TO w' c (.slice (some ⟨g, 0, none⟩) (N + M) cap) (xs ++ ys) → w.grownBy w' v.ownBlock → (v.ownBlock = some g ∨ g = w.heap.size) → wpList Tryz.prog ops Q rest (a.put o.dst (.slice (some ⟨g, 0, none⟩) (N + M) cap)) w') : wpList Tryz.prog ops Q (o :: rest) a w := by
  subst hN
  subst hM
  obtain ⟨i0, hi, hz0, hz1, hz2⟩ := info_parts i9
  refine wpList_append_lies w hg s x 22 hop c 9 i0 _ 1 16 Tryz.underlying22 hi hz0 hz1 hz2 rfl (by decide) v xs.length _ hs h ⟨b, 0, none⟩ ys.length ys.length (ys.map Value.string) hx (by simp) (news_blk hb) (map_one ys) hp (by unfold maxLen; omega) (by omega) hc _ rfl ?_
  intro g cap w' h1 h2 h3 _
  refine k g cap w' ?_ h2 h3
  unfold TO
  rw [List.length_append, List.map_append]
  exact h1
theorem TO.lit (X : World) (xs : List ByteArray) (b : Nat) (c : Nat) (n : Nat) (hn : xs.length = n) (hm : n ≤ 1000) (hc : c ≤ b) (h : X.heap[b]? = some (.cells (xs.map Value.string).toArray 9)) : TO X c (.slice (some ⟨b, 0, none⟩) n n) xs := by
  subst hn
  unfold TO World.ownsRow
  refine ⟨by simp, .inr ⟨b, xs.length, _, rfl, hc, h, Nat.le_refl _, by unfold maxLen; omega, by simp, ?_⟩⟩
  exact List.take_of_length_le (by simp)
end Go.Proofs.YtjljljjmdlddkaaGreat

/-
  DERIVED: THE SHELF's CONTRACTS AT THIS DUMP, IN PLAIN WORDS (tools/lay-plain.mjs out of 'TryzIter.lean', which tools/lay-shelf.mjs wrote): THE SAME DECLARATIONS UNDER THE SAME NAMES: 'import', 'namespace', 'open', 'def', 'theorem' AND NOTHING ELSE: no command of the shelf's: FOR A HAND-IN. Each laying: the table of numbers ('.._ren') and one theorem, a field a fact of the dump's own or the kernel's comparison; each contract: ONE APPLICATION.
-/
namespace Go.Proofs
open Go.Shelf
def Tryz.keys12_ren : Go.Shelf.Ren := ⟨fun | 7 => 12 | 10 => 33 | n => n, fun | 23 => 33 | 26 => 9 | 3 => 45 | 28 => 52 | 0 => 0 | 27 => 51 | 33 => 48 | 4 => 4 | n => n, fun | n => n⟩
theorem Tryz.keys12 : Go.Proofs.SlLaysZ.n7 Tryz.prog Tryz.keys12_ren := {
  mixed := by kernel_rfl
  f7 := ⟨Tryz.f12.name, by decide, Tryz.func12.trans (congrArg some (by kernel_rfl))⟩
  f10 := ⟨Tryz.f33.name, by decide, Tryz.func33.trans (congrArg some (by kernel_rfl))⟩
  t0 := Tryz.underlying0
  a0 := Tryz.isAgg0
  z0 := Tryz.sizeOf0
  v0 := Tryz.zeroValue0
  t4 := Tryz.underlying4
  a4 := Tryz.isAgg4
  z4 := Tryz.sizeOf4
  v4 := Tryz.zeroValue4
  t23 := Tryz.underlying33
  a23 := Tryz.isAgg33
  z23 := Tryz.sizeOf33
  v23 := Tryz.zeroValue33
  t26 := Tryz.underlying9
  a26 := Tryz.isAgg9
  z26 := Tryz.sizeOf9
  v26 := Tryz.zeroValue9
  t27 := Tryz.underlying51
  a27 := Tryz.isAgg51
  z27 := Tryz.sizeOf51
  v27 := Tryz.zeroValue51
  t28 := Tryz.underlying52
  a28 := Tryz.isAgg52
  z28 := Tryz.sizeOf52
  v28 := Tryz.zeroValue52
  t33 := Tryz.underlying48
  a33 := Tryz.isAgg48
  z33 := Tryz.sizeOf48
  v33 := Tryz.zeroValue48 }
def Tryz.sorted11_ren : Go.Shelf.Ren := ⟨fun | 6 => 11 | 8 => 31 | 9 => 32 | 11 => 61 | 13 => 63 | 12 => 62 | 23 => 102 | 24 => 103 | 14 => 93 | 15 => 94 | 16 => 95 | 17 => 96 | 18 => 97 | 19 => 98 | 20 => 99 | 21 => 100 | 22 => 101 | 25 => 121 | 26 => 122 | 27 => 123 | 28 => 124 | 29 => 125 | 30 => 126 | 31 => 140 | n => n, fun | 26 => 9 | 28 => 52 | 24 => 22 | 0 => 0 | 3 => 3 | 37 => 102 | 48 => 158 | 50 => 160 | 4 => 4 | 40 => 151 | 39 => 150 | 45 => 127 | 5 => 5 | 9 => 9 | 51 => 177 | 55 => 181 | 57 => 190 | 58 => 129 | 33 => 48 | n => n, fun | n => n⟩
theorem Tryz.sorted11 : Go.Proofs.SlLaysZ.n6 Tryz.prog Tryz.sorted11_ren := {
  mixed := by kernel_rfl
  f6 := ⟨Tryz.f11.name, by decide, Tryz.func11.trans (congrArg some (by kernel_rfl))⟩
  f8 := ⟨Tryz.f31.name, by decide, Tryz.func31.trans (congrArg some (by kernel_rfl))⟩
  f11 := ⟨Tryz.f61.name, by decide, Tryz.func61.trans (congrArg some (by kernel_rfl))⟩
  t0 := Tryz.underlying0
  a0 := Tryz.isAgg0
  z0 := Tryz.sizeOf0
  v0 := Tryz.zeroValue0
  t24 := Tryz.underlying22
  a24 := Tryz.isAgg22
  z24 := Tryz.sizeOf22
  v24 := Tryz.zeroValue22
  t26 := Tryz.underlying9
  a26 := Tryz.isAgg9
  z26 := Tryz.sizeOf9
  v26 := Tryz.zeroValue9
  t28 := Tryz.underlying52
  a28 := Tryz.isAgg52
  z28 := Tryz.sizeOf52
  v28 := Tryz.zeroValue52
  i26 := by kernel_rfl }
def Tryz.sort32_ren : Go.Shelf.Ren := ⟨fun | 6 => 32 | 8 => 63 | 9 => 62 | 19 => 102 | 20 => 103 | 21 => 93 | 22 => 94 | 23 => 95 | 24 => 96 | 25 => 97 | 26 => 98 | 27 => 99 | 28 => 100 | 29 => 101 | 36 => 121 | 31 => 122 | 32 => 123 | 37 => 124 | 38 => 125 | 39 => 126 | 41 => 140 | n => n, fun | 27 => 22 | 29 => 9 | 3 => 3 | 32 => 102 | 26 => 22 | 0 => 0 | 44 => 158 | 46 => 160 | 4 => 4 | 36 => 151 | 35 => 150 | 41 => 127 | 5 => 5 | 9 => 9 | 53 => 177 | 57 => 181 | 63 => 190 | 64 => 129 | n => n, fun | n => n⟩
theorem Tryz.sort32 : Go.Proofs.SlLaysM.n6 Tryz.prog Tryz.sort32_ren := {
  mixed := by kernel_rfl
  f6 := ⟨Tryz.f32.name, by decide, Tryz.func32.trans (congrArg some (by kernel_rfl))⟩
  f8 := Tryz.func63.trans (congrArg some (by kernel_rfl))
  f9 := ⟨Tryz.f62.name, by decide, Tryz.func62.trans (congrArg some (by kernel_rfl))⟩
  f19 := Tryz.func102.trans (congrArg some (by kernel_rfl))
  f20 := Tryz.func103.trans (congrArg some (by kernel_rfl))
  f21 := ⟨Tryz.f93.name, by decide, Tryz.func93.trans (congrArg some (by kernel_rfl))⟩
  f22 := ⟨Tryz.f94.name, by decide, Tryz.func94.trans (congrArg some (by kernel_rfl))⟩
  f23 := ⟨Tryz.f95.name, by decide, Tryz.func95.trans (congrArg some (by kernel_rfl))⟩
  f24 := ⟨Tryz.f96.name, by decide, Tryz.func96.trans (congrArg some (by kernel_rfl))⟩
  f25 := ⟨Tryz.f97.name, by decide, Tryz.func97.trans (congrArg some (by kernel_rfl))⟩
  f26 := ⟨Tryz.f98.name, by decide, Tryz.func98.trans (congrArg some (by kernel_rfl))⟩
  f27 := ⟨Tryz.f99.name, by decide, Tryz.func99.trans (congrArg some (by kernel_rfl))⟩
  f28 := ⟨Tryz.f100.name, by decide, Tryz.func100.trans (congrArg some (by kernel_rfl))⟩
  f29 := ⟨Tryz.f101.name, by decide, Tryz.func101.trans (congrArg some (by kernel_rfl))⟩
  f31 := Tryz.func122.trans (congrArg some (by kernel_rfl))
  f32 := Tryz.func123.trans (congrArg some (by kernel_rfl))
  f36 := ⟨Tryz.f121.name, by decide, Tryz.func121.trans (congrArg some (by kernel_rfl))⟩
  f37 := ⟨Tryz.f124.name, by decide, Tryz.func124.trans (congrArg some (by kernel_rfl))⟩
  f38 := ⟨Tryz.f125.name, by decide, Tryz.func125.trans (congrArg some (by kernel_rfl))⟩
  f39 := ⟨Tryz.f126.name, by decide, Tryz.func126.trans (congrArg some (by kernel_rfl))⟩
  f41 := ⟨Tryz.f140.name, by decide, Tryz.func140.trans (congrArg some (by kernel_rfl))⟩
  t0 := Tryz.underlying0
  a0 := Tryz.isAgg0
  z0 := Tryz.sizeOf0
  v0 := Tryz.zeroValue0
  t3 := Tryz.underlying3
  a3 := Tryz.isAgg3
  z3 := Tryz.sizeOf3
  v3 := Tryz.zeroValue3
  t4 := Tryz.underlying4
  a4 := Tryz.isAgg4
  z4 := Tryz.sizeOf4
  v4 := Tryz.zeroValue4
  t5 := Tryz.underlying5
  a5 := Tryz.isAgg5
  z5 := Tryz.sizeOf5
  v5 := Tryz.zeroValue5
  t9 := Tryz.underlying9
  a9 := Tryz.isAgg9
  z9 := Tryz.sizeOf9
  v9 := Tryz.zeroValue9
  t26 := Tryz.underlying22
  a26 := Tryz.isAgg22
  z26 := Tryz.sizeOf22
  v26 := Tryz.zeroValue22
  t27 := Tryz.underlying22
  a27 := Tryz.isAgg22
  z27 := Tryz.sizeOf22
  v27 := Tryz.zeroValue22
  t29 := Tryz.underlying9
  a29 := Tryz.isAgg9
  z29 := Tryz.sizeOf9
  v29 := Tryz.zeroValue9
  t32 := Tryz.underlying102
  a32 := Tryz.isAgg102
  z32 := Tryz.sizeOf102
  v32 := Tryz.zeroValue102
  t35 := Tryz.underlying150
  a35 := Tryz.isAgg150
  z35 := Tryz.sizeOf150
  v35 := Tryz.zeroValue150
  t36 := Tryz.underlying151
  a36 := Tryz.isAgg151
  z36 := Tryz.sizeOf151
  v36 := Tryz.zeroValue151
  t41 := Tryz.underlying127
  a41 := Tryz.isAgg127
  z41 := Tryz.sizeOf127
  v41 := Tryz.zeroValue127
  t44 := Tryz.underlying158
  a44 := Tryz.isAgg158
  z44 := Tryz.sizeOf158
  v44 := Tryz.zeroValue158
  t46 := Tryz.underlying160
  a46 := Tryz.isAgg160
  z46 := Tryz.sizeOf160
  v46 := Tryz.zeroValue160
  t53 := Tryz.underlying177
  a53 := Tryz.isAgg177
  z53 := Tryz.sizeOf177
  v53 := Tryz.zeroValue177
  t57 := Tryz.underlying181
  a57 := Tryz.isAgg181
  z57 := Tryz.sizeOf181
  v57 := Tryz.zeroValue181
  t63 := Tryz.underlying190
  a63 := Tryz.isAgg190
  z63 := Tryz.sizeOf190
  v63 := Tryz.zeroValue190
  t64 := Tryz.underlying129
  a64 := Tryz.isAgg129
  z64 := Tryz.sizeOf129
  v64 := Tryz.zeroValue129 }
end Go.Proofs
namespace Go.Proofs
open Go.RowKit Go.Maps Go.Sort Go.Shelf
/-- slices.Sort's two contracts at this dump, at the fence that asks nothing. -/
theorem Tryz.sorts11 (m : Nat) : AnyZ.SortsIn Tryz.prog Tryz.sorted11_ren Fence.wide m :=
  ⟨fun blk off cap ss W hH hblk hsz => callsIn_wide.2 (AnyM.slices_Sort_string Tryz.sort32 blk off cap ss W hH hblk hsz),
   fun p cap W => callsIn_wide.2 (AnyM.slices_Sort_string_none Tryz.sort32 p cap W)⟩

/-- **maps.Keys[map[string]scriptorium/api.Entry,string,scriptorium/api.Entry], at whatever map, the nil one too:** a function value over ONE NEW BLOCK, which holds the map. -/
theorem Tryz.maps_Keys_12 (mb : Option Nat) (W : World) : CallsIn Fence.wide 5 Tryz.prog 12 #[.map mb] W fun e w' => e = .returned (.func (.func 33) #[] #[.pointer (some ⟨W.heap.size, 0, none⟩)]) ∧ w' = W.alloc (.cells #[.map mb] 33) :=
  AnyZ.keys_in Tryz.keys12 Fence.wide 5 trivial rfl mb W

set_option maxHeartbeats 1000000 in
/-- **slices.Sorted[string] AT WHAT maps.Keys[map[string]scriptorium/api.Entry,string,scriptorium/api.Entry] HANDED BACK FOR A MAP THAT IS NOT nil** ('w': the world AHEAD of maps.Keys' call): A NEW SLICE THAT HOLDS THE MAP's KEYS, SORTED; nil just where it has none; nothing that lay before has turned. -/
theorem Tryz.slices_Sorted_keys_11_12 {H : Type} (b nn : Nat) (D0 : DataW H) (R : Value → Option (DataW H × List MemPlace)) (w : World) (hown : w.ownsMap Tryz.prog 9 R b nn D0) (hmax : Maps.size D0 ≤ maxLen) (hbytes : Maps.size D0 * 16 ≤ 140737488355328) :
    CallsIn Fence.wide 5 Tryz.prog 11 #[.func (.func 33) #[] #[.pointer (some ⟨w.heap.size, 0, none⟩)]] (w.alloc (.cells #[.map (some b)] 33)) fun e w' => ∃ (v : Value) (ss : List (List UInt8)), e = .returned v ∧ ss.Perm (strKeys D0) ∧
      w'.ownsRow (w.alloc (.cells #[.map (some b)] 33)).heap.size 9 1 v ss.length ((ss.mergeSort (fun x y => decide (x ≤ y))).map encStr) ∧ (v = .slice none 0 0 ↔ ss = []) ∧ Below (w.alloc (.cells #[.map (some b)] 33)).heap.size (w.alloc (.cells #[.map (some b)] 33)) w' := by
  have hbl := hown.lt
  have hseq : SeqGives Fence.wide 2 Tryz.prog 33 #[.pointer (some ⟨w.heap.size, 0, none⟩)] encStr (fun ss => ss.Perm (strKeys D0)) (Maps.size D0) (w.alloc (.cells #[.map (some b)] 33)) :=
    AnyZ.keys_gives (ρ := Tryz.keys12_ren) { Tryz.keys12 with } Fence.wide _ trivial rfl (by omega) w.heap.size b nn D0 _ (by simp) (by simp) (by
      obtain ⟨es, clock, hb, Ft, hs, hD⟩ := hown
      exact ⟨es, clock, (Below.heap_alloc _ _ b hbl).trans hb, Ft, hs, hD⟩)
  exact AnyZ.sorted_in Tryz.sorted11 Fence.wide 5 trivial trivial trivial trivial rfl (by omega) (Tryz.sorts11 _) (enters_of Tryz.func32 (by kernel_rfl) rfl) 33 #[.pointer (some ⟨w.heap.size, 0, none⟩)] trivial (enters_of Tryz.func33 (by kernel_rfl) rfl) _ _ hmax hbytes _ hseq

set_option maxHeartbeats 1000000 in
/-- **.. AND FOR THE nil MAP: nil.** -/
theorem Tryz.slices_Sorted_keys_nil_11_12 (w : World) :
    CallsIn Fence.wide 5 Tryz.prog 11 #[.func (.func 33) #[] #[.pointer (some ⟨w.heap.size, 0, none⟩)]] (w.alloc (.cells #[.map none] 33)) fun e w' => ∃ (v : Value) (ss : List (List UInt8)), e = .returned v ∧ ss = [] ∧
      w'.ownsRow (w.alloc (.cells #[.map none] 33)).heap.size 9 1 v ss.length ((ss.mergeSort (fun x y => decide (x ≤ y))).map encStr) ∧ (v = .slice none 0 0 ↔ ss = []) ∧ Below (w.alloc (.cells #[.map none] 33)).heap.size (w.alloc (.cells #[.map none] 33)) w' := by
  have hseq : SeqGives Fence.wide 2 Tryz.prog 33 #[.pointer (some ⟨w.heap.size, 0, none⟩)] encStr (fun ss : List (List UInt8) => ss = []) 0 (w.alloc (.cells #[.map none] 33)) :=
    AnyZ.keys_gives_nil (ρ := Tryz.keys12_ren) { Tryz.keys12 with } Fence.wide _ trivial rfl w.heap.size _ (by simp) (by simp)
  exact AnyZ.sorted_in Tryz.sorted11 Fence.wide 5 trivial trivial trivial trivial rfl (by omega) (Tryz.sorts11 _) (enters_of Tryz.func32 (by kernel_rfl) rfl) 33 #[.pointer (some ⟨w.heap.size, 0, none⟩)] trivial (enters_of Tryz.func33 (by kernel_rfl) rfl) _ 0 (Nat.zero_le _) (by omega) _ hseq



end Go.Proofs

/- All entries of a space with no key, with one. -/
namespace Go.Proofs.YtjljljjmdlddkaaGreat
open Go.ChangeShapes Go.WideShapes Go.ChangeAt Go.RowKit Go.WideElems Go.Sort

theorem keys0 {w : World} {b : Nat} (h : MapT.MB w b []) : ∃ (D0 : DataW Unit) (R : Value → Option (DataW Unit × List MemPlace)), w.ownsMap Tryz.prog 9 R b 0 D0 ∧ Maps.size D0 = 0 ∧ strKeys D0 = [] := by
  obtain ⟨es, c, h1, h2, h3⟩ := h
  have he : es.toList = [] := by
    cases hl : es.toList with
    | nil => rfl
    | cons e r => rw [hl] at h2; simp [MapT.pairs, MapT.vals] at h2
  have hsz : es.size = 0 := by rw [← Array.length_toList, he]; rfl
  refine ⟨_, fun _ => some (.lit (.bool true), []), ⟨es, c, h1, ⟨by rw [hsz]; unfold maxLen; decide, h3, fun x hx => ?_⟩, by omega, rfl⟩, ?_, ?_⟩
  · rw [he] at hx
    cases hx
  · rw [he]
    rfl
  · rw [he]
    rfl
theorem Sorted0 (bM : Nat) (w : World) (h : MapT.MB w bM []) : Calls Tryz.prog 11 #[.func (.func 33) #[] #[.pointer (some ⟨w.heap.size, 0, none⟩)]] (w.alloc (.cells #[.map (some bM)] 33)) fun e w' => e = .returned (.slice none 0 0) ∧ Below w.heap.size w w' := by
  obtain ⟨D0, R, hown, hs, hK⟩ := keys0 h
  refine (callsIn_wide.1 (Tryz.slices_Sorted_keys_11_12 bM 0 D0 R w hown (by rw [hs]; unfold maxLen; decide) (by rw [hs]; decide))).mono ?_
  rintro e w' ⟨v', ss, rfl, hp, hrow, hnil, hb⟩
  rw [hK] at hp
  have hss : ss = [] := List.perm_nil.1 hp
  rw [hnil.2 hss]
  exact ⟨rfl, alloc_old.trans (hb.mono (by simp))⟩
set_option maxRecDepth 100000 in
set_option maxHeartbeats 8000000 in
theorem All0 (bS bM : Nat) (w : World) (h : SP w bS bM []) : Calls Tryz.prog 7 #[.pointer (some ⟨bS, 0, none⟩)] w fun e w' => e = .returned (.slice none 0 0) ∧ Below w.heap.size w w' := by
  have MK := Lib.hid (callsIn_wide.1 (Tryz.maps_Keys_12 (some bM) w))
  have SO := Lib.hid (Sorted0 bM w h.2.1)
  obtain ⟨hs1, hs2⟩ := h.cell
  clear h
  go_enter Tryz.func7, Tryz.ntmps7
  go_wp2_with (first | (go_at_call 12; (with_reducible refine (MK.out).mono ?_); rintro e w1 ⟨rfl, rfl⟩) | (go_at_call 11; (with_reducible refine (SO.out).mono ?_); rintro e w2 ⟨rfl, hb2⟩; have B2 := Lib.hid hb2; clear hb2; refine Hid.out ?_))
  refine Lib.hid ?_
  go_wp2_with fail
  go_loopw [3, 15] (fun lv iv wr => Hid (iv = .int .i64 0 ∧ lv = .slice none 0 0 ∧ Below w.heap.size w wr)) (fun _ iv _ => 1 - (intOf iv).toNat)
  case atStart => exact Lib.hid ⟨rfl, rfl, B2.out⟩
  case round =>
    obtain ⟨rfl, rfl, hB⟩ := hrel.out
    have HB := Lib.hid hB
    clear hB
    go_wp2
    go_ret
    exact ⟨rfl, HB.out⟩
end Go.Proofs.YtjljljjmdlddkaaGreat
