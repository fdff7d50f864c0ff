/- Texts joined: ZL, ZJ, ZW1, ZY, ZTL -/
import Derived.Test.YticlacjpgjkhcaaGreatDoorQs36
import Derived.Test.YticlacjpgjkhcaaGreatDoorQs33
import Derived.Test.YticlacjpgjkhcaaGreatDoorCards
import Derived.Stop.LaidErr
import Derived.Lib.LaidTab
set_option linter.unusedVariables false
set_option linter.unusedSimpArgs false

/- The laws' commands with written arguments. -/
namespace Go.Proofs.YticlacjpgjkhcaaGreatDoor
open Go.ChangeShapes Go.WideShapes Go.ChangeAt Go.RowKit

theorem numZ (x : Int) (h : I64 x) : (numT x).size ≤ 100000 := Nat.le_trans (numT_size _ h) (by decide)
theorem addZ1 (nm : ByteArray) (x : Int) (F : List (ByteArray × Int)) : addZ (fun _ => nm) (fun _ => x) F 1 = putZ nm x F := rfl
theorem l_zadd (W0 : World) (bS bM : Nat) (hT : TZ W0) (F : List (ByteArray × Int)) (nm : ByteArray) (x : Int) (hx : I64 x) (hb : ZBd (putZ nm x F)) (n : Int) (hn : ((addN (fun _ => nm) (fun _ => x) F 1 : Nat) : Int) = n) (X : World) (hL : LDZ W0 X bS bM (dZ F)) (q : Nat) (hq : X.heap.size = q) : Calls Tryz.prog 17 #[.pointer (some ⟨bS, 0, none⟩), .slice (some ⟨q, 0, none⟩) 4 4] (X.alloc (.cells #[.string ⟨#[90, 65, 68, 68]⟩, .string ⟨#[107]⟩, .string (numT x), .string nm] 9)) fun e w' => e = .returned (.agg #[.int .i64 3, .int .i64 n, .string ⟨#[]⟩, .slice none 0 0]) ∧ LDZ W0 w' bS bM (dZ (putZ nm x F)) ∧ Kp X.heap.size (fun i => i ≠ bS ∧ i ≠ bM) X w' := by
  subst hq
  have ht : ∀ i, i < 1 → ([⟨#[90, 65, 68, 68]⟩, ⟨#[107]⟩, numT x, nm] : List ByteArray)[2 * i + 2]? = some (numT x) ∧ (numT x : ByteArray).size ≤ 100000 ∧ parseI (numT x : ByteArray).data.toList = some x ∧ ([⟨#[90, 65, 68, 68]⟩, ⟨#[107]⟩, numT x, nm] : List ByteArray)[2 * i + 3]? = some nm := fun i h => by
    obtain rfl : i = 0 := by omega
    exact ⟨rfl, numZ x hx, parse_numT _ hx, rfl⟩
  exact lit0 X hL [⟨#[90, 65, 68, 68]⟩, ⟨#[107]⟩, numT x, nm] (by simp) (fun vA w h hA => d_ZADD W0 bS bM hT F [⟨#[90, 65, 68, 68]⟩, ⟨#[107]⟩, numT x, nm] 1 (fun _ => nm) (fun _ => numT x) (fun _ => x) rfl rfl rfl ht (by decide) (by decide) hb vA w h hA) rfl hn rfl
theorem l_zadd0 (W0 : World) (bS bM : Nat) (hT : TZ W0) (F : List (ByteArray × Int)) (nm : ByteArray) (x : Int) (hx0 : x = 0) (hb : ZBd (putZ nm x F)) (n : Int) (hn : ((addN (fun _ => nm) (fun _ => x) F 1 : Nat) : Int) = n) (X : World) (hL : LDZ W0 X bS bM (dZ F)) (q : Nat) (hq : X.heap.size = q) : Calls Tryz.prog 17 #[.pointer (some ⟨bS, 0, none⟩), .slice (some ⟨q, 0, none⟩) 4 4] (X.alloc (.cells #[.string ⟨#[90, 65, 68, 68]⟩, .string ⟨#[107]⟩, .string ⟨#[48]⟩, .string nm] 9)) fun e w' => e = .returned (.agg #[.int .i64 3, .int .i64 n, .string ⟨#[]⟩, .slice none 0 0]) ∧ LDZ W0 w' bS bM (dZ (putZ nm x F)) ∧ Kp X.heap.size (fun i => i ≠ bS ∧ i ≠ bM) X w' := by
  subst hq
  have ht : ∀ i, i < 1 → ([⟨#[90, 65, 68, 68]⟩, ⟨#[107]⟩, ⟨#[48]⟩, nm] : List ByteArray)[2 * i + 2]? = some (⟨#[48]⟩) ∧ (⟨#[48]⟩ : ByteArray).size ≤ 100000 ∧ parseI (⟨#[48]⟩ : ByteArray).data.toList = some x ∧ ([⟨#[90, 65, 68, 68]⟩, ⟨#[107]⟩, ⟨#[48]⟩, nm] : List ByteArray)[2 * i + 3]? = some nm := fun i h => by
    obtain rfl : i = 0 := by omega
    exact ⟨rfl, by decide, by subst hx0; kernel_rfl, rfl⟩
  exact lit0 X hL [⟨#[90, 65, 68, 68]⟩, ⟨#[107]⟩, ⟨#[48]⟩, nm] (by simp) (fun vA w h hA => d_ZADD W0 bS bM hT F [⟨#[90, 65, 68, 68]⟩, ⟨#[107]⟩, ⟨#[48]⟩, nm] 1 (fun _ => nm) (fun _ => ⟨#[48]⟩) (fun _ => x) rfl rfl rfl ht (by decide) (by decide) hb vA w h hA) rfl hn rfl
theorem l_zincr (W0 : World) (bS bM : Nat) (hT : TZ W0) (F : List (ByteArray × Int)) (nm : ByteArray) (x y z : Int) (hx : I64 x) (hy : I64 y) (hz : y + x = z) (hr0 : rng z = true) (hfn : findD nm F = some y) (hb : ZBd (putZ nm z F)) (X : World) (hL : LDZ W0 X bS bM (dZ F)) (q : Nat) (hq : X.heap.size = q) : Calls Tryz.prog 17 #[.pointer (some ⟨bS, 0, none⟩), .slice (some ⟨q, 0, none⟩) 4 4] (X.alloc (.cells #[.string ⟨#[90, 73, 78, 67, 82, 66, 89]⟩, .string ⟨#[107]⟩, .string (numT x), .string nm] 9)) fun e w' => e = .returned (.agg #[.int .i64 4, .int .i64 0, .string (numT z), .slice none 0 0]) ∧ LDZ W0 w' bS bM (dZ (putZ nm z F)) ∧ Kp X.heap.size (fun i => i ≠ bS ∧ i ≠ bM) X w' := by
  subst hq hz
  exact lit0 X hL [⟨#[90, 73, 78, 67, 82, 66, 89]⟩, ⟨#[107]⟩, numT x, nm] (by simp) (fun vA w h hA => d_ZINCRBY W0 bS bM hT F nm (numT x) x y (numZ x hx) (parse_numT _ hx) hx hy hr0 hfn hb vA w h hA) rfl rfl rfl
theorem l_zall (W0 : World) (bS bM : Nat) (hT : TZ W0) (F : List (ByteArray × Int))  (X : World) (hL : LDZ W0 X bS bM (dZ F)) (q : Nat) (hq : X.heap.size = q) : Calls Tryz.prog 17 #[.pointer (some ⟨bS, 0, none⟩), .slice (some ⟨q, 0, none⟩) 4 4] (X.alloc (.cells #[.string ⟨#[90, 82, 65, 78, 71, 69]⟩, .string ⟨#[107]⟩, .string ⟨#[48]⟩, .string ⟨#[45, 49]⟩] 9)) fun e w' => ∃ A m c, e = .returned (.agg #[.int .i64 6, .int .i64 0, .string ⟨#[]⟩, .slice A m c]) ∧ (RO ((F.map Prod.fst).map some)) X.heap.size w' (.slice A m c) ∧ LDZ W0 w' bS bM (dZ F) ∧ Kp X.heap.size (fun i => i ≠ bS ∧ i ≠ bM) X w' := by
  subst hq
  exact litR (RO.keep _) X hL [⟨#[90, 82, 65, 78, 71, 69]⟩, ⟨#[107]⟩, ⟨#[48]⟩, ⟨#[45, 49]⟩] (by simp) (fun vA w h hA => d_ZRANGE W0 bS bM hT F ⟨#[48]⟩ ⟨#[45, 49]⟩ 0 (-1) (by decide) (by kernel_rfl) (by decide) (by kernel_rfl) (by decide) (by decide) vA w h hA) rfl rfl (by rw [spanZ_all])
theorem l_zscore (W0 : World) (bS bM : Nat) (hT : TZ W0) (F : List (ByteArray × Int)) (nm : ByteArray) (s : Int) (hs : I64 s) (hfn : findD nm F = some s) (X : World) (hL : LDZ W0 X bS bM (dZ F)) (q : Nat) (hq : X.heap.size = q) : Calls Tryz.prog 17 #[.pointer (some ⟨bS, 0, none⟩), .slice (some ⟨q, 0, none⟩) 3 3] (X.alloc (.cells #[.string ⟨#[90, 83, 67, 79, 82, 69]⟩, .string ⟨#[107]⟩, .string nm] 9)) fun e w' => e = .returned (.agg #[.int .i64 4, .int .i64 0, .string (numT s), .slice none 0 0]) ∧ LDZ W0 w' bS bM (dZ F) ∧ Kp X.heap.size (fun i => i ≠ bS ∧ i ≠ bM) X w' := by
  subst hq
  exact lit0 X hL [⟨#[90, 83, 67, 79, 82, 69]⟩, ⟨#[107]⟩, nm] (by simp) (fun vA w h hA => d_ZSCORE W0 bS bM hT F nm s hs hfn vA w h hA) rfl rfl rfl
theorem l_zrbr (W0 : World) (bS bM : Nat) (hT : TZ W0) (F : List (ByteArray × Int)) (a b : Int) (ha : 0 ≤ a ∧ a ≤ 100) (hb9 : 0 ≤ b ∧ b ≤ 100) (hb : ZBd F) (G : List (ByteArray × Int)) (hG : dels (spanZ a b F) F = G) (n : Int) (hn : ((spanZ a b F).length : Int) = n) (X : World) (hL : LDZ W0 X bS bM (dZ F)) (q : Nat) (hq : X.heap.size = q) : Calls Tryz.prog 17 #[.pointer (some ⟨bS, 0, none⟩), .slice (some ⟨q, 0, none⟩) 4 4] (X.alloc (.cells #[.string ⟨#[90, 82, 69, 77, 82, 65, 78, 71, 69, 66, 89, 82, 65, 78, 75]⟩, .string ⟨#[107]⟩, .string (numT a), .string (numT b)] 9)) fun e w' => e = .returned (.agg #[.int .i64 3, .int .i64 n, .string ⟨#[]⟩, .slice none 0 0]) ∧ LDZ W0 w' bS bM (dZ G) ∧ Kp X.heap.size (fun i => i ≠ bS ∧ i ≠ bM) X w' := by
  subst hq
  exact lit0 X hL [⟨#[90, 82, 69, 77, 82, 65, 78, 71, 69, 66, 89, 82, 65, 78, 75]⟩, ⟨#[107]⟩, numT a, numT b] (by simp) (fun vA w h hA => d_ZREMRANGEBYRANK W0 bS bM hT F (numT a) (numT b) a b (numZ a ⟨by omega, by omega⟩) (parse_numT a ⟨by omega, by omega⟩) (numZ b ⟨by omega, by omega⟩) (parse_numT b ⟨by omega, by omega⟩) (by omega) (by omega) hb vA w h hA) (by rw [hG]) hn rfl
theorem l_zrbs (W0 : World) (bS bM : Nat) (hT : TZ W0) (F : List (ByteArray × Int)) (p q9 : Int) (ha : -100 ≤ p ∧ p ≤ 100) (hb9 : -100 ≤ q9 ∧ q9 ≤ 100) (hb : ZBd F) (G : List (ByteArray × Int)) (hG : dels (btZ p q9 F) F = G) (n : Int) (hn : ((btZ p q9 F).length : Int) = n) (X : World) (hL : LDZ W0 X bS bM (dZ F)) (q : Nat) (hq : X.heap.size = q) : Calls Tryz.prog 17 #[.pointer (some ⟨bS, 0, none⟩), .slice (some ⟨q, 0, none⟩) 4 4] (X.alloc (.cells #[.string ⟨#[90, 82, 69, 77, 82, 65, 78, 71, 69, 66, 89, 83, 67, 79, 82, 69]⟩, .string ⟨#[107]⟩, .string (numT p), .string (numT q9)] 9)) fun e w' => e = .returned (.agg #[.int .i64 3, .int .i64 n, .string ⟨#[]⟩, .slice none 0 0]) ∧ LDZ W0 w' bS bM (dZ G) ∧ Kp X.heap.size (fun i => i ≠ bS ∧ i ≠ bM) X w' := by
  subst hq
  exact lit0 X hL [⟨#[90, 82, 69, 77, 82, 65, 78, 71, 69, 66, 89, 83, 67, 79, 82, 69]⟩, ⟨#[107]⟩, numT p, numT q9] (by simp) (fun vA w h hA => d_ZREMRANGEBYSCORE W0 bS bM hT F (numT p) (numT q9) p q9 (numZ p ⟨by omega, by omega⟩) (parse_numT p ⟨by omega, by omega⟩) (numZ q9 ⟨by omega, by omega⟩) (parse_numT q9 ⟨by omega, by omega⟩) hb vA w h hA) (by rw [hG]) hn rfl
end Go.Proofs.YticlacjpgjkhcaaGreatDoor

/- joined: the names of a law's set, in order; what the walks of the scores' laws share. -/
namespace Go.Proofs.YticlacjpgjkhcaaGreatDoor
open Go.ChangeShapes Go.WideShapes Go.ChangeAt Go.RowKit

theorem dZ_nil : dZ [] = [] := if_pos rfl
theorem convZ (i : Nat) (hi : i < 12) (X : World) (b : Nat) (h : X.heap[b]? = some (.cells #[.int .u8 (97 + (i : Int))] 5)) : (convert 31 9 (.slice (some ⟨b, 0, none⟩) 1 1)).run Tryz.prog X = .ok (.string (nZ i)) X := by
  refine run_convert_bytes_back (P := Tryz.prog) X 31 9 5 ⟨b, 0, none⟩ 1 [UInt8.ofNat (97 + i)] Tryz.underlying31 Tryz.underlying5 Tryz.underlying9 (fun j hj => ?_)
  have hj0 : j = 0 := by simpa using hj
  subst hj0
  show X.cell? ⟨b, 0, none⟩ = _
  rw [cell_of_row _ b _ _ 5 (0, 0) h]
  match i, hi with
  | 0, _ => rfl
  | 1, _ => rfl
  | 2, _ => rfl
  | 3, _ => rfl
  | 4, _ => rfl
  | 5, _ => rfl
  | 6, _ => rfl
  | 7, _ => rfl
  | 8, _ => rfl
  | 9, _ => rfl
  | 10, _ => rfl
  | 11, _ => rfl
theorem uk12 (k : Int) : ∃ t : Nat, (IntKind.u64.wrap k).tmod 12 = (t : Int) ∧ t < 12 := by
  refine ⟨((IntKind.u64.wrap k).tmod 12).toNat, ?_, ?_⟩ <;> rw [IntKind.wrap_u64] <;> rw [Int.tmod_eq_emod_of_nonneg (by omega)] <;> omega
theorem uk9 (k : Int) : ∃ t : Nat, (IntKind.u64.wrap k).tmod 9 = (t : Int) ∧ t < 9 := by
  refine ⟨((IntKind.u64.wrap k).tmod 9).toNat, ?_, ?_⟩ <;> rw [IntKind.wrap_u64] <;> rw [Int.tmod_eq_emod_of_nonneg (by omega)] <;> omega
theorem ukm (k : Int) (m : Nat) (hm : 0 < m) : ∃ t : Nat, (IntKind.u64.wrap k).tmod (m : Int) = (t : Int) ∧ t < m := by
  have h0 : 0 ≤ IntKind.u64.wrap k := by rw [IntKind.wrap_u64]; omega
  have h1 : (IntKind.u64.wrap k).tmod (m : Int) = IntKind.u64.wrap k % (m : Int) := Int.tmod_eq_emod_of_nonneg h0
  have h2 := Int.emod_nonneg (IntKind.u64.wrap k) (b := (m : Int)) (by omega)
  have h3 := Int.emod_lt_of_pos (IntKind.u64.wrap k) (b := (m : Int)) (by omega)
  refine ⟨((IntKind.u64.wrap k).tmod (m : Int)).toNat, ?_, ?_⟩ <;> rw [h1] <;> omega
theorem tm40 (k : Int) : -40 ≤ k.tmod 40 ∧ k.tmod 40 ≤ 40 := by
  have := tmod_bd k 40 (by decide)
  omega
theorem RO.cellZ {rs : List (Option ByteArray)} {c g m cc : Nat} {w : World} (h : RO rs c w (.slice (some ⟨g, 0, none⟩) m cc)) (i : Nat) (s : ByteArray) (hs : rs[i]? = some (some s)) : w.cell? ⟨g, i * 4 + 2, none⟩ = some (.string s) := by
  have e : m = rs.length := by
    obtain ⟨A', C', e, _⟩ := row_form h
    cases e
    rfl
  subst e
  exact row_cell h (i * 4 + 2) _ (repC_at rs i 2 (some s) _ hs rfl)
set_option maxRecDepth 100000 in
set_option maxHeartbeats 8000000 in
/-- joined: the names of k, in order. -/
theorem joined_any (W0 : World) (bS bM : Nat) (hT : TZ W0) (F : List (ByteArray × Int)) (n : Nat) (hn : F.length = n) (h12 : n ≤ 12) (h1 : ∀ p ∈ F, p.1.size = 1) (w : World) (hL : LDZ W0 w bS bM (dZ F)) : Calls Tryz.prog 19 #[.pointer (some ⟨bS, 0, none⟩)] w fun e w' => e = .returned (.string (catN F)) ∧ LDZ W0 w' bS bM (dZ F) ∧ Kp w.heap.size (fun i => i ≠ bS ∧ i ≠ bM) w w' := by
  have D1 := Lib.hid (l_zall W0 bS bM hT F w hL w.heap.size rfl)
  have HN := Lib.hid hn
  have H1 := Lib.hid h1
  clear hT hL hn h1
  go_enter Tryz.func19, Tryz.ntmps19
  go_wp2_with (first | (go_at_call 17; (with_reducible refine (D1.out).mono ?_); rintro e v1 ⟨A, m, c, rfl, hR, hL1, hK1⟩; have L1 := Lib.hid hL1; have R1 := Lib.hid hR; have K1 := Lib.hid hK1; clear hR hL1 hK1; refine Hid.out ?_))
  refine Lib.hid ?_
  have hmn : m = n := by
    obtain ⟨A', C', e, _⟩ := row_form R1.out
    cases e
    rw [List.length_map, List.length_map, HN.out]
  subst hmn
  have M1 := Lib.hid (L1.out.old (alloc_old (o := .cells #[.int .i64 6, .int .i64 0, .string ⟨#[]⟩, .slice A m c] 29)))
  have B1 := Lib.hid (heap_alloc_new v1 (.cells #[.int .i64 6, .int .i64 0, .string ⟨#[]⟩, .slice A m c] 29))
  have S1 := Lib.hid (RO.below R1.out (alloc_old (o := .cells #[.int .i64 6, .int .i64 0, .string ⟨#[]⟩, .slice A m c] 29)))
  have Kq := Lib.hid (K1.out.alloc (K1.out.size) (.cells #[.int .i64 6, .int .i64 0, .string ⟨#[]⟩, .slice A m c] 29))
  go_wp2
  obtain ⟨⟨c0, c1, c2, c3⟩, _⟩ := cells4 B1.out
  go_loopw [4, 5] (fun sv iv wr => ∃ i : Nat, i ≤ m ∧ sv = .string (catN (F.take i)) ∧ iv = .int .i64 i ∧ Hid (wr = v1.alloc (.cells #[.int .i64 6, .int .i64 0, .string ⟨#[]⟩, .slice A m c] 29))) (fun _ iv _ => m - (intOf iv).toNat)
  case atStart => exact ⟨0, Nat.zero_le _, rfl, rfl, Lib.hid rfl⟩
  case round =>
    obtain ⟨i, hi, rfl, rfl, HQ⟩ := hrel
    obtain rfl := HQ.out
    by_cases hlt : i < m
    · have q0 : (i : Int) < (m : Int) := by omega
      obtain ⟨p, hp⟩ : ∃ p, F[i]? = some p := ⟨_, List.getElem?_eq_getElem (by rw [HN.out]; exact hlt)⟩
      obtain ⟨hm9, ⟨g, rfl⟩, hcc⟩ := S1.out.form (by intro e; have e2 := congrArg List.length e; simp only [List.length_map, HN.out, List.length_nil] at e2; omega)
      have rc := RO.cellZ S1.out i p.1 (by rw [List.getElem?_map, List.getElem?_map, hp]; rfl)
      have e9 : catN (F.take (i + 1)) = catN (F.take i) ++ p.1 := by rw [List.take_add_one, hp]; exact catN_snoc _ _
      have z1 : p.1.size = 1 := H1.out p (List.mem_of_getElem? hp)
      have z2 : (catN (F.take i)).size = i := by
        rw [catN_size _ fun q hq => H1.out q (List.mem_of_mem_take hq), List.length_take, HN.out]
        omega
      obtain ⟨t, ht⟩ : ∃ t, p.1 = t := ⟨_, rfl⟩
      obtain ⟨s, hs⟩ : ∃ s, catN (F.take i) = s := ⟨_, rfl⟩
      rw [hs] at e9 z2 ⊢
      rw [ht] at e9 z1 rc
      have q1 : ¬ (s.size + t.size > 9223372036854775807) := by omega
      clear hp ht hs z1 z2 hm9 hcc
      go_wp2
      exact ⟨⟨i + 1, hlt, by rw [e9], by go_num, by first | exact Lib.hid trivial | exact Lib.hid rfl⟩, by simp [intOf]; omega⟩
    · have q0 : ¬ (i : Int) < (m : Int) := by omega
      obtain rfl : i = m := by omega
      have e9 : F.take i = F := List.take_of_length_le (by rw [HN.out]; exact Nat.le_refl _)
      rw [e9]
      go_wp2
      go_ret
      exact ⟨rfl, M1.out, Kq.out⟩
end Go.Proofs.YticlacjpgjkhcaaGreatDoor

/- The law ScoresTrim: its walk. -/
namespace Go.Proofs.YticlacjpgjkhcaaGreatDoor
open Go.ChangeShapes Go.WideShapes Go.ChangeAt Go.RowKit

set_option maxRecDepth 100000 in
set_option maxHeartbeats 16000000 in
theorem trim_main (n0 i0 j0 lo0 hi0 : Int) (w : World) (hT : TZ w) : Calls Tryz.prog 5 #[.int .i64 n0, .int .i64 i0, .int .i64 j0, .int .i64 lo0, .int .i64 hi0] w fun e w' => e = .returned (.bool true) ∧ Below w.heap.size w w' := by
  have NW := Lib.hid (fun X => New9 X)
  obtain ⟨t0, u1, ht0⟩ := uk12 n0
  obtain ⟨k, hk⟩ : ∃ k : Nat, k = t0 + 1 := ⟨_, rfl⟩
  have hk1 : 1 ≤ k := by omega
  have hk12 : k ≤ 12 := by omega
  obtain ⟨a, u4, ha⟩ := ukm i0 k (by omega)
  obtain ⟨b, u5, hb⟩ := ukm j0 k (by omega)
  have u2 : IntKind.i64.wrap (t0 : Int) = (t0 : Int) := by rw [IntKind.wrap_i64]; omega
  have u3 : IntKind.i64.wrap (1 + (t0 : Int)) = (k : Int) := by rw [IntKind.wrap_i64]; omega
  have u6 : IntKind.u64.wrap (k : Int) = (k : Int) := by rw [IntKind.wrap_u64]; omega
  have u7 : IntKind.i64.wrap (a : Int) = (a : Int) := by rw [IntKind.wrap_i64]; omega
  have u8 : IntKind.i64.wrap (b : Int) = (b : Int) := by rw [IntKind.wrap_i64]; omega
  have U := Lib.hid (And.intro u4 (And.intro u5 (And.intro u6 (And.intro u7 u8))))
  have HT := Lib.hid hT
  have NU := Lib.hid (fun (x : Int) (hx : -1000 ≤ x ∧ x ≤ 1000) X (hX : Below w.heap.size w X) => Number13 hT.1 x ⟨by omega, by omega⟩ X hX)
  have TL := Lib.hid (fun X (hX : Below w.heap.size w X) => toldZ (hT.at_ hX))
  have HK := Lib.hid (And.intro hk1 (And.intro hk12 (And.intro ha hb)))
  clear u4 u5 u6 u7 u8 ha hb ht0 hk hk1 hT
  go_enter Tryz.func5, Tryz.ntmps5
  go_wp2_with (first | (go_at_call 11; (with_reducible refine (NW.out _).mono ?_); rintro e v0 ⟨bS, bM, rfl, hS0, hbS, hbM, hB0⟩; have HL0 := Lib.hid (SPG.lt KS okS (LD.mk0 KS okS hS0 hB0 hbS hbM).sp); have L0 := Lib.hid (LD.mk0 KS okS hS0 hB0 hbS hbM); clear hS0 hbS hbM hB0; refine Hid.out ?_))
  refine Lib.hid ?_
  go_wp2_with (first | (go_at_call 11; (with_reducible refine (NW.out _).mono ?_); rintro e v1 ⟨bT, bN, rfl, hS0, hbS, hbM, hB0⟩; have L1 := Lib.hid (L0.out.old hB0); have T1 := Lib.hid (LD.mk0 KS okS hS0 (L0.out.old hB0).below (Nat.le_trans (Below.size L0.out.below) hbS) (Nat.le_trans (Below.size L0.out.below) hbM)); have HD := Lib.hid (show (bT ≠ bS ∧ bT ≠ bM) ∧ (bN ≠ bS ∧ bN ≠ bM) from by have h9 := HL0.out; exact ⟨⟨by omega, by omega⟩, ⟨by omega, by omega⟩⟩); clear hS0 hbS hbM hB0; refine Hid.out ?_))
  refine Lib.hid ?_
  have L1 : Hid (LDZ w v1 bS bM (dZ (fT 0))) := Lib.hid (by rw [show fT 0 = [] from rfl, dZ_nil]; exact L1.out)
  have T1 : Hid (LDZ w v1 bT bN (dZ (fT 0))) := Lib.hid (by rw [show fT 0 = [] from rfl, dZ_nil]; exact T1.out)
  have HE := Lib.hid (show (bS ≠ bT ∧ bS ≠ bN) ∧ (bM ≠ bT ∧ bM ≠ bN) from by have h9 := HD.out; exact ⟨⟨fun e => h9.1.1 e.symm, fun e => h9.2.1 e.symm⟩, ⟨fun e => h9.1.2 e.symm, fun e => h9.2.2 e.symm⟩⟩)
  go_wp2
  clear u1 u2 u3
  go_loopw [14] (fun iv wr => ∃ i : Nat, i ≤ k ∧ iv = .int .i64 i ∧ Hid (LDZ w wr bS bM (dZ (fT i)) ∧ LDZ w wr bT bN (dZ (fT i)))) (fun iv _ => k - (intOf iv).toNat)
  case atStart => exact ⟨0, Nat.zero_le _, rfl, Lib.hid ⟨L1.out, T1.out⟩⟩
  case round =>
    obtain ⟨i, hi, rfl, HQ⟩ := hrel
    by_cases hlt : i < k
    · have q0 : (i : Int) < (k : Int) := by omega
      have i12 : i < 12 := by have := HK.out; omega
      have u1 : IntKind.u8.wrap (i : Int) = (i : Int) := by rw [IntKind.wrap_u8]; omega
      have u2 : IntKind.u8.wrap (97 + (i : Int)) = 97 + (i : Int) := by rw [IntKind.wrap_u8]; omega
      obtain ⟨x, hx⟩ : ∃ x, 3 * (i : Int) = x := ⟨_, rfl⟩
      have u3 : IntKind.i64.wrap (3 * (i : Int)) = x := by rw [← hx, IntKind.wrap_i64]; omega
      have hx9 : -1000 ≤ x ∧ x ≤ 1000 := by omega
      have hp := fT_put i i12
      have hbd := fT_bd (i + 1) (by omega)
      rw [hx] at hp
      have A0 := Lib.hid (alloc_old (w := wr) (o := .cells #[.int .u8 (97 + (i : Int))] 5))
      have cv := convZ i i12 (wr.alloc (.cells #[.int .u8 (97 + (i : Int))] 5)) wr.heap.size (heap_alloc_new wr (.cells #[.int .u8 (97 + (i : Int))] 5))
      have S2 := Lib.hid (HQ.out.1.old A0.out)
      have T2 := Lib.hid (HQ.out.2.old A0.out)
      have NX := Lib.hid (fun X (hX : Below w.heap.size w X) => NU.out x hx9 X hX)
      have DA := Lib.hid (fun (cS cM : Nat) X hL q hq => l_zadd w cS cM HT.out (fT i) (nZ i) x ⟨by omega, by omega⟩ (by rw [hp]; exact hbd) _ rfl X hL q hq)
      rw [hp] at DA
      obtain ⟨nn, hnn⟩ : ∃ nn, ((addN (fun _ => nZ i) (fun _ => x) (fT i) 1 : Nat) : Int) = nn := ⟨_, rfl⟩
      rw [hnn] at DA
      clear hp hbd hx hx9 hnn hi
      go_wp2_with (first | (go_at_call 13; (with_reducible refine (NX.out _ S2.out.below).mono ?_); rintro e w2 ⟨rfl, h1⟩; have S3 := Lib.hid (S2.out.old h1); have T3 := Lib.hid (T2.out.old h1); have D1 := Lib.hid (DA.out bS bM w2 S3.out _ rfl); clear h1; refine Hid.out ?_))
      refine Lib.hid ?_
      go_wp2_with (first | (go_at_call 17; (with_reducible refine (D1.out).mono ?_); rintro e w3 ⟨rfl, h1, h2⟩; have T4 := Lib.hid (T3.out.other S3.out h2 HD.out.1 HD.out.2 h1.below); have S4 := Lib.hid h1; clear h1 h2; refine Hid.out ?_))
      refine Lib.hid ?_
      go_wp2_with (first | (go_at_call 13; (with_reducible refine (NX.out _ S4.out.below).mono ?_); rintro e w4 ⟨rfl, h1⟩; have S5 := Lib.hid (S4.out.old h1); have T5 := Lib.hid (T4.out.old h1); have D2 := Lib.hid (DA.out bT bN w4 T5.out _ rfl); clear h1; refine Hid.out ?_))
      refine Lib.hid ?_
      go_wp2_with (first | (go_at_call 17; (with_reducible refine (D2.out).mono ?_); rintro e w5 ⟨rfl, h1, h2⟩; have S6 := Lib.hid (S5.out.other T5.out h2 HE.out.1 HE.out.2 h1.below); have T6 := Lib.hid h1; clear h1 h2))
      exact ⟨⟨i + 1, hlt, by go_num, Lib.hid ⟨S6.out, T6.out⟩⟩, by simp [intOf]; omega⟩
    · have q0 : ¬ (i : Int) < (k : Int) := by omega
      obtain rfl : i = k := by omega
      obtain ⟨u4, u5, u6, u7, u8⟩ := U.out
      obtain ⟨hk1, hk12, ha, hb⟩ := HK.out
      have k0 : ¬ ((i : Int) = 0) := by omega
      obtain ⟨p, hp⟩ : ∃ p, lo0.tmod 40 = p := ⟨_, rfl⟩
      obtain ⟨q, hq⟩ : ∃ q, hi0.tmod 40 = q := ⟨_, rfl⟩
      have hp9 : -40 ≤ p ∧ p ≤ 40 := by rw [← hp]; exact tm40 lo0
      have hq9 : -40 ≤ q ∧ q ≤ 40 := by rw [← hq]; exact tm40 hi0
      obtain ⟨fA, hfA⟩ : ∃ f : ByteArray × Int → Bool, (fun x => !inT a b x) = f := ⟨_, rfl⟩
      obtain ⟨fB, hfB⟩ : ∃ f : ByteArray × Int → Bool, (fun x => !inS p q x) = f := ⟨_, rfl⟩
      have nA : ((spanZ a b (fT i)).length : Int) = (i : Int) - ((catN ((fT i).filter fA)).size : Int) := by rw [spanF_T a b i ha hb, ← hfA]; exact cutT _ i
      have nB : ((btZ p q (fT i)).length : Int) = (i : Int) - ((catN ((fT i).filter fB)).size : Int) := by rw [btZ_filter p q (fT_bd i hk12).ord, ← hfB]; exact cutT _ i
      have gA : dels (spanZ a b (fT i)) (fT i) = (fT i).filter fA := by rw [rbrT a b i ha hb hk12, hfA]
      have gB : dels (btZ p q (fT i)) (fT i) = (fT i).filter fB := by rw [rbsT p q i hk12, hfB]
      have HA := Lib.hid (show ∀ j : Nat, fA (nZ j, 3 * (j : Int)) = !(decide (3 * (a : Int) ≤ 3 * (j : Int)) && decide (3 * (j : Int) ≤ 3 * (b : Int))) from fun j => by rw [← hfA]; rfl)
      have HB := Lib.hid (show ∀ j : Nat, fB (nZ j, 3 * (j : Int)) = !(decide (p ≤ 3 * (j : Int)) && decide (3 * (j : Int) ≤ q)) from fun j => by rw [← hfB]; rfl)
      have lA : (catN ((fT i).filter fA)).size ≤ i := by
        rw [catN_size _ fun x hx => fT_name i x (List.mem_filter.1 hx).1]
        exact Nat.le_trans (List.length_filter_le _ _) (by rw [fT_len]; exact Nat.le_refl _)
      have lB : (catN ((fT i).filter fB)).size ≤ i := by
        rw [catN_size _ fun x hx => fT_name i x (List.mem_filter.1 hx).1]
        exact Nat.le_trans (List.length_filter_le _ _) (by rw [fT_len]; exact Nat.le_refl _)
      have JA := Lib.hid (fun X hL => joined_any w bS bM HT.out ((fT i).filter fA) _ rfl (by have := List.length_filter_le fA (fT i); rw [fT_len] at this; omega) (fun x hx => fT_name i x (List.mem_filter.1 hx).1) X hL)
      have JB := Lib.hid (fun X hL => joined_any w bT bN HT.out ((fT i).filter fB) _ rfl (by have := List.length_filter_le fB (fT i); rw [fT_len] at this; omega) (fun x hx => fT_name i x (List.mem_filter.1 hx).1) X hL)
      have DA := Lib.hid (fun X hL q hq => l_zrbr w bS bM HT.out (fT i) a b (by omega) (by omega) (fT_bd i hk12) _ gA _ nA X hL q hq)
      have DB9 := Lib.hid (fun X hL q9 hq => l_zrbs w bT bN HT.out (fT i) p q (by omega) (by omega) (fT_bd i hk12) _ gB _ nB X hL q9 hq)
      have N1 := Lib.hid (fun X hX => NU.out a (by omega) X hX)
      have N2 := Lib.hid (fun X hX => NU.out b (by omega) X hX)
      have N3 := Lib.hid (fun X hX => NU.out p (by omega) X hX)
      have N4 := Lib.hid (fun X hX => NU.out q (by omega) X hX)
      obtain ⟨nA9, hnA⟩ : ∃ n, (i : Int) - ((catN ((fT i).filter fA)).size : Int) = n := ⟨_, rfl⟩
      obtain ⟨nB9, hnB⟩ : ∃ n, (i : Int) - ((catN ((fT i).filter fB)).size : Int) = n := ⟨_, rfl⟩
      rw [hnA] at DA
      rw [hnB] at DB9
      have hnA9 : wrap64 ((i : Int) - ((catN ((fT i).filter fA)).size : Int)) = nA9 := by rw [hnA]; unfold wrap64; omega
      have hnB9 : wrap64 ((i : Int) - ((catN ((fT i).filter fB)).size : Int)) = nB9 := by rw [hnB]; unfold wrap64; omega
      have HN9 := Lib.hid (And.intro hnA9 hnB9)
      have HS9 := Lib.hid (show ∀ (f : ByteArray × Int → Bool) (j : Nat), j ≤ 12 → (catN ((fT j).filter f)).size ≤ j from fun f j _ => by
        rw [catN_size _ fun x hx => fT_name j x (List.mem_filter.1 hx).1]
        exact Nat.le_trans (List.length_filter_le _ _) (by rw [fT_len]; exact Nat.le_refl _))
      have S0 := Lib.hid HQ.out.1
      have T0 := Lib.hid HQ.out.2
      clear hfA hfB nA nB gA gB lA lB hnA hnB hnA9 hnB9 hp9 hq9 hi hlt ha hb HQ
      go_wp2
      go_region
      go_wp2_with fail
      clear u4 u5 u6 u7 u8 q0 k0
      have S1 := Lib.hid (S0.out.old (Below.refl _ _).drew)
      have T1 := Lib.hid (T0.out.old (Below.refl _ _).drew)
      generalize wr.drew = w1 at S1 T1 ⊢
      go_wp2_with (first | (go_at_call 13; (with_reducible refine (N1.out _ S1.out.below).mono ?_); rintro e w2 ⟨rfl, h1⟩; have S2 := Lib.hid (S1.out.old h1); have T2 := Lib.hid (T1.out.old h1); clear h1; refine Hid.out ?_))
      refine Lib.hid ?_
      go_wp2_with (first | (go_at_call 13; (with_reducible refine (N2.out _ S2.out.below).mono ?_); rintro e w3 ⟨rfl, h1⟩; have S3 := Lib.hid (S2.out.old h1); have T3 := Lib.hid (T2.out.old h1); have D1 := Lib.hid (DA.out w3 S3.out _ rfl); clear h1; refine Hid.out ?_))
      refine Lib.hid ?_
      go_wp2_with (first | (go_at_call 17; (with_reducible refine (D1.out).mono ?_); rintro e w4 ⟨rfl, h1, h2⟩; have T4 := Lib.hid (T3.out.other S3.out h2 HD.out.1 HD.out.2 h1.below); have S4 := Lib.hid h1; clear h1 h2; refine Hid.out ?_))
      refine Lib.hid ?_
      have rA := Lib.hid (heap_alloc_new w4 (.cells #[.int .i64 3, .int .i64 nA9, .string ⟨#[]⟩, .slice none 0 0] 29))
      have S5 := Lib.hid (S4.out.old (alloc_old (o := .cells #[.int .i64 3, .int .i64 nA9, .string ⟨#[]⟩, .slice none 0 0] 29)))
      have T5 := Lib.hid (T4.out.old (alloc_old (o := .cells #[.int .i64 3, .int .i64 nA9, .string ⟨#[]⟩, .slice none 0 0] 29)))
      go_wp2_with (first | (go_at_call 13; (with_reducible refine (N3.out _ S5.out.below).mono ?_); rintro e w5 ⟨rfl, h1⟩; have S6 := Lib.hid (S5.out.old h1); have T6 := Lib.hid (T5.out.old h1); have rB := Lib.hid (blk_below rA.out h1); clear h1; refine Hid.out ?_))
      refine Lib.hid ?_
      go_wp2_with (first | (go_at_call 13; (with_reducible refine (N4.out _ S6.out.below).mono ?_); rintro e w6 ⟨rfl, h1⟩; have S7 := Lib.hid (S6.out.old h1); have T7 := Lib.hid (T6.out.old h1); have rC := Lib.hid (blk_below rB.out h1); have D2 := Lib.hid (DB9.out w6 T7.out _ rfl); clear h1; refine Hid.out ?_))
      refine Lib.hid ?_
      go_wp2_with (first | (go_at_call 17; (with_reducible refine (D2.out).mono ?_); rintro e w7 ⟨rfl, h1, h2⟩; have S8 := Lib.hid (S7.out.other T7.out h2 HE.out.1 HE.out.2 h1.below); have T8 := Lib.hid h1; have rD := Lib.hid (keepL h2 T7.out rC.out (by decide)); clear h1 h2; refine Hid.out ?_))
      refine Lib.hid ?_
      have rE := Lib.hid (blk_below rD.out (alloc_old (o := .cells #[.int .i64 3, .int .i64 nB9, .string ⟨#[]⟩, .slice none 0 0] 29)))
      have sA := Lib.hid (heap_alloc_new w7 (.cells #[.int .i64 3, .int .i64 nB9, .string ⟨#[]⟩, .slice none 0 0] 29))
      have S9 := Lib.hid (S8.out.old (alloc_old (o := .cells #[.int .i64 3, .int .i64 nB9, .string ⟨#[]⟩, .slice none 0 0] 29)))
      have T9 := Lib.hid (T8.out.old (alloc_old (o := .cells #[.int .i64 3, .int .i64 nB9, .string ⟨#[]⟩, .slice none 0 0] 29)))
      go_wp2
      clear DA DB9 D1 D2 N1 N2 N3 N4 S0 S1 S2 S3 S4 S5 S6 S7 S8 T0 T1 T2 T3 T4 T5 T6 T7 T8 rA rB rC rD
      generalize w7.alloc (.cells #[.int .i64 3, .int .i64 nB9, .string ⟨#[]⟩, .slice none 0 0] 29) = y at rE sA S9 T9 ⊢
      go_loopw [22, 23, 24] (fun sv tv iv wr => ∃ j : Nat, j ≤ i ∧ sv = .string (catN ((fT j).filter fA)) ∧ tv = .string (catN ((fT j).filter fB)) ∧ iv = .int .i64 j ∧ Hid (Below y.heap.size y wr)) (fun _ _ iv _ => i - (intOf iv).toNat)
      case atStart => exact ⟨0, Nat.zero_le _, rfl, rfl, rfl, Lib.hid (Below.refl _ _)⟩
      case round =>
        obtain ⟨j, hj, rfl, rfl, rfl, HQ⟩ := hrel
        by_cases hlt : j < i
        · have q0 : (j : Int) < (i : Int) := by omega
          have i12 : j < 12 := by omega
          have u1 : IntKind.u8.wrap (j : Int) = (j : Int) := by rw [IntKind.wrap_u8]; omega
          have u2 : IntKind.u8.wrap (97 + (j : Int)) = 97 + (j : Int) := by rw [IntKind.wrap_u8]; omega
          have A0 := Lib.hid (HQ.out.trans ((alloc_old (w := wr) (o := .cells #[.int .u8 (97 + (j : Int))] 5)).mono (Below.size HQ.out)))
          have cv := convZ j i12 (wr.alloc (.cells #[.int .u8 (97 + (j : Int))] 5)) wr.heap.size (heap_alloc_new wr (.cells #[.int .u8 (97 + (j : Int))] 5))
          have cA := catZ_succ fA j
          have cB := catZ_succ fB j
          rw [HA.out] at cA
          rw [HB.out] at cB
          have z1 := HS9.out fA j (by omega)
          have z2 := HS9.out fB j (by omega)
          obtain ⟨s, hs⟩ : ∃ s, catN ((fT j).filter fA) = s := ⟨_, rfl⟩
          obtain ⟨t, ht⟩ : ∃ t, catN ((fT j).filter fB) = t := ⟨_, rfl⟩
          rw [hs] at cA z1 ⊢
          rw [ht] at cB z2 ⊢
          have zz := nZ_size j
          have q1 : ¬ (s.size + (nZ j).size > 9223372036854775807) := by omega
          have q2 : ¬ (t.size + (nZ j).size > 9223372036854775807) := by omega
          have CA := Lib.hid cA
          have CB := Lib.hid cB
          obtain ⟨nj, hnj⟩ : ∃ nj, nZ j = nj := ⟨_, rfl⟩
          rw [hnj] at cv q1 q2 CA CB
          obtain ⟨y3, hy3⟩ : ∃ y3, 3 * (j : Int) = y3 := ⟨_, rfl⟩
          have u3 : IntKind.i64.wrap (3 * (j : Int)) = y3 := by rw [← hy3, IntKind.wrap_i64]; omega
          rw [hy3] at CB
          have HY := Lib.hid hy3
          clear cA cB hs ht z1 z2 zz hnj hj hy3
          have d1 : (j : Int) < (a : Int) ∨ (¬ (j : Int) < (a : Int) ∧ (b : Int) < (j : Int)) ∨ (¬ (j : Int) < (a : Int) ∧ ¬ (b : Int) < (j : Int)) := by omega
          have d2 : y3 < p ∨ (¬ y3 < p ∧ q < y3) ∨ (¬ y3 < p ∧ ¬ q < y3) := by omega
          rcases d1 with e1 | ⟨e1, e2⟩ | ⟨e1, e2⟩ <;> rcases d2 with e3 | ⟨e3, e4⟩ | ⟨e3, e4⟩
          all_goals (
            go_wp2_with fail
            exact ⟨⟨j + 1, by omega, by rw [CA.out]; first | rw [if_pos (by simp; omega)] | rw [if_neg (by simp; omega)], by rw [CB.out]; first | rw [if_pos (by simp; omega)] | rw [if_neg (by simp; omega)], by go_num, A0⟩, by simp [intOf]; omega⟩)
        · have q0 : ¬ (j : Int) < (i : Int) := by omega
          obtain rfl : j = i := by omega
          have BY := Lib.hid HQ.out
          obtain ⟨hnA9, hnB9⟩ := HN9.out
          have TLc := Lib.hid (TL.out wr (S9.out.old BY.out).below)
          obtain ⟨s, hs⟩ : ∃ s, catN ((fT j).filter fA) = s := ⟨_, rfl⟩
          obtain ⟨t, ht⟩ : ∃ t, catN ((fT j).filter fB) = t := ⟨_, rfl⟩
          rw [hs] at hnA9 JA ⊢
          rw [ht] at hnB9 JB ⊢
          obtain ⟨GA, hGA⟩ : ∃ GA, (fT j).filter fA = GA := ⟨_, rfl⟩
          obtain ⟨GB, hGB⟩ : ∃ GB, (fT j).filter fB = GB := ⟨_, rfl⟩
          rw [hGA] at JA S9
          rw [hGB] at JB T9
          clear hs ht hGA hGB HA HB HN9 HS9 HK U NU NW HT TL HQ hj
          go_wp2_with (first | (go_at_call 18; (with_reducible refine (TLc.out).mono ?_); rintro e x1 ⟨rfl, h1⟩; have B1 := Lib.hid (BY.out.trans (h1.mono (Below.size BY.out))); have X1 := Lib.hid (S9.out.old B1.out); have Y1 := Lib.hid (T9.out.old B1.out); have JC := Lib.hid (JA.out x1 X1.out); clear h1; refine Hid.out ?_))
          refine Lib.hid ?_
          obtain ⟨⟨a0, a1, a2, a3⟩, _⟩ := cells4 (blk_below rE.out B1.out)
          obtain ⟨⟨b0, b1, b2, b3⟩, _⟩ := cells4 (blk_below sA.out B1.out)
          go_wp2_with (first | (go_at_call 19; (first | ((with_reducible refine (JC.out).mono ?_); rintro e x2 ⟨rfl, h1, h2⟩; have Y2 := Lib.hid (Y1.out.other X1.out h2 HD.out.1 HD.out.2 h1.below); have JE := Lib.hid (JB.out x2 Y2.out); clear h1 h2) | ((with_reducible refine (JE.out).mono ?_); rintro e x3 ⟨rfl, h1, h2⟩; have Z3 := Lib.hid h1; clear h1 h2))))
          go_ret
          exact ⟨by first | rfl | simp, Z3.out.below⟩
end Go.Proofs.YticlacjpgjkhcaaGreatDoor

/- The scores' laws: the tables. -/
namespace Go.Proofs.YticlacjpgjkhcaaGreatDoor
open Go.ChangeShapes Go.WideShapes Go.ChangeAt Go.RowKit

theorem gPowZ : Tryz.prog.globalNamed "internal/strconv.uint64pow10" = some 0 := by kernel_rfl
theorem gPowTypeZ : (Tryz.prog.globals[0]?).map (·.type) = some 234 := by kernel_rfl
theorem cellsTbZ : Tryz.prog.cellsOf 234 = 20 := by kernel_rfl
theorem cellsEZ : Tryz.prog.cellsOf 165 = 1 := by kernel_rfl
theorem gBrZ : Tryz.prog.globalNamed "math/bits.deBruijn64tab" = some 3 := by kernel_rfl
theorem gBrTypeZ : (Tryz.prog.globals[3]?).map (·.type) = some 270 := by kernel_rfl
theorem cellsBrZ : Tryz.prog.cellsOf 270 = 64 := by kernel_rfl
theorem cellsUZ : Tryz.prog.cellsOf 5 = 1 := by kernel_rfl
/-- The tables. -/
theorem tz_of {W : World} (h : laidMetH Tryz.prog Rows.scoresTrimRow.laid W) : TZ W := by
  have h1 : Tab W := Lib.tabIs_of_head (rest := []) (zs := Lib.pow10Tab) gPowZ gPowTypeZ (by kernel_rfl) (by kernel_rfl) cellsEZ cellsTbZ (laidMet.tail (laidMet.tail h))
  have h2 : Lib.TabIs Tryz.prog W "math/bits.deBruijn64tab" .u8 (Lib.deBruijn64tab.map fun (n : Nat) => (n : Int)) := Lib.tabIs_of_head (k := .u8) (zs := Lib.deBruijn64tab.map fun (n : Nat) => (n : Int)) gBrZ gBrTypeZ (by kernel_rfl) (by kernel_rfl) cellsUZ cellsBrZ (laidMet.tail h)
  have h3 : DB W := fun j hj => by
    have h4 := h2.cell gBrZ j (by rw [List.length_map]; exact hj)
    rw [h4]
    congr 2
    simp only [List.getD, List.getElem?_map]
    cases Lib.deBruijn64tab[j]? <;> rfl
  refine ⟨h1, h3, ?_⟩
  have h0 := h3 0 (by decide)
  rcases Nat.lt_or_ge 3 W.heap.size with h | h
  · exact h
  · unfold World.cell? at h0
    simp only [Array.getElem?_eq_none h] at h0
    cases h0
end Go.Proofs.YticlacjpgjkhcaaGreatDoor

/- The law ScoresTrim, whole. -/
namespace Go.Proofs.YticlacjpgjkhcaaGreatDoor
open Go.ChangeShapes Go.WideShapes Go.ChangeAt Go.RowKit

theorem trim_law {W : World} (hT : TZ W) (n0 i0 j0 lo0 hi0 : Int) : Calls Tryz.prog 5 #[.int .i64 n0, .int .i64 i0, .int .i64 j0, .int .i64 lo0, .int .i64 hi0] W fun e w' => e = .returned (.bool true) ∧ Below W.heap.size W w' := trim_main n0 i0 j0 lo0 hi0 W hT
end Go.Proofs.YticlacjpgjkhcaaGreatDoor
