/- Texts joined: L2, L3a -/
import Derived.Test.YtgkejkgailnbmaaGreatDoorQt32
import Derived.Deep.RegionLaw
import Derived.Laws.BytesString
import Derived.Laws.IdiomStrings
set_option linter.unusedVariables false
set_option linter.unusedSimpArgs false
namespace Go.Proofs.YtgkejkgailnbmaaGreatDoor
open Lib (hid)
open Go.ChangeShapes Go.WideShapes Go.ChangeAt Go.RowKit TP
set_option maxRecDepth 100000 in
set_option maxHeartbeats 4000000 in
theorem sign_is (x : ByteArray) (hx : x.size ≤ 100000) (a : Nat) (ha : a < x.size) (w : World) : Calls Tryz.prog 44 #[.string x, .int .i64 a] w fun e w' => e = .returned (.int .i64 ((signL (x.data.toList.drop a) : Nat) : Int)) ∧ Below w.heap.size w w' := by
 have nT := heap_alloc_new w (.cells #[.string ⟨#[46, 46]⟩, .string ⟨#[61, 61]⟩, .string ⟨#[126, 61]⟩, .string ⟨#[60, 61]⟩, .string ⟨#[62, 61]⟩, .string ⟨#[47, 47]⟩] 9)
 have AB := hid (alloc_old (w := w) (o := .cells #[.string ⟨#[46, 46]⟩, .string ⟨#[61, 61]⟩, .string ⟨#[126, 61]⟩, .string ⟨#[60, 61]⟩, .string ⟨#[62, 61]⟩, .string ⟨#[47, 47]⟩] 9))
 have hix := fun w => idx_at x (a : Int) a rfl ha (x[a].toNat : Int) rfl w
 have hd := drop_cons x a ha
 obtain ⟨c, hc⟩ : ∃ c, x[a] = c := ⟨_, rfl⟩
 rw [hc] at hix hd
 obtain ⟨N, hN⟩ : ∃ N, x.size = N := ⟨_, rfl⟩
 have HN := hid hN
 have hsz : (x.size : Int) = (N : Int) := by rw [hN]
 have ha2 : a < N := by omega
 rw [hN] at hx
 rw [hd]
 obtain ⟨n, hn⟩ : ∃ n, c.toNat = n := ⟨_, rfl⟩
 rw [hn] at hix
 have HN2 := hid hn
 have HD := hid hd
 have wi1 : IntKind.i64.wrap ((a : Int) + 1) = (a : Int) + 1 ∧ wrap64 ((a : Int) + 1) = (a : Int) + 1 := by rw [IntKind.wrap_i64]; unfold wrap64; constructor <;> omega
 have wi2 : IntKind.i64.wrap ((a : Int) + 2) = (a : Int) + 2 ∧ wrap64 ((a : Int) + 2) = (a : Int) + 2 := by rw [IntKind.wrap_i64]; unfold wrap64; constructor <;> omega
 obtain ⟨wi1a, wi1b⟩ := wi1
 obtain ⟨wi2a, wi2b⟩ := wi2
 clear hd hn hN
 by_cases b1 : (a : Int) + 1 < (N : Int)
 ·have hl2 : a + 1 < x.size := by rw [HN.out]; omega
  have hsl := fun w => slice_at x a 2 (a : Int) ((a : Int) + 2) rfl (by omega) (by omega) w
  rw [HD.out, drop_cons x (a + 1) hl2] at hsl
  rw [drop_cons x (a + 1) hl2]
  obtain ⟨f, hf⟩ : ∃ f, x[a + 1] = f := ⟨_, rfl⟩
  rw [hf] at hsl ⊢
  have hsl2 : ∀ w, (Instr.slice 9 (.string x) (some (.int .i64 (a : Int))) (some (.int .i64 ((a : Int) + 2))) none).run Tryz.prog w = .ok (.string (B [c, f])) w := hsl
  have hs := has_is w.heap.size 6 twos (B [c, f]) (by decide) _ (fun j y hj => by
   rw [cell_of_row _ _ j _ _ (0, 0) nT]
   show (twos.map Value.string).toArray[j]? = _
   simp [hj])
  rw [show twos.length = 6 from rfl] at hs
  have HS := hid hs
  have eS : signL (c :: f :: x.data.toList.drop (a + 1 + 1)) = if twos.any (fun y => decide (y = B [c, f])) then 2 else if ones.contains c then 1 else 0 := rfl
  rw [eS]
  clear hsl nT hf hs eS hc
  generalize B [c, f] = tx at hsl2 HS ⊢
  cases hany : twos.any (fun y => decide (y = tx)) with
  | true =>
   rw [hany] at HS
   rw [if_pos rfl]
   go_enter Tryz.func44, Tryz.ntmps44
   go_wp2_with (first | (go_at_call 66; (with_reducible refine (HS.out).mono ?_); rintro e w1 ⟨rfl, rfl⟩))
   exact bodyPost_ret (v := .int .i64 2) (by simp [results, Tryz.results44, go_sem]) rfl ⟨by simp, AB.out⟩
  | false =>
   rw [hany] at HS
   rw [if_neg (by decide)]
   obtain ⟨r, hrr⟩ : ∃ r : Nat, (if ones.contains c then 1 else 0) = r := ⟨_, rfl⟩
   rw [hrr]
   have HRR := hid hrr
   clear hany hrr
   go_enter Tryz.func44, Tryz.ntmps44
   go_wp2_with (first | (go_at_call 66; (with_reducible refine (HS.out).mono ?_); rintro e w1 ⟨rfl, rfl⟩))
   go_loopw [6] (fun iv wr => ∃ i : Nat, i ≤ 17 ∧ iv = .int .i64 i ∧ Hid (Below w.heap.size w wr ∧ ∀ (j : Nat) (y : UInt8), j < i → ones[j]? = some y → ¬ y = c)) (fun iv _ => 17 - (intOf iv).toNat)
   case atStart => exact ⟨0, Nat.zero_le _, rfl, hid ⟨AB.out, fun j _ hj => absurd hj (Nat.not_lt_zero _)⟩⟩
   case round =>
    obtain ⟨i, hi, rfl, HQ⟩ := hrel
    by_cases hlt : i < 17
    ·have q0 : (i : Int) < 17 := by omega
     obtain ⟨y, hy⟩ : ∃ y, ones[i]? = some y := ⟨_, List.getElem?_eq_getElem hlt⟩
     have hjx := fun w => idx_at ((⟨#[43, 45, 42, 37, 60, 62, 61, 40, 41, 123, 125, 91, 93, 44, 46, 35, 59]⟩ : ByteArray)) (i : Int) i rfl hlt (((⟨#[43, 45, 42, 37, 60, 62, 61, 40, 41, 123, 125, 91, 93, 44, 46, 35, 59]⟩ : ByteArray))[i].toNat : Int) rfl w
     have ey : ((⟨#[43, 45, 42, 37, 60, 62, 61, 40, 41, 123, 125, 91, 93, 44, 46, 35, 59]⟩ : ByteArray))[i] = y := by
      have h1 := (List.getElem?_eq_some_iff.1 hy).2
      exact h1
     rw [ey] at hjx
     have HY := hid hy
     obtain ⟨k, hk⟩ : ∃ k, y.toNat = k := ⟨_, rfl⟩
     rw [hk] at hjx
     have HK := hid hk
     clear ey hy hk
     by_cases hy2 : k = n
     ·subst hy2
      have ec : y = c := UInt8.toNat_inj.1 (HK.out.trans HN2.out.symm)
      have hr : ones.contains c = true := by
       rw [← ec]
       exact List.contains_iff_mem.2 (List.mem_of_getElem? HY.out)
      obtain rfl : r = 1 := by rw [← HRR.out, if_pos hr]
      clear ec hr
      go_wp2
      go_quiet (fail)
      have BX := hid (below_drewN HQ.out.1 nq)
      go_wp2
      exact bodyPost_ret (v := .int .i64 1) (by simp [results, Tryz.results44, go_sem]) rfl ⟨by simp, BX.out⟩
     ·have hne : ¬ (k : Int) = (n : Int) := by omega
      have hne2 : ((k : Int) == (n : Int)) = false := by simp [hne]
      have HNE := hid hy2
      clear hy2
      go_wp2
      go_quiet (fail)
      have BX := hid (below_drewN HQ.out.1 nq)
      go_wp2
      exact ⟨⟨i + 1, hlt, by go_num, hid ⟨BX.out, fun j z hj hz => by
       rcases Nat.lt_or_ge j i with h1 | h1
       ·exact HQ.out.2 j z h1 hz
       ·have e : j = i := by omega
        subst e
        rw [HY.out] at hz
        cases hz
        intro e
        exact HNE.out (by rw [← HK.out, ← HN2.out, e])⟩⟩, by simp [intOf]; omega⟩
    ·have q0 : ¬ (i : Int) < 17 := by omega
     have hr : ones.contains c = false := by
      rw [Bool.eq_false_iff]
      intro h
      obtain ⟨j, hj⟩ := List.mem_iff_getElem?.1 (List.contains_iff_mem.1 h)
      exact HQ.out.2 j c (by have := (List.getElem?_eq_some_iff.1 hj).1; have e : ones.length = 17 := rfl; omega) hj rfl
     obtain rfl : r = 0 := by rw [← HRR.out, if_neg (by rw [hr]; decide)]
     clear hr
     go_wp2
     exact bodyPost_ret (v := .int .i64 0) (by simp [results, Tryz.results44, go_sem]) rfl ⟨by simp, HQ.out.1⟩
 ·have hnil : x.data.toList.drop (a + 1) = [] := List.drop_of_length_le (by have := HN.out; simp; omega)
  rw [hnil]
  have eS : signL [c] = if ones.contains c then 1 else 0 := rfl
  rw [eS]
  obtain ⟨r, hrr⟩ : ∃ r : Nat, (if ones.contains c then 1 else 0) = r := ⟨_, rfl⟩
  rw [hrr]
  have HRR := hid hrr
  clear nT hc hnil eS hrr
  go_enter Tryz.func44, Tryz.ntmps44
  go_wp2
  go_loopw [6] (fun iv wr => ∃ i : Nat, i ≤ 17 ∧ iv = .int .i64 i ∧ Hid (Below w.heap.size w wr ∧ ∀ (j : Nat) (y : UInt8), j < i → ones[j]? = some y → ¬ y = c)) (fun iv _ => 17 - (intOf iv).toNat)
  case atStart => exact ⟨0, Nat.zero_le _, rfl, hid ⟨Below.refl _ _, fun j _ hj => absurd hj (Nat.not_lt_zero _)⟩⟩
  case round =>
   obtain ⟨i, hi, rfl, HQ⟩ := hrel
   by_cases hlt : i < 17
   ·have q0 : (i : Int) < 17 := by omega
    obtain ⟨y, hy⟩ : ∃ y, ones[i]? = some y := ⟨_, List.getElem?_eq_getElem hlt⟩
    have hjx := fun w => idx_at ((⟨#[43, 45, 42, 37, 60, 62, 61, 40, 41, 123, 125, 91, 93, 44, 46, 35, 59]⟩ : ByteArray)) (i : Int) i rfl hlt (((⟨#[43, 45, 42, 37, 60, 62, 61, 40, 41, 123, 125, 91, 93, 44, 46, 35, 59]⟩ : ByteArray))[i].toNat : Int) rfl w
    have ey : ((⟨#[43, 45, 42, 37, 60, 62, 61, 40, 41, 123, 125, 91, 93, 44, 46, 35, 59]⟩ : ByteArray))[i] = y := by
     have h1 := (List.getElem?_eq_some_iff.1 hy).2
     exact h1
    rw [ey] at hjx
    have HY := hid hy
    obtain ⟨k, hk⟩ : ∃ k, y.toNat = k := ⟨_, rfl⟩
    rw [hk] at hjx
    have HK := hid hk
    clear ey hy hk
    by_cases hy2 : k = n
    ·subst hy2
     have ec : y = c := UInt8.toNat_inj.1 (HK.out.trans HN2.out.symm)
     have hr : ones.contains c = true := by
      rw [← ec]
      exact List.contains_iff_mem.2 (List.mem_of_getElem? HY.out)
     obtain rfl : r = 1 := by rw [← HRR.out, if_pos hr]
     clear ec hr
     go_wp2
     go_quiet (fail)
     have BX := hid (below_drewN HQ.out.1 nq)
     go_wp2
     exact bodyPost_ret (v := .int .i64 1) (by simp [results, Tryz.results44, go_sem]) rfl ⟨by simp, BX.out⟩
    ·have hne : ¬ (k : Int) = (n : Int) := by omega
     have hne2 : ((k : Int) == (n : Int)) = false := by simp [hne]
     have HNE := hid hy2
     clear hy2
     go_wp2
     go_quiet (fail)
     have BX := hid (below_drewN HQ.out.1 nq)
     go_wp2
     exact ⟨⟨i + 1, hlt, by go_num, hid ⟨BX.out, fun j z hj hz => by
      rcases Nat.lt_or_ge j i with h1 | h1
      ·exact HQ.out.2 j z h1 hz
      ·have e : j = i := by omega
       subst e
       rw [HY.out] at hz
       cases hz
       intro e
       exact HNE.out (by rw [← HK.out, ← HN2.out, e])⟩⟩, by simp [intOf]; omega⟩
   ·have q0 : ¬ (i : Int) < 17 := by omega
    have hr : ones.contains c = false := by
     rw [Bool.eq_false_iff]
     intro h
     obtain ⟨j, hj⟩ := List.mem_iff_getElem?.1 (List.contains_iff_mem.1 h)
     exact HQ.out.2 j c (by have := (List.getElem?_eq_some_iff.1 hj).1; have e : ones.length = 17 := rfl; omega) hj rfl
    obtain rfl : r = 0 := by rw [← HRR.out, if_neg (by rw [hr]; decide)]
    clear hr
    go_wp2
    exact bodyPost_ret (v := .int .i64 0) (by simp [results, Tryz.results44, go_sem]) rfl ⟨by simp, HQ.out.1⟩
end Go.Proofs.YtgkejkgailnbmaaGreatDoor
namespace Go.Proofs.YtgkejkgailnbmaaGreatDoor
open Lib (hid)
open Go.ChangeShapes Go.WideShapes Go.ChangeAt Go.RowKit TP
theorem wrapS (v : Int) (h : 0 ≤ v ∧ v ≤ 1000000) : IntKind.i64.wrap v = v ∧ wrap64 v = v := by
 rw [IntKind.wrap_i64]
 unfold wrap64
 constructor <;> omega
theorem i3_lt {i N : Nat} (h : i + 3 < N) : (i : Int) + 1 + 2 < (N : Int) ∧ ¬ (N : Int) ≤ (i : Int) + 1 + 2 := by omega
theorem i3_ge {i N : Nat} (h : ¬ i + 3 < N) : ¬ (i : Int) + 1 + 2 < (N : Int) ∧ (N : Int) ≤ (i : Int) + 1 + 2 := by omega
theorem i3_x {i N : Nat} {x : ByteArray} (hN : x.size = N) (h : i + 3 < N) : i + 2 < x.size ∧ i + 3 < x.size := by omega
theorem i3_d {i N : Nat} {x : ByteArray} (hN : x.size = N) (h : ¬ i + 3 < N) : (x.data.toList.drop (i + 2)).length ≤ 1 := by
 rw [List.length_drop]
 have : x.data.toList.length = x.size := by simp
 omega
theorem drop4 {x : ByteArray} {i : Nat} (h1 : i + 2 < x.size) (h2 : i + 3 < x.size) : x.data.toList.drop (i + 2) = x[i + 2] :: x[i + 3] :: x.data.toList.drop (i + 4) := by
 rw [drop_cons x (i + 2) h1, drop_cons x (i + 2 + 1) h2]
theorem or16F : ∀ p q : Fin 16, bits .or .i64 ((p.val : Int) * 16) (q.val : Int) = (p.val : Int) * 16 + q.val := by decide
theorem or16 {p q : Nat} (hp : p < 16) (hq : q < 16) : bits .or .i64 ((p : Int) * 16) (q : Int) = (p : Int) * 16 + q := or16F ⟨p, hp⟩ ⟨q, hq⟩
theorem num16 {p q : Nat} (hp : p < 16) (hq : q < 16) : IntKind.i64.wrap ((p : Int) * 16) = (p : Int) * 16 ∧ IntKind.u8.wrap ((p : Int) * 16 + q) = (p : Int) * 16 + q := by
 rw [IntKind.wrap_i64, IntKind.wrap_u8]
 constructor <;> omega
theorem hexB_lt {c : UInt8} {p : Nat} (h : hexB c = some p) : p < 16 := by
 have h1 := hexI_nat c
 unfold hexI at h1
 rw [h] at h1
 simp only at h1
 (repeat' split at h1) <;> omega
theorem of16 {p q : Nat} (hp : p < 16) (hq : q < 16) : (UInt8.ofNat (p * 16 + q)).toNat = p * 16 + q := by
 rw [UInt8.toNat_ofNat']
 omega
theorem sub4 {i a : Nat} (h : a < i) : i + 4 - a = i - a + 4 := by omega
theorem le4 {i a m : Nat} (h : m ≤ i ∧ a < i) : m + 1 ≤ i + 4 ∧ a < i + 4 := by omega
def cellB (c : UInt8) : Value := .int .u8 (c.toNat : Int)
theorem und64 : Tryz.prog.underlying 64 = some (.slice 5) := by kernel_rfl
theorem und5 : Tryz.prog.underlying 5 = some (.int .u8) := by kernel_rfl
theorem i5n : (Tryz.prog.info? 5).map (fun i => (i.zero, i.size, i.bytes)) = some (some (.int .u8 0), 1, 1) := by kernel_rfl
def BX (w : World) (c : Nat) (v : Value) (l : List UInt8) : Prop := w.ownsRow c 5 1 v l.length (l.map cellB)
theorem BX.nil (w : World) (c : Nat) : BX w c (.slice none 0 0) [] := World.ownsRow_nil _ _ _ _
theorem BX.form {w : World} {c : Nat} {v : Value} {l : List UInt8} (h : BX w c v l) : ∃ A cap, v = .slice A l.length cap := by
 unfold BX World.ownsRow at h
 obtain ⟨_, ⟨rfl, hz⟩ | ⟨g, cap, cur, rfl, _⟩⟩ := h
 ·exact ⟨none, 0, by rw [hz]⟩
 ·exact ⟨_, cap, rfl⟩
theorem BX.below {w w' : World} {c : Nat} {v : Value} {l : List UInt8} (h : BX w c v l) (hb : Below w.heap.size w w') : BX w' c v l := row_below h hb
theorem BX.conv {w : World} {c : Nat} {v : Value} {l : List UInt8} (h : BX w c v l) : (convert 64 9 v).run Tryz.prog w = .ok (.string (B l)) w := by
 have h' := h
 unfold BX World.ownsRow at h'
 obtain ⟨_, ⟨rfl, hz⟩ | ⟨g, cap, cur, rfl, _⟩⟩ := h'
 ·have hl : l = [] := List.eq_nil_of_length_eq_zero hz
  subst hl
  exact run_convert_bytes_string (P := Tryz.prog) w 64 9 5 none 0 0 und64 und5 Tryz.underlying9
 ·refine run_convert_bytes_back (P := Tryz.prog) w 64 9 5 ⟨g, 0, none⟩ cap l und64 und5 Tryz.underlying9 (fun j hj => ?_)
  have := row_cell h j (cellB l[j]) (by rw [List.getElem?_map, List.getElem?_eq_getElem hj]; rfl)
  rw [Addr.add_lit, Nat.zero_add]
  exact this
theorem append_BX {ops : Array Oper} {rest : List Oper} {o : Oper} {a : Act} {Q : Exit → Act → World → Prop} (w : World) (hg : o.guard = none) (s x : Operand) (hop : o.op = Op.call { callee := Callee.builtin Builtin.append, args := #[s, x], argTypes := #[64, 64] })
  (c : Nat) (v : Value) (l : List UInt8) (N : Nat) (hN : l.length = N) (hs : a.eval s = v) (h : BX w c v l) (y : UInt8) (b : Nat) (hx : a.eval x = .slice (some ⟨b, 0, none⟩) 1 1) (hb : w.heap[b]? = some (.cells #[cellB y] 5)) (hl : N ≤ 1000000) (hc : c ≤ w.heap.size)
  (k : ∀ g cap w', BX w' c (.slice (some ⟨g, 0, none⟩) (N + 1) cap) (l ++ [y]) → w.grownBy w' v.ownBlock → wpList Tryz.prog ops Q rest (a.put o.dst (.slice (some ⟨g, 0, none⟩) (N + 1) cap)) w') : wpList Tryz.prog ops Q (o :: rest) a w := by
 have h1 := h
 unfold BX at h1
 rw [hN] at h1
 obtain ⟨i0, hi0, hz0, hz1, hz2⟩ := info_parts i5n
 refine wpList_append_lies w hg s x 64 hop c 5 i0 _ 1 1 und64 hi0 hz0 hz1 hz2 rfl (by decide) v N (l.map cellB) hs h1 ⟨b, 0, none⟩ 1 1 [cellB y] hx rfl (news_blk hb) (fun u hu => by rw [List.mem_singleton.1 hu]; rfl) (by decide) (by unfold maxLen; omega) (by omega) hc _ rfl ?_
 intro g cap w' h3 h4 _ _
 refine k g cap w' ?_ h4
 unfold BX
 rw [List.length_append, hN, List.map_append]
 exact h3
theorem step_BX {ops : Array Oper} {o : Oper} {a : Act} {K : Act → World → Prop} {Q : Exit → Act → World → Prop} {E : Prop} (w : World) (hg : o.guard = none) (s x : Operand) (hop : o.op = Op.call { callee := Callee.builtin Builtin.append, args := #[s, x], argTypes := #[64, 64] })
  (c : Nat) (v : Value) (l : List UInt8) (N : Nat) (hN : l.length = N) (hs : a.eval s = v) (h : BX w c v l) (y : UInt8) (b : Nat) (hx : a.eval x = .slice (some ⟨b, 0, none⟩) 1 1) (hb : w.heap[b]? = some (.cells #[cellB y] 5)) (hl : N ≤ 1000000) (hc : c ≤ w.heap.size)
  (k : ∀ g cap w', BX w' c (.slice (some ⟨g, 0, none⟩) (N + 1) cap) (l ++ [y]) → w.grownBy w' v.ownBlock → K (a.put o.dst (.slice (some ⟨g, 0, none⟩) (N + 1) cap)) w') : if Region.wanted o (yielded ops a.tmps) = true then Oper.wp Tryz.prog o a w K Q else E := by
 have h1 := h
 unfold BX at h1
 rw [hN] at h1
 obtain ⟨i0, hi0, hz0, hz1, hz2⟩ := info_parts i5n
 refine step_append_lies w hg s x 64 hop c 5 i0 _ 1 1 und64 hi0 hz0 hz1 hz2 rfl (by decide) v N (l.map cellB) hs h1 ⟨b, 0, none⟩ 1 1 [cellB y] hx rfl (news_blk hb) (fun u hu => by rw [List.mem_singleton.1 hu]; rfl) (by decide) (by unfold maxLen; omega) (by omega) hc _ rfl ?_
 intro g cap w' h3 h4 _ _
 refine k g cap w' ?_ h4
 unfold BX
 rw [List.length_append, hN, List.map_append]
 exact h3
theorem BX.grown {w w' : World} {c W0 : Nat} {v : Value} {l : List UInt8} {wz : World} (h : BX w c v l) (hb : Below W0 wz w) (hc : W0 ≤ c) (hw : W0 ≤ w.heap.size) (hg : w.grownBy w' v.ownBlock) : Below W0 wz w' :=
 hb.trans ⟨hg.os, hg.tape, hg.output, hg.size, fun i hi => hg.block i (by omega) (fun e => by have := (row_own h i e.symm).1; omega)⟩
theorem quotL_nil (mark : UInt8) (out : List UInt8) (n : Nat) : quotL mark [] out n = none := by unfold quotL; rfl
theorem quotL_nl (mark : UInt8) (r out : List UInt8) (n : Nat) : quotL mark (10 :: r) out n = none := by
 unfold quotL
 rw [if_pos rfl]
theorem quotL_mark (mark : UInt8) (hm : mark ≠ 10) (r out : List UInt8) (n : Nat) : quotL mark (mark :: r) out n = if out.length ≤ 4096 then some (out, n + 1) else none := by
 unfold quotL
 rw [if_neg hm, if_pos rfl]
theorem quotL_plain (mark c : UInt8) (r out : List UInt8) (n : Nat) (h1 : c ≠ 10) (h2 : c ≠ mark) (h3 : c ≠ 92) : quotL mark (c :: r) out n = quotL mark r (out ++ [c]) (n + 1) := by
 conv => lhs; unfold quotL
 rw [if_neg h1, if_neg h2, if_pos h3]
theorem quotL_esc0 (mark : UInt8) (hm : mark ≠ 92) (out : List UInt8) (n : Nat) : quotL mark [92] out n = none := by
 unfold quotL
 rw [if_neg (by decide), if_neg (fun e => hm e.symm), if_neg (by decide)]
theorem quotL_esc (mark : UInt8) (hm : mark ≠ 92) (e : UInt8) (r2 out : List UInt8) (n : Nat) : quotL mark (92 :: e :: r2) out n =
  if e = 110 then quotL mark r2 (out ++ [10]) (n + 2)
  else if e = 116 then quotL mark r2 (out ++ [9]) (n + 2)
  else if e = 92 ∨ e = 34 ∨ e = 39 then quotL mark r2 (out ++ [e]) (n + 2)
  else if e = 120 then
   match r2 with
   | x :: y :: r3 =>
    match hexB x, hexB y with
    | some p, some q => quotL mark r3 (out ++ [UInt8.ofNat (p * 16 + q)]) (n + 4)
    | _, _ => none
   | _ => none
  else none := by
 conv => lhs; unfold quotL
 rw [if_neg (by decide), if_neg (fun e => hm e.symm), if_neg (by decide)]
 rfl
end Go.Proofs.YtgkejkgailnbmaaGreatDoor
