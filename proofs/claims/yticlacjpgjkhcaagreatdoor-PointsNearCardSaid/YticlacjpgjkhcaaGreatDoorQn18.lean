/- Texts joined: EqP, KP1, KP2 -/
import Derived.Test.YticlacjpgjkhcaaGreatDoorQn16
import Derived.Test.YticlacjpgjkhcaaGreatDoorQn17
import Derived.Test.YticlacjpgjkhcaaGreatDoorQn5
import Derived.Test.YticlacjpgjkhcaaGreatDoorQn15
import Derived.Test.YticlacjpgjkhcaaGreatDoorQn14

/- Points: which are equal; values of them: which are the same. -/
namespace Go.Proofs.YticlacjpgjkhcaaGreatDoor
open Go.ChangeShapes Go.WideShapes Go.ChangeAt Go.RowKit Go.Fl

theorem order_self (d : Ieee.Datum) (h : d.isNaN = false) : d.order d = some .eq := by
  cases d with
  | nan s t => simp [Ieee.Datum.isNaN] at h
  | infinity s => cases s <;> rfl
  | number s m e => simp [Ieee.Datum.order]
theorem read_near (s : Bool) (m : Nat) (hm : m < 2 ^ 53) : (Ieee.double.read (fz s m)).isNaN = false := by
  obtain ⟨k, hk⟩ := read_fz s m hm
  rw [hk]
  rfl
theorem order_fi (n : Int) (hn : n.natAbs < 2 ^ 53) : FloatKind.f64.format.order (fi n) (fi n) = some .eq := order_self _ (read_near _ _ hn)
theorem fi_inj {a b : Int} (ha : a.natAbs < 2 ^ 53) (hb : b.natAbs < 2 ^ 53) (h : fi a = fi b) : a = b := by
  have h1 := toIntI a ha
  rw [h, toIntI b hb] at h1
  exact (Option.some.inj h1).symm
set_option maxRecDepth 100000 in
set_option maxHeartbeats 4000000 in
theorem part_any (a b : Int) (ha : a.natAbs < 2 ^ 53) (hb : b.natAbs < 2 ^ 53) (w : World) : Calls Tryz.prog 228 #[.float .f64 (fi a), .float .f64 (fi b)] w fun e w' => e = .returned (.bool (decide (a = b))) ∧ w = w' := by
  have h1 := order_fi a ha
  have h2 := bits_run
  by_cases h : a = b
  · subst h
    go_enter Tryz.func228, Tryz.ntmps228
    go_wp2
    go_ret
    exact ⟨by simp, rfl⟩
  · have hne : ¬ ((fi a : Nat) : Int) = ((fi b : Nat) : Int) := fun e => h (fi_inj ha hb (by exact_mod_cast e))
    have h3 : decide (a = b) = false := decide_eq_false h
    have H3 := Lib.hid h3
    clear h h3 ha hb
    go_enter Tryz.func228, Tryz.ntmps228
    go_wp2
    go_ret
    exact ⟨by rw [H3.out]; simp; exact hne, rfl⟩
theorem cells_of {X : World} {b : Nat} {a0 a1 : Value} {t : TypeId} (h : X.heap[b]? = some (.cells #[a0, a1] t)) : X.cell? ⟨b, 0, none⟩ = some a0 ∧ X.cell? ⟨b, 1, none⟩ = some a1 := by
  refine ⟨?_, ?_⟩ <;> simp [World.cell?, h]
def okP2 (p : ByteArray × Int × Int) : Prop := okI p.2.1 = true ∧ okI p.2.2 = true
set_option maxRecDepth 100000 in
set_option maxHeartbeats 4000000 in
theorem same2_any (p q : ByteArray × Int × Int) (hp : okP2 p) (hq : okP2 q) (b : Nat) (w : World) (hb : w.cell? ⟨b, 0, none⟩ = some (.func (.func 228) #[] #[])) : Calls Tryz.prog 231 #[.agg #[.string p.1, .complex .f64 (fi p.2.1) (fi p.2.2)], .agg #[.string q.1, .complex .f64 (fi q.2.1) (fi q.2.2)], .pointer (some ⟨b, 0, none⟩)] w fun e w' => e = .returned (.bool (decide (p = q))) ∧ Below w.heap.size w w' := by
  have hp1 := okI_absN hp.1
  have hp2 := okI_absN hp.2
  have hq1 := okI_absN hq.1
  have hq2 := okI_absN hq.2
  have P1 := Lib.hid (fun X => part_any p.2.1 q.2.1 hp1 hq1 X)
  have P2 := Lib.hid (fun X => part_any p.2.2 q.2.2 hp2 hq2 X)
  obtain ⟨W, hW⟩ : ∃ W, (w.alloc (.cells #[.string p.1, .complex .f64 (fi p.2.1) (fi p.2.2)] 110)).alloc (.cells #[.string q.1, .complex .f64 (fi q.2.1) (fi q.2.2)] 110) = W := ⟨_, rfl⟩
  have c0 : W.cell? ⟨b, 0, none⟩ = some (.func (.func 228) #[] #[]) := by
    rw [← hW]
    exact (alloc_old.trans (alloc_old.mono (by simp))).cell (World.block_lt_of_cell? _ _ hb) |>.trans hb
  have B := Lib.hid (show Below w.heap.size w W by rw [← hW]; exact alloc_old.trans (alloc_old.mono (by simp)))
  have d0 : W.cell? ⟨w.heap.size, 0, none⟩ = some (.string p.1) := by
    rw [← hW]
    exact (cells_of (blk_below (heap_alloc_new w _) alloc_old)).1
  have d1 : W.cell? ⟨w.heap.size, 1, none⟩ = some (.complex .f64 (fi p.2.1) (fi p.2.2)) := by
    rw [← hW]
    exact (cells_of (blk_below (heap_alloc_new w _) alloc_old)).2
  have e0 : W.cell? ⟨w.heap.size + 1, 0, none⟩ = some (.string q.1) := by
    rw [← hW]
    exact (cells_of (heap2L w _)).1
  have e1 : W.cell? ⟨w.heap.size + 1, 1, none⟩ = some (.complex .f64 (fi q.2.1) (fi q.2.2)) := by
    rw [← hW]
    exact (cells_of (heap2L w _)).2
  have TLI : ∀ x y : ByteArray, x.toList = y.toList → x = y := fun x y e => Go.WideShapes.bytes_inj (by rw [ByteArray.toList_eq, ByteArray.toList_eq] at e; exact e)
  clear hp hq hp1 hp2 hq1 hq2 hb
  by_cases z1 : p.1.toList = q.1.toList
  · have z1' := TLI _ _ z1
    clear TLI
    by_cases z2 : p.2.1 = q.2.1
    · by_cases z3 : p.2.2 = q.2.2
      · have HR := Lib.hid (decide_eq_true (show p = q from Prod.ext z1' (Prod.ext z2 z3)))
        simp only [decide_eq_true z2] at P1
        simp only [decide_eq_true z3] at P2
        clear z1' z2 z3
        go_enter Tryz.func231, Tryz.ntmps231
        go_wp2_with (first | (go_at_call 228; (with_reducible refine (P1.out _).mono ?_); rintro e w2 ⟨rfl, rfl⟩) | (go_at_call 228; (with_reducible refine (P2.out _).mono ?_); rintro e w3 ⟨rfl, rfl⟩))
        go_ret
        exact ⟨by rw [HR.out]; simp, B.out⟩
      · have HR := Lib.hid (decide_eq_false (show ¬ p = q from fun e => z3 (by rw [e])))
        simp only [decide_eq_true z2] at P1
        simp only [decide_eq_false z3] at P2
        clear z1' z2 z3
        go_enter Tryz.func231, Tryz.ntmps231
        go_wp2_with (first | (go_at_call 228; (with_reducible refine (P1.out _).mono ?_); rintro e w2 ⟨rfl, rfl⟩) | (go_at_call 228; (with_reducible refine (P2.out _).mono ?_); rintro e w3 ⟨rfl, rfl⟩))
        go_ret
        exact ⟨by rw [HR.out]; simp, B.out⟩
    · have HR := Lib.hid (decide_eq_false (show ¬ p = q from fun e => z2 (by rw [e])))
      simp only [decide_eq_false z2] at P1
      clear z1' z2 P2
      go_enter Tryz.func231, Tryz.ntmps231
      go_wp2_with (first | (go_at_call 228; (with_reducible refine (P1.out _).mono ?_); rintro e w2 ⟨rfl, rfl⟩))
      go_ret
      exact ⟨by rw [HR.out]; simp, B.out⟩
  · have HR := Lib.hid (decide_eq_false (show ¬ p = q from fun e => z1 (by rw [e])))
    clear TLI P1 P2
    go_enter Tryz.func231, Tryz.ntmps231
    go_wp2
    go_ret
    exact ⟨by rw [HR.out]; simp, B.out⟩
set_option maxRecDepth 100000 in
set_option maxHeartbeats 4000000 in
theorem EqP_len (A B : Option Addr) (n C m E : Nat) (hne : n ≠ m) (f : Value) (w : World) : Calls Tryz.prog 230 #[.slice A n C, .slice B m E, f] w fun e w' => e = .returned (.bool false) ∧ Below w.heap.size w w' := by
  have q : ¬ ((n : Int) = (m : Int)) := by omega
  go_enter Tryz.func230, Tryz.ntmps230
  go_wp2
  exact bodyPost_ret (v := .bool false) (by simp [results, Tryz.results230, go_sem]) rfl ⟨rfl, Below.refl _ _⟩
set_option maxRecDepth 100000 in
set_option maxHeartbeats 4000000 in
theorem EqP (A B : Option Addr) (n C E c c' : Nat) (l r : List (ByteArray × Int × Int)) (hl : l.length = n) (hr : r.length = n) (h1 : 1 ≤ n) (_hm : n ≤ 9223372036854775807) (hol : ∀ p ∈ l, okP2 p) (hor : ∀ p ∈ r, okP2 p) (b : Nat) (w : World) (h : RP w c (.slice A n C) l) (h' : RP w c' (.slice B n E) r) (hb : w.cell? ⟨b, 0, none⟩ = some (.func (.func 228) #[] #[])) : Calls Tryz.prog 230 #[.slice A n C, .slice B n E, .func (.func 231) #[] #[.pointer (some ⟨b, 0, none⟩)]] w fun e w' => e = .returned (.bool (decide (l = r))) ∧ Below w.heap.size w w' := by
  obtain ⟨g, C', hA, hC⟩ := h.form (by intro e; rw [e] at hl; simp at hl; omega)
  have hA' : A = some ⟨g, 0, none⟩ := by injection hA
  subst hA'
  obtain ⟨g2, C2, hB, hC2⟩ := h'.form (by intro e; rw [e] at hr; simp at hr; omega)
  have hB' : B = some ⟨g2, 0, none⟩ := by injection hB
  subst hB'
  clear hA hC hB hC2
  have HR := Lib.hid h
  have HS := Lib.hid h'
  have HL := Lib.hid hl
  have HT := Lib.hid hr
  have HOL := Lib.hid hol
  have HOR := Lib.hid hor
  have HBC := Lib.hid hb
  clear h h' hl hr hol hor hb
  go_enter Tryz.func230, Tryz.ntmps230
  go_wp2
  go_loopw [17] (fun iv wr => ∃ i : Nat, i ≤ n ∧ iv = .int .i64 i ∧ Hid (Below w.heap.size w wr) ∧ Hid (∀ j, j < i → l[j]? = r[j]?)) (fun iv _ => n - (iOfL iv).toNat)
  case atStart => exact ⟨0, Nat.zero_le _, rfl, Lib.hid (Below.refl _ _), Lib.hid (fun j hj => absurd hj (Nat.not_lt_zero _))⟩
  case round =>
    obtain ⟨i, hi, rfl, HB, HJ⟩ := hrel
    by_cases hlt : i < n
    · obtain ⟨p, hp⟩ : ∃ p, l[i]? = some p := ⟨_, List.getElem?_eq_getElem (by rw [HL.out]; omega)⟩
      obtain ⟨q, hq⟩ : ∃ q, r[i]? = some q := ⟨_, List.getElem?_eq_getElem (by rw [HT.out]; omega)⟩
      obtain ⟨d0, d1⟩ := (HR.out.below HB.out).at HL.out i p hp
      obtain ⟨e0, e1⟩ := (HS.out.below HB.out).at HT.out i q hq
      have q3 : (i : Int) < (n : Int) := by omega
      have HN := Lib.hid (fun (e : p = q) (j : Nat) (hj : j < i + 1) => show l[j]? = r[j]? from by
        by_cases hji : j < i
        · exact HJ.out j hji
        · obtain rfl : j = i := by omega
          rw [hp, hq, e])
      have HNo := Lib.hid (fun (e : l = r) => show p = q from by rw [e, hq] at hp; exact (Option.some.inj hp).symm)
      have A2 := Lib.hid ((alloc_old (w := wr) (o := .cells #[.string p.1, .complex .f64 (fi p.2.1) (fi p.2.2)] 110)).trans ((alloc_old (w := wr.alloc (.cells #[.string p.1, .complex .f64 (fi p.2.1) (fi p.2.2)] 110)) (o := .cells #[.string q.1, .complex .f64 (fi q.2.1) (fi q.2.2)] 110)).mono (by simp)))
      have SM := Lib.hid (same2_any p q (HOL.out p (List.mem_of_getElem? hp)) (HOR.out q (List.mem_of_getElem? hq)) b _ (((HB.out.trans (A2.out.mono (Below.size HB.out))).cell (World.block_lt_of_cell? _ _ HBC.out)).trans HBC.out))
      obtain ⟨e0', e1'⟩ := (HS.out.below (belT HB.out (alloc_old (w := wr) (o := .cells #[.string p.1, .complex .f64 (fi p.2.1) (fi p.2.2)] 110)))).at HT.out i q hq
      clear hp hq
      have w1 : IntKind.i64.wrap (i : Int) = (i : Int) := IntWalk.i64_in _ (by omega)
      by_cases z1 : p = q
      · have HJ2 := Lib.hid (HN.out z1)
        simp only [decide_eq_true z1] at SM
        clear z1
        go_wp2_with (first | (go_at_call 231; (with_reducible refine (SM.out).mono ?_); rintro e w5 ⟨rfl, h1⟩; have HB1 := Lib.hid (belT (HB.out.trans (A2.out.mono (Below.size HB.out))) h1); clear h1))
        exact ⟨⟨i + 1, by omega, by go_num, HB1, HJ2⟩, by simp [iOfL]; omega⟩
      · have hne : l ≠ r := fun e => z1 (HNo.out e)
        simp only [decide_eq_false z1] at SM
        clear z1
        go_wp2_with (first | (go_at_call 231; (with_reducible refine (SM.out).mono ?_); rintro e w5 ⟨rfl, h1⟩; have HB1 := Lib.hid (belT (HB.out.trans (A2.out.mono (Below.size HB.out))) h1); clear h1))
        go_ret
        exact ⟨by simp [hne], HB1.out⟩
    · obtain rfl : n = i := by omega
      have q1 : ¬ (n : Int) < (n : Int) := by omega
      have hlr : l = r := List.ext_getElem? fun j => by
        by_cases hj : j < n
        · exact HJ.out j hj
        · rw [List.getElem?_eq_none (by rw [HL.out]; omega), List.getElem?_eq_none (by rw [HT.out]; omega)]
      have HLR := Lib.hid hlr
      clear hlr
      go_wp2
      go_ret
      exact ⟨by simp [HLR.out], HB.out⟩
set_option maxRecDepth 100000 in
set_option maxHeartbeats 4000000 in
theorem SameGP_true (kd : Int) (A3 A4 A5 A6 : Option Addr) (an3 ac3 an4 ac4 an5 ac5 an6 ac6 : Nat) (Y3 Y4 Y5 Y6 : Option Addr) (yn3 yc3 yn4 yc4 yn5 yc5 yn6 yc6 : Nat) (w : World) (q3 : ∀ X, Below w.heap.size w X → Calls Tryz.prog 232 #[.slice A3 an3 ac3, .slice Y3 yn3 yc3] X fun e w' => e = .returned (.bool true) ∧ Below X.heap.size X w') (q4 : ∀ X, Below w.heap.size w X → Calls Tryz.prog 233 #[.slice A4 an4 ac4, .slice Y4 yn4 yc4] X fun e w' => e = .returned (.bool true) ∧ Below X.heap.size X w') (q5 : ∀ X, Below w.heap.size w X → Calls Tryz.prog 234 #[.slice A5 an5 ac5, .slice Y5 yn5 yc5] X fun e w' => e = .returned (.bool true) ∧ Below X.heap.size X w') (q6 : ∀ (b : Nat) X, Below w.heap.size w X → X.cell? ⟨b, 0, none⟩ = some (.func (.func 228) #[] #[]) → Calls Tryz.prog 230 #[.slice A6 an6 ac6, .slice Y6 yn6 yc6, .func (.func 231) #[] #[.pointer (some ⟨b, 0, none⟩)]] X fun e w' => e = .returned (.bool true) ∧ Below X.heap.size X w') : Calls Tryz.prog 211 #[.agg #[.int .i64 kd, .string ⟨#[]⟩, .slice A3 an3 ac3, .slice A4 an4 ac4, .slice A5 an5 ac5, .slice A6 an6 ac6], .agg #[.int .i64 kd, .string ⟨#[]⟩, .slice Y3 yn3 yc3, .slice Y4 yn4 yc4, .slice Y5 yn5 yc5, .slice Y6 yn6 yc6]] w fun e w' => e = .returned (.bool true) ∧ Below w.heap.size w w' := by
  have hmf : ∀ (fn : Fn) (first cap : Array Value) (w : World), (Instr.makeFunc fn first cap).run Tryz.prog w = .ok (.func fn first cap) w := fun _ _ _ _ => rfl
  have hsf : ∀ (a : Addr) (f : Fn) (x y : Array Value) (w : World) (m : Mode), (store a (.func f x y) m).run Tryz.prog w = stored Tryz.prog w a (.func f x y) m := fun a f x y w m => run_store Tryz.prog w a _ m rfl
  have q3 := Lib.hid q3
  have q4 := Lib.hid q4
  have q5 := Lib.hid q5
  have q6 := Lib.hid q6
  have C1 := Lib.hid (fun w1 (hb : Below ((((w.alloc (.cells #[.int .i64 kd, .string ⟨#[]⟩, .slice A3 an3 ac3, .slice A4 an4 ac4, .slice A5 an5 ac5, .slice A6 an6 ac6] 64)).alloc (.cells #[.int .i64 kd, .string ⟨#[]⟩, .slice Y3 yn3 yc3, .slice Y4 yn4 yc4, .slice Y5 yn5 yc5, .slice Y6 yn6 yc6] 64)).alloc (.cells #[.func (.func 228) #[] #[]] 256))).heap.size ((((w.alloc (.cells #[.int .i64 kd, .string ⟨#[]⟩, .slice A3 an3 ac3, .slice A4 an4 ac4, .slice A5 an5 ac5, .slice A6 an6 ac6] 64)).alloc (.cells #[.int .i64 kd, .string ⟨#[]⟩, .slice Y3 yn3 yc3, .slice Y4 yn4 yc4, .slice Y5 yn5 yc5, .slice Y6 yn6 yc6] 64)).alloc (.cells #[.func (.func 228) #[] #[]] 256))) w1) => cells6 (blk_below (show ((((w.alloc (.cells #[.int .i64 kd, .string ⟨#[]⟩, .slice A3 an3 ac3, .slice A4 an4 ac4, .slice A5 an5 ac5, .slice A6 an6 ac6] 64)).alloc (.cells #[.int .i64 kd, .string ⟨#[]⟩, .slice Y3 yn3 yc3, .slice Y4 yn4 yc4, .slice Y5 yn5 yc5, .slice Y6 yn6 yc6] 64)).alloc (.cells #[.func (.func 228) #[] #[]] 256))).heap[w.heap.size]? = some (.cells #[.int .i64 kd, .string ⟨#[]⟩, .slice A3 an3 ac3, .slice A4 an4 ac4, .slice A5 an5 ac5, .slice A6 an6 ac6] 64) from blk_below (blk_below (heap_alloc_new w _) alloc_old) alloc_old) hb))
  have C2 := Lib.hid (fun w1 (hb : Below ((((w.alloc (.cells #[.int .i64 kd, .string ⟨#[]⟩, .slice A3 an3 ac3, .slice A4 an4 ac4, .slice A5 an5 ac5, .slice A6 an6 ac6] 64)).alloc (.cells #[.int .i64 kd, .string ⟨#[]⟩, .slice Y3 yn3 yc3, .slice Y4 yn4 yc4, .slice Y5 yn5 yc5, .slice Y6 yn6 yc6] 64)).alloc (.cells #[.func (.func 228) #[] #[]] 256))).heap.size ((((w.alloc (.cells #[.int .i64 kd, .string ⟨#[]⟩, .slice A3 an3 ac3, .slice A4 an4 ac4, .slice A5 an5 ac5, .slice A6 an6 ac6] 64)).alloc (.cells #[.int .i64 kd, .string ⟨#[]⟩, .slice Y3 yn3 yc3, .slice Y4 yn4 yc4, .slice Y5 yn5 yc5, .slice Y6 yn6 yc6] 64)).alloc (.cells #[.func (.func 228) #[] #[]] 256))) w1) => cells6 (blk_below (show ((((w.alloc (.cells #[.int .i64 kd, .string ⟨#[]⟩, .slice A3 an3 ac3, .slice A4 an4 ac4, .slice A5 an5 ac5, .slice A6 an6 ac6] 64)).alloc (.cells #[.int .i64 kd, .string ⟨#[]⟩, .slice Y3 yn3 yc3, .slice Y4 yn4 yc4, .slice Y5 yn5 yc5, .slice Y6 yn6 yc6] 64)).alloc (.cells #[.func (.func 228) #[] #[]] 256))).heap[w.heap.size + 1]? = some (.cells #[.int .i64 kd, .string ⟨#[]⟩, .slice Y3 yn3 yc3, .slice Y4 yn4 yc4, .slice Y5 yn5 yc5, .slice Y6 yn6 yc6] 64) from blk_below (new_next w _ _) alloc_old) hb))
  have BA := Lib.hid (show Below w.heap.size w ((((w.alloc (.cells #[.int .i64 kd, .string ⟨#[]⟩, .slice A3 an3 ac3, .slice A4 an4 ac4, .slice A5 an5 ac5, .slice A6 an6 ac6] 64)).alloc (.cells #[.int .i64 kd, .string ⟨#[]⟩, .slice Y3 yn3 yc3, .slice Y4 yn4 yc4, .slice Y5 yn5 yc5, .slice Y6 yn6 yc6] 64)).alloc (.cells #[.func (.func 228) #[] #[]] 256))) from (alloc_old.trans (alloc_old.mono (by simp))).trans (alloc_old.mono (by simp; omega)))
  have CB := Lib.hid (show ((((w.alloc (.cells #[.int .i64 kd, .string ⟨#[]⟩, .slice A3 an3 ac3, .slice A4 an4 ac4, .slice A5 an5 ac5, .slice A6 an6 ac6] 64)).alloc (.cells #[.int .i64 kd, .string ⟨#[]⟩, .slice Y3 yn3 yc3, .slice Y4 yn4 yc4, .slice Y5 yn5 yc5, .slice Y6 yn6 yc6] 64)).alloc (.cells #[.func (.func 228) #[] #[]] 256))).cell? ⟨w.heap.size + 2, 0, none⟩ = some (.func (.func 228) #[] #[]) from by
    rw [cell_of_row _ _ _ _ 256 (0, 0) (show _ = some (Obj.cells #[.func (.func 228) #[] #[]] 256) from by have := heap_alloc_new ((w.alloc (.cells #[.int .i64 kd, .string ⟨#[]⟩, .slice A3 an3 ac3, .slice A4 an4 ac4, .slice A5 an5 ac5, .slice A6 an6 ac6] 64)).alloc (.cells #[.int .i64 kd, .string ⟨#[]⟩, .slice Y3 yn3 yc3, .slice Y4 yn4 yc4, .slice Y5 yn5 yc5, .slice Y6 yn6 yc6] 64)) (.cells #[.func (.func 228) #[] #[]] 256); simp only [World.size_alloc] at this; exact this)]; rfl)
  go_enter Tryz.func211, Tryz.ntmps211
  go_wp2_with (first | (go_at_call 230; (with_reducible refine (q6.out _ _ BA.out CB.out).mono ?_); rintro e w1 ⟨rfl, h1⟩; have B1 := Lib.hid h1; clear h1; refine Hid.out ?_))
  refine Lib.hid ?_
  have B2 := Lib.hid (BA.out.trans (B1.out.mono (Below.size BA.out)))
  obtain ⟨⟨a0, a1, a2, a3, a4, a5⟩, _⟩ := C1.out _ B1.out
  obtain ⟨⟨b0, b1, b2, b3, b4, b5⟩, _⟩ := C2.out _ B1.out
  have D := Lib.hid (show ∀ X, Below w1.heap.size w1 X → X.cell? ⟨w.heap.size, 3, none⟩ = some (.slice A4 an4 ac4) ∧ X.cell? ⟨w.heap.size, 4, none⟩ = some (.slice A5 an5 ac5) ∧ X.cell? ⟨w.heap.size + 1, 3, none⟩ = some (.slice Y4 yn4 yc4) ∧ X.cell? ⟨w.heap.size + 1, 4, none⟩ = some (.slice Y5 yn5 yc5) from fun X hb =>
have x1 := (C1.out _ (belT B1.out hb)).1
have x2 := (C2.out _ (belT B1.out hb)).1
⟨x1.2.2.2.1, x1.2.2.2.2.1, x2.2.2.2.1, x2.2.2.2.2.1⟩)
  go_wp2_with (first | (go_at_call 232; (with_reducible refine (q3.out _ B2.out).mono ?_); rintro e w2 ⟨rfl, h1⟩; have B3 := Lib.hid h1; have BX := Lib.hid (belT B2.out h1); clear h1; obtain ⟨x1, x2, x3, x4⟩ := D.out _ B3.out) | (go_at_call 233; (with_reducible refine (q4.out _ BX.out).mono ?_); rintro e w3 ⟨rfl, h1⟩; have B4 := Lib.hid (belT B3.out h1); have BY := Lib.hid (belT BX.out h1); clear h1; obtain ⟨y1, y2, y3, y4⟩ := D.out _ B4.out) | (go_at_call 234; (with_reducible refine (q5.out _ BY.out).mono ?_); rintro e w4 ⟨rfl, h1⟩; have BZ := Lib.hid (belT BY.out h1); clear h1))
  go_ret
  exact ⟨by simp, BZ.out⟩
set_option maxRecDepth 100000 in
set_option maxHeartbeats 4000000 in
theorem SameGP_f6 (kd : Int) (A3 A4 A5 A6 : Option Addr) (an3 ac3 an4 ac4 an5 ac5 an6 ac6 : Nat) (Y3 Y4 Y5 Y6 : Option Addr) (yn3 yc3 yn4 yc4 yn5 yc5 yn6 yc6 : Nat) (w : World) (q3 : ∀ X, Below w.heap.size w X → Calls Tryz.prog 232 #[.slice A3 an3 ac3, .slice Y3 yn3 yc3] X fun e w' => e = .returned (.bool true) ∧ Below X.heap.size X w') (q4 : ∀ X, Below w.heap.size w X → Calls Tryz.prog 233 #[.slice A4 an4 ac4, .slice Y4 yn4 yc4] X fun e w' => e = .returned (.bool true) ∧ Below X.heap.size X w') (q5 : ∀ X, Below w.heap.size w X → Calls Tryz.prog 234 #[.slice A5 an5 ac5, .slice Y5 yn5 yc5] X fun e w' => e = .returned (.bool true) ∧ Below X.heap.size X w') (q6 : ∀ (b : Nat) X, Below w.heap.size w X → X.cell? ⟨b, 0, none⟩ = some (.func (.func 228) #[] #[]) → Calls Tryz.prog 230 #[.slice A6 an6 ac6, .slice Y6 yn6 yc6, .func (.func 231) #[] #[.pointer (some ⟨b, 0, none⟩)]] X fun e w' => e = .returned (.bool false) ∧ Below X.heap.size X w') : Calls Tryz.prog 211 #[.agg #[.int .i64 kd, .string ⟨#[]⟩, .slice A3 an3 ac3, .slice A4 an4 ac4, .slice A5 an5 ac5, .slice A6 an6 ac6], .agg #[.int .i64 kd, .string ⟨#[]⟩, .slice Y3 yn3 yc3, .slice Y4 yn4 yc4, .slice Y5 yn5 yc5, .slice Y6 yn6 yc6]] w fun e w' => e = .returned (.bool false) ∧ Below w.heap.size w w' := by
  have hmf : ∀ (fn : Fn) (first cap : Array Value) (w : World), (Instr.makeFunc fn first cap).run Tryz.prog w = .ok (.func fn first cap) w := fun _ _ _ _ => rfl
  have hsf : ∀ (a : Addr) (f : Fn) (x y : Array Value) (w : World) (m : Mode), (store a (.func f x y) m).run Tryz.prog w = stored Tryz.prog w a (.func f x y) m := fun a f x y w m => run_store Tryz.prog w a _ m rfl
  have q3 := Lib.hid q3
  have q4 := Lib.hid q4
  have q5 := Lib.hid q5
  have q6 := Lib.hid q6
  have C1 := Lib.hid (fun w1 (hb : Below ((((w.alloc (.cells #[.int .i64 kd, .string ⟨#[]⟩, .slice A3 an3 ac3, .slice A4 an4 ac4, .slice A5 an5 ac5, .slice A6 an6 ac6] 64)).alloc (.cells #[.int .i64 kd, .string ⟨#[]⟩, .slice Y3 yn3 yc3, .slice Y4 yn4 yc4, .slice Y5 yn5 yc5, .slice Y6 yn6 yc6] 64)).alloc (.cells #[.func (.func 228) #[] #[]] 256))).heap.size ((((w.alloc (.cells #[.int .i64 kd, .string ⟨#[]⟩, .slice A3 an3 ac3, .slice A4 an4 ac4, .slice A5 an5 ac5, .slice A6 an6 ac6] 64)).alloc (.cells #[.int .i64 kd, .string ⟨#[]⟩, .slice Y3 yn3 yc3, .slice Y4 yn4 yc4, .slice Y5 yn5 yc5, .slice Y6 yn6 yc6] 64)).alloc (.cells #[.func (.func 228) #[] #[]] 256))) w1) => cells6 (blk_below (show ((((w.alloc (.cells #[.int .i64 kd, .string ⟨#[]⟩, .slice A3 an3 ac3, .slice A4 an4 ac4, .slice A5 an5 ac5, .slice A6 an6 ac6] 64)).alloc (.cells #[.int .i64 kd, .string ⟨#[]⟩, .slice Y3 yn3 yc3, .slice Y4 yn4 yc4, .slice Y5 yn5 yc5, .slice Y6 yn6 yc6] 64)).alloc (.cells #[.func (.func 228) #[] #[]] 256))).heap[w.heap.size]? = some (.cells #[.int .i64 kd, .string ⟨#[]⟩, .slice A3 an3 ac3, .slice A4 an4 ac4, .slice A5 an5 ac5, .slice A6 an6 ac6] 64) from blk_below (blk_below (heap_alloc_new w _) alloc_old) alloc_old) hb))
  have C2 := Lib.hid (fun w1 (hb : Below ((((w.alloc (.cells #[.int .i64 kd, .string ⟨#[]⟩, .slice A3 an3 ac3, .slice A4 an4 ac4, .slice A5 an5 ac5, .slice A6 an6 ac6] 64)).alloc (.cells #[.int .i64 kd, .string ⟨#[]⟩, .slice Y3 yn3 yc3, .slice Y4 yn4 yc4, .slice Y5 yn5 yc5, .slice Y6 yn6 yc6] 64)).alloc (.cells #[.func (.func 228) #[] #[]] 256))).heap.size ((((w.alloc (.cells #[.int .i64 kd, .string ⟨#[]⟩, .slice A3 an3 ac3, .slice A4 an4 ac4, .slice A5 an5 ac5, .slice A6 an6 ac6] 64)).alloc (.cells #[.int .i64 kd, .string ⟨#[]⟩, .slice Y3 yn3 yc3, .slice Y4 yn4 yc4, .slice Y5 yn5 yc5, .slice Y6 yn6 yc6] 64)).alloc (.cells #[.func (.func 228) #[] #[]] 256))) w1) => cells6 (blk_below (show ((((w.alloc (.cells #[.int .i64 kd, .string ⟨#[]⟩, .slice A3 an3 ac3, .slice A4 an4 ac4, .slice A5 an5 ac5, .slice A6 an6 ac6] 64)).alloc (.cells #[.int .i64 kd, .string ⟨#[]⟩, .slice Y3 yn3 yc3, .slice Y4 yn4 yc4, .slice Y5 yn5 yc5, .slice Y6 yn6 yc6] 64)).alloc (.cells #[.func (.func 228) #[] #[]] 256))).heap[w.heap.size + 1]? = some (.cells #[.int .i64 kd, .string ⟨#[]⟩, .slice Y3 yn3 yc3, .slice Y4 yn4 yc4, .slice Y5 yn5 yc5, .slice Y6 yn6 yc6] 64) from blk_below (new_next w _ _) alloc_old) hb))
  have BA := Lib.hid (show Below w.heap.size w ((((w.alloc (.cells #[.int .i64 kd, .string ⟨#[]⟩, .slice A3 an3 ac3, .slice A4 an4 ac4, .slice A5 an5 ac5, .slice A6 an6 ac6] 64)).alloc (.cells #[.int .i64 kd, .string ⟨#[]⟩, .slice Y3 yn3 yc3, .slice Y4 yn4 yc4, .slice Y5 yn5 yc5, .slice Y6 yn6 yc6] 64)).alloc (.cells #[.func (.func 228) #[] #[]] 256))) from (alloc_old.trans (alloc_old.mono (by simp))).trans (alloc_old.mono (by simp; omega)))
  have CB := Lib.hid (show ((((w.alloc (.cells #[.int .i64 kd, .string ⟨#[]⟩, .slice A3 an3 ac3, .slice A4 an4 ac4, .slice A5 an5 ac5, .slice A6 an6 ac6] 64)).alloc (.cells #[.int .i64 kd, .string ⟨#[]⟩, .slice Y3 yn3 yc3, .slice Y4 yn4 yc4, .slice Y5 yn5 yc5, .slice Y6 yn6 yc6] 64)).alloc (.cells #[.func (.func 228) #[] #[]] 256))).cell? ⟨w.heap.size + 2, 0, none⟩ = some (.func (.func 228) #[] #[]) from by
    rw [cell_of_row _ _ _ _ 256 (0, 0) (show _ = some (Obj.cells #[.func (.func 228) #[] #[]] 256) from by have := heap_alloc_new ((w.alloc (.cells #[.int .i64 kd, .string ⟨#[]⟩, .slice A3 an3 ac3, .slice A4 an4 ac4, .slice A5 an5 ac5, .slice A6 an6 ac6] 64)).alloc (.cells #[.int .i64 kd, .string ⟨#[]⟩, .slice Y3 yn3 yc3, .slice Y4 yn4 yc4, .slice Y5 yn5 yc5, .slice Y6 yn6 yc6] 64)) (.cells #[.func (.func 228) #[] #[]] 256); simp only [World.size_alloc] at this; exact this)]; rfl)
  go_enter Tryz.func211, Tryz.ntmps211
  go_wp2_with (first | (go_at_call 230; (with_reducible refine (q6.out _ _ BA.out CB.out).mono ?_); rintro e w1 ⟨rfl, h1⟩; have B1 := Lib.hid h1; clear h1; refine Hid.out ?_))
  refine Lib.hid ?_
  have B2 := Lib.hid (BA.out.trans (B1.out.mono (Below.size BA.out)))
  obtain ⟨⟨a0, a1, a2, a3, a4, a5⟩, _⟩ := C1.out _ B1.out
  obtain ⟨⟨b0, b1, b2, b3, b4, b5⟩, _⟩ := C2.out _ B1.out
  have D := Lib.hid (show ∀ X, Below w1.heap.size w1 X → X.cell? ⟨w.heap.size, 3, none⟩ = some (.slice A4 an4 ac4) ∧ X.cell? ⟨w.heap.size, 4, none⟩ = some (.slice A5 an5 ac5) ∧ X.cell? ⟨w.heap.size + 1, 3, none⟩ = some (.slice Y4 yn4 yc4) ∧ X.cell? ⟨w.heap.size + 1, 4, none⟩ = some (.slice Y5 yn5 yc5) from fun X hb =>
have x1 := (C1.out _ (belT B1.out hb)).1
have x2 := (C2.out _ (belT B1.out hb)).1
⟨x1.2.2.2.1, x1.2.2.2.2.1, x2.2.2.2.1, x2.2.2.2.2.1⟩)
  go_wp2_with (first | (go_at_call 232; (with_reducible refine (q3.out _ B2.out).mono ?_); rintro e w2 ⟨rfl, h1⟩; have B3 := Lib.hid h1; have BX := Lib.hid (belT B2.out h1); clear h1; obtain ⟨x1, x2, x3, x4⟩ := D.out _ B3.out) | (go_at_call 233; (with_reducible refine (q4.out _ BX.out).mono ?_); rintro e w3 ⟨rfl, h1⟩; have B4 := Lib.hid (belT B3.out h1); have BY := Lib.hid (belT BX.out h1); clear h1; obtain ⟨y1, y2, y3, y4⟩ := D.out _ B4.out) | (go_at_call 234; (with_reducible refine (q5.out _ BY.out).mono ?_); rintro e w4 ⟨rfl, h1⟩; have BZ := Lib.hid (belT BY.out h1); clear h1))
  go_ret
  exact ⟨by simp, BZ.out⟩
end Go.Proofs.YticlacjpgjkhcaaGreatDoor

/- Points as a kind of values. -/
namespace Go.Proofs.YticlacjpgjkhcaaGreatDoor
open Go.ChangeShapes Go.WideShapes Go.ChangeAt Go.RowKit Go.Fl

def VP (w : World) (F : List (ByteArray × Int × Int)) (a b c d : Value) : Prop := RP w 0 d F ∧ F ≠ [] ∧ (∀ p ∈ F, okP2 p) ∧ a = .slice none 0 0 ∧ b = .slice none 0 0 ∧ c = .slice none 0 0
/-- Points. -/
def KP : Kd (List (ByteArray × Int × Int)) where
  kd := 5
  nz := ⟨by decide, by decide⟩
  V := VP
  kept := by
    rintro w w' x a b c d ⟨h1, h2, h3⟩ hb
    exact ⟨h1.kept (fun g hg => hb g (.inr (.inr (.inr hg)))), h2, h3⟩
  typ := by
    rintro w x a b c d g ⟨h1, h2, _, rfl, rfl, rfl⟩ hg
    rcases hg with hg | hg | hg | hg
    · cases hg
    · cases hg
    · cases hg
    · obtain ⟨cs, hc⟩ := row_typ h1 g hg
      exact ⟨cs, 110, hc, by decide, by decide, by decide, by decide, by decide⟩
/-- Points that may be. -/
def okP (k : ByteArray) (F : List (ByteArray × Int × Int)) : Prop := 1 ≤ k.size ∧ k.size ≤ 512 ∧ F ≠ [] ∧ F.length ≤ 31 ∧ (∀ s ∈ tP F, s.size ≤ 4096) ∧ 16 + 16 * F.length + sumSz (tP F) ≤ 262144 ∧ ∀ (i : Nat) (p q : ByteArray × Int × Int), F[i]? = some p → F[i + 1]? = some q → bl p.1 < bl q.1
/-- What four slices are that hold points. -/
theorem VP.form {w : World} {F : List (ByteArray × Int × Int)} (A3 A4 A5 A6 : Option Addr) (an3 ac3 an4 ac4 an5 ac5 an6 ac6 : Nat) (h : VP w F (.slice A3 an3 ac3) (.slice A4 an4 ac4) (.slice A5 an5 ac5) (.slice A6 an6 ac6)) : ∃ g, A6 = some ⟨g, 0, none⟩ ∧ an6 = F.length ∧ A3 = none ∧ an3 = 0 ∧ ac3 = 0 ∧ A4 = none ∧ an4 = 0 ∧ ac4 = 0 ∧ A5 = none ∧ an5 = 0 ∧ ac5 = 0 := by
  obtain ⟨h1, h2, _, h3, h4, h5⟩ := h
  obtain ⟨g, C, e, _⟩ := h1.form h2
  cases e
  cases h3
  cases h4
  cases h5
  exact ⟨g, rfl, rfl, rfl, rfl, rfl, rfl, rfl, rfl, rfl, rfl, rfl⟩
def KPok : KdOk KP okP where
  sz := fun k F => 48 + (k.size : Int) + 16 * (F.length : Int) + (sumSz (tP F) : Int)
  may := by
    rintro k F A3 A4 A5 A6 an3 ac3 an4 ac4 an5 ac5 an6 ac6 w ⟨h1, h2, h3, h4, h5, h6, h7⟩ hV
    obtain ⟨g, rfl, rfl, rfl, rfl, rfl, rfl, rfl, rfl, rfl, rfl, rfl⟩ := VP.form A3 A4 A5 A6 an3 ac3 an4 ac4 an5 ac5 an6 ac6 hV
    have hpos : 0 < F.length := List.length_pos_iff.2 h3
    exact sMayP k h1 h2 0 (by omega) (by omega) g ac6 F.length w (fun X hX => MayP g ac6 F F.length rfl hpos (by omega) 0 X (hV.1.below hX) hV.2.2.1 h5 h6 h7)
  clone := by
    rintro k F A3 A4 A5 A6 an3 ac3 an4 ac4 an5 ac5 an6 ac6 w ⟨h1, h2, h3, h4, h5, h6, h7⟩ hV
    obtain ⟨g, rfl, rfl, rfl, rfl, rfl, rfl, rfl, rfl, rfl, rfl, rfl⟩ := VP.form A3 A4 A5 A6 an3 ac3 an4 ac4 an5 ac5 an6 ac6 hV
    have hpos : 0 < F.length := List.length_pos_iff.2 h3
    refine (sCloneP k 0 g ac6 F F.length rfl hpos (by omega) 0 w hV.1).mono ?_
    rintro e w' ⟨g', C, rfl, hT, hb⟩
    refine ⟨none, none, none, some ⟨g', 0, none⟩, 0, 0, 0, 0, 0, 0, F.length, C, rfl, ⟨hT.mono (Nat.zero_le _), h3, hV.2.2.1, rfl, rfl, rfl⟩, fun g9 hg => ?_, hb⟩
    rcases hg with hg | hg | hg | hg
    · cases hg
    · cases hg
    · cases hg
    · exact (row_own hT g9 hg).1
  size := by
    rintro k F A3 A4 A5 A6 an3 ac3 an4 ac4 an5 ac5 an6 ac6 w ⟨h1, h2, h3, h4, h5, h6, h7⟩ hV
    obtain ⟨g, rfl, rfl, rfl, rfl, rfl, rfl, rfl, rfl, rfl, rfl, rfl⟩ := VP.form A3 A4 A5 A6 an3 ac3 an4 ac4 an5 ac5 an6 ac6 hV
    have hpos : 0 < F.length := List.length_pos_iff.2 h3
    exact sSizeP k 0 (by omega) g ac6 F F.length rfl hpos (by omega) 0 w hV.1 (by omega)
end Go.Proofs.YticlacjpgjkhcaaGreatDoor

/- Points as a kind of values: when two are the same. -/
namespace Go.Proofs.YticlacjpgjkhcaaGreatDoor
open Go.ChangeShapes Go.WideShapes Go.ChangeAt Go.RowKit Go.Fl

theorem RP.bound {w : World} {c : Nat} {A : Option Addr} {n C : Nat} {l : List (ByteArray × Int × Int)} (h : RP w c (.slice A n C) l) : l.length ≤ 9223372036854775807 := by
  have m : (maxLen : Nat) ≤ 9223372036854775807 := by decide
  unfold RP World.ownsRow at h
  obtain ⟨_, ⟨_, h2⟩ | ⟨g, cap, cur, e, h1, h2, h3, h4, _⟩⟩ := h
  · omega
  · omega
theorem EqP_any {w : World} {A B : Option Addr} {n C m E : Nat} {F G : List (ByteArray × Int × Int)} (h : RP w 0 (.slice A n C) F) (h' : RP w 0 (.slice B m E) G) (hn : F.length = n) (hm : G.length = m) (h1 : 1 ≤ n) (hb : n ≤ 9223372036854775807) (hF : ∀ p ∈ F, okP2 p) (hG : ∀ p ∈ G, okP2 p) (b : Nat) (hc : w.cell? ⟨b, 0, none⟩ = some (.func (.func 228) #[] #[])) : Calls Tryz.prog 230 #[.slice A n C, .slice B m E, .func (.func 231) #[] #[.pointer (some ⟨b, 0, none⟩)]] w fun e w' => e = .returned (.bool (decide (F = G))) ∧ Below w.heap.size w w' := by
  by_cases he : n = m
  · subst he
    exact EqP A B n C E 0 0 F G hn hm h1 hb hF hG b w h h' hc
  · rw [decide_eq_false (fun e : F = G => he (by rw [← hn, ← hm, e]))]
    exact EqP_len A B n C m E he _ w
theorem KPsame : KdSame KP where
  len := by
    rintro F A3 A4 A5 A6 an3 ac3 an4 ac4 an5 ac5 an6 ac6 w hV
    obtain ⟨g, rfl, rfl, rfl, rfl, rfl, rfl, rfl, rfl, rfl, rfl, rfl⟩ := VP.form A3 A4 A5 A6 an3 ac3 an4 ac4 an5 ac5 an6 ac6 hV
    have hpos : 0 < F.length := List.length_pos_iff.2 hV.2.1
    exact ⟨F.length, by omega, fun X _ => LenP (some ⟨g, 0, none⟩) F.length ac6 X⟩
  len0 := fun w => LenP none 0 0 w
  same := by
    rintro F G A3 A4 A5 A6 an3 ac3 an4 ac4 an5 ac5 an6 ac6 Y3 Y4 Y5 Y6 yn3 yc3 yn4 yc4 yn5 yc5 yn6 yc6 w h1 h2
    obtain ⟨g, rfl, rfl, rfl, rfl, rfl, rfl, rfl, rfl, rfl, rfl, rfl⟩ := VP.form A3 A4 A5 A6 an3 ac3 an4 ac4 an5 ac5 an6 ac6 h1
    obtain ⟨g', rfl, rfl, rfl, rfl, rfl, rfl, rfl, rfl, rfl, rfl, rfl⟩ := VP.form Y3 Y4 Y5 Y6 yn3 yc3 yn4 yc4 yn5 yc5 yn6 yc6 h2
    have hpos : 0 < F.length := List.length_pos_iff.2 h1.2.1
    have q6 := fun b X (hX : Below w.heap.size w X) hc => EqP_any (h1.1.below hX) (h2.1.below hX) rfl rfl hpos (RP.bound h1.1) h1.2.2.1 h2.2.2.1 b hc
    by_cases he : F = G
    · simp only [decide_eq_true he] at q6 ⊢
      exact SameGP_true 5 _ _ _ _ _ _ _ _ _ _ _ _ _ _ _ _ _ _ _ _ _ _ _ _ w (fun X _ => Eq101 X) (fun X _ => Eq102 X) (fun X _ => Eq103 X) q6
    · simp only [decide_eq_false he] at q6 ⊢
      exact SameGP_f6 5 _ _ _ _ _ _ _ _ _ _ _ _ _ _ _ _ _ _ _ _ _ _ _ _ w (fun X _ => Eq101 X) (fun X _ => Eq102 X) (fun X _ => Eq103 X) q6
end Go.Proofs.YticlacjpgjkhcaaGreatDoor
