/- lib.Call, name by name. -/
import Derived.Test.YtjoegdnefdaokaaDoorLb4
namespace Go.Proofs.YtjoegdnefdaokaaDoor
open Go.ChangeShapes Go.WideShapes Go.ChangeAt Go.RowKit

theorem one_byte (w : World) (c : UInt8) : (convert 42 9 (.slice (some ⟨w.heap.size, 0, none⟩) 1 1)).run Tryd.prog (w.alloc (.cells #[.int .u8 (c.toNat : Int)] 5)) = .ok (.string ⟨#[c]⟩) (w.alloc (.cells #[.int .u8 (c.toNat : Int)] 5)) := by
  refine run_convert_bytes_back (P := Tryd.prog) _ 42 9 5 ⟨w.heap.size, 0, none⟩ 1 [c] Tryd.underlying42 Tryd.underlying5 Tryd.underlying9 (fun j hj => ?_)
  obtain rfl : j = 0 := by simp at hj; omega
  simp [Addr.add]
set_option maxHeartbeats 2000000 in
theorem call_sub (s : ByteArray) (v : Value) (w : World) (ps : List (Int × Int × ByteArray)) (h : ASl w v ps) (e0 : ps.getD 0 nilP = (3, 0, s)) (k n er : Int) (r : ByteArray)
    (hof : ∀ w1, Below w.heap.size w w1 → Calls Tryd.prog 19 #[.string ⟨#[115, 117, 98]⟩, .string s, v] w1 fun e w' => e = .returned (.tuple #[.agg #[.int .i64 k, .int .i64 n, .string r, .slice none 0 0], .int .i64 er]) ∧ Below w1.heap.size w1 w') :
    Calls Tryd.prog 10 #[.string ⟨#[115, 117, 98]⟩, v] w fun e w' => e = .returned (.tuple #[.agg #[.int .i64 k, .int .i64 n, .string r, .slice none 0 0], .int .i64 er, .bool true]) ∧ Below w.heap.size w w' := by
  have A := Lib.hid (fun w1 (hb : Below w.heap.size w w1) => show Calls Tryd.prog 14 #[v, .int .i64 0] w1 (fun e w' => e = .returned (.agg #[.int .i64 3, .int .i64 0, .string s, .slice none 0 0]) ∧ Below w1.heap.size w1 w') from by have := arg14 v ps w1 (h.below hb) 0; rw [e0] at this; exact this)
  have OF := Lib.hid hof
  have b0 := Lib.hid (show Below w.heap.size w (w.alloc (.cells #[.int .i64 0, .int .i64 0, .string ⟨#[]⟩, .slice none 0 0] 28)) from alloc_old)
  have hn := Lib.hid (heap_alloc_new w (.cells #[.int .i64 0, .int .i64 0, .string ⟨#[]⟩, .slice none 0 0] 28))
  clear e0 h hof
  go_enter Tryd.func10, Tryd.ntmps10
  go_wp2_with (first | (go_at_call 14; (with_reducible refine (A.out _ b0.out).mono ?_); rintro e w1 ⟨rfl, h1⟩; have B1 := Lib.hid h1; clear h1; have b1 := Lib.hid (fun o => (b0.out.trans (B1.out.mono (by simp))).trans ((alloc_old (w := w1) (o := o)).mono (by have := Below.size B1.out; simp at this; omega)))) | (go_at_call 19; (with_reducible refine (OF.out _ (b1.out _)).mono ?_); rintro e w2 ⟨rfl, h2⟩; have B6 := Lib.hid (belA B1.out h2); clear h2; obtain ⟨⟨c0, c1, c2, c3⟩, ⟨f0, f1, f2, f3⟩, hz⟩ := cells4 B6.out hn.out))
  exact bodyPost_ret (v := .tuple #[.agg #[.int .i64 k, .int .i64 n, .string r, .slice none 0 0], .int .i64 er, .bool true]) (by simp [results, Tryd.results10, go_sem, c0, c1, c2, c3, hz]) rfl ⟨rfl, (fin4 B6.out _ _ _ _).alloc (by simp; omega) _⟩
set_option maxHeartbeats 2000000 in
theorem call_byte (s : ByteArray) (v : Value) (w : World) (ps : List (Int × Int × ByteArray)) (h : ASl w v ps) (e0 : ps.getD 0 nilP = (3, 0, s)) (k n er : Int) (r : ByteArray)
    (hof : ∀ w1, Below w.heap.size w w1 → Calls Tryd.prog 19 #[.string ⟨#[98, 121, 116, 101]⟩, .string s, v] w1 fun e w' => e = .returned (.tuple #[.agg #[.int .i64 k, .int .i64 n, .string r, .slice none 0 0], .int .i64 er]) ∧ Below w1.heap.size w1 w') :
    Calls Tryd.prog 10 #[.string ⟨#[98, 121, 116, 101]⟩, v] w fun e w' => e = .returned (.tuple #[.agg #[.int .i64 k, .int .i64 n, .string r, .slice none 0 0], .int .i64 er, .bool true]) ∧ Below w.heap.size w w' := by
  have A := Lib.hid (fun w1 (hb : Below w.heap.size w w1) => show Calls Tryd.prog 14 #[v, .int .i64 0] w1 (fun e w' => e = .returned (.agg #[.int .i64 3, .int .i64 0, .string s, .slice none 0 0]) ∧ Below w1.heap.size w1 w') from by have := arg14 v ps w1 (h.below hb) 0; rw [e0] at this; exact this)
  have OF := Lib.hid hof
  have b0 := Lib.hid (show Below w.heap.size w (w.alloc (.cells #[.int .i64 0, .int .i64 0, .string ⟨#[]⟩, .slice none 0 0] 28)) from alloc_old)
  have hn := Lib.hid (heap_alloc_new w (.cells #[.int .i64 0, .int .i64 0, .string ⟨#[]⟩, .slice none 0 0] 28))
  clear e0 h hof
  go_enter Tryd.func10, Tryd.ntmps10
  go_wp2_with (first | (go_at_call 14; (with_reducible refine (A.out _ b0.out).mono ?_); rintro e w1 ⟨rfl, h1⟩; have B1 := Lib.hid h1; clear h1; have b1 := Lib.hid (fun o => (b0.out.trans (B1.out.mono (by simp))).trans ((alloc_old (w := w1) (o := o)).mono (by have := Below.size B1.out; simp at this; omega)))) | (go_at_call 19; (with_reducible refine (OF.out _ (b1.out _)).mono ?_); rintro e w2 ⟨rfl, h2⟩; have B6 := Lib.hid (belA B1.out h2); clear h2; obtain ⟨⟨c0, c1, c2, c3⟩, ⟨f0, f1, f2, f3⟩, hz⟩ := cells4 B6.out hn.out))
  exact bodyPost_ret (v := .tuple #[.agg #[.int .i64 k, .int .i64 n, .string r, .slice none 0 0], .int .i64 er, .bool true]) (by simp [results, Tryd.results10, go_sem, c0, c1, c2, c3, hz]) rfl ⟨rfl, (fin4 B6.out _ _ _ _).alloc (by simp; omega) _⟩
set_option maxHeartbeats 2000000 in
theorem call_rep (s : ByteArray) (v : Value) (w : World) (ps : List (Int × Int × ByteArray)) (h : ASl w v ps) (e0 : ps.getD 0 nilP = (3, 0, s)) (k n er : Int) (r : ByteArray)
    (hof : ∀ w1, Below w.heap.size w w1 → Calls Tryd.prog 19 #[.string ⟨#[114, 101, 112]⟩, .string s, v] w1 fun e w' => e = .returned (.tuple #[.agg #[.int .i64 k, .int .i64 n, .string r, .slice none 0 0], .int .i64 er]) ∧ Below w1.heap.size w1 w') :
    Calls Tryd.prog 10 #[.string ⟨#[114, 101, 112]⟩, v] w fun e w' => e = .returned (.tuple #[.agg #[.int .i64 k, .int .i64 n, .string r, .slice none 0 0], .int .i64 er, .bool true]) ∧ Below w.heap.size w w' := by
  have A := Lib.hid (fun w1 (hb : Below w.heap.size w w1) => show Calls Tryd.prog 14 #[v, .int .i64 0] w1 (fun e w' => e = .returned (.agg #[.int .i64 3, .int .i64 0, .string s, .slice none 0 0]) ∧ Below w1.heap.size w1 w') from by have := arg14 v ps w1 (h.below hb) 0; rw [e0] at this; exact this)
  have OF := Lib.hid hof
  have b0 := Lib.hid (show Below w.heap.size w (w.alloc (.cells #[.int .i64 0, .int .i64 0, .string ⟨#[]⟩, .slice none 0 0] 28)) from alloc_old)
  have hn := Lib.hid (heap_alloc_new w (.cells #[.int .i64 0, .int .i64 0, .string ⟨#[]⟩, .slice none 0 0] 28))
  clear e0 h hof
  go_enter Tryd.func10, Tryd.ntmps10
  go_wp2_with (first | (go_at_call 14; (with_reducible refine (A.out _ b0.out).mono ?_); rintro e w1 ⟨rfl, h1⟩; have B1 := Lib.hid h1; clear h1; have b1 := Lib.hid (fun o => (b0.out.trans (B1.out.mono (by simp))).trans ((alloc_old (w := w1) (o := o)).mono (by have := Below.size B1.out; simp at this; omega)))) | (go_at_call 19; (with_reducible refine (OF.out _ (b1.out _)).mono ?_); rintro e w2 ⟨rfl, h2⟩; have B6 := Lib.hid (belA B1.out h2); clear h2; obtain ⟨⟨c0, c1, c2, c3⟩, ⟨f0, f1, f2, f3⟩, hz⟩ := cells4 B6.out hn.out))
  exact bodyPost_ret (v := .tuple #[.agg #[.int .i64 k, .int .i64 n, .string r, .slice none 0 0], .int .i64 er, .bool true]) (by simp [results, Tryd.results10, go_sem, c0, c1, c2, c3, hz]) rfl ⟨rfl, (fin4 B6.out _ _ _ _).alloc (by simp; omega) _⟩
set_option maxHeartbeats 2000000 in
theorem call_upper (s : ByteArray) (v : Value) (w : World) (ps : List (Int × Int × ByteArray)) (h : ASl w v ps) (e0 : ps.getD 0 nilP = (3, 0, s)) (k n er : Int) (r : ByteArray)
    (hof : ∀ w1, Below w.heap.size w w1 → Calls Tryd.prog 19 #[.string ⟨#[117, 112, 112, 101, 114]⟩, .string s, v] w1 fun e w' => e = .returned (.tuple #[.agg #[.int .i64 k, .int .i64 n, .string r, .slice none 0 0], .int .i64 er]) ∧ Below w1.heap.size w1 w') :
    Calls Tryd.prog 10 #[.string ⟨#[117, 112, 112, 101, 114]⟩, v] w fun e w' => e = .returned (.tuple #[.agg #[.int .i64 k, .int .i64 n, .string r, .slice none 0 0], .int .i64 er, .bool true]) ∧ Below w.heap.size w w' := by
  have A := Lib.hid (fun w1 (hb : Below w.heap.size w w1) => show Calls Tryd.prog 14 #[v, .int .i64 0] w1 (fun e w' => e = .returned (.agg #[.int .i64 3, .int .i64 0, .string s, .slice none 0 0]) ∧ Below w1.heap.size w1 w') from by have := arg14 v ps w1 (h.below hb) 0; rw [e0] at this; exact this)
  have OF := Lib.hid hof
  have b0 := Lib.hid (show Below w.heap.size w (w.alloc (.cells #[.int .i64 0, .int .i64 0, .string ⟨#[]⟩, .slice none 0 0] 28)) from alloc_old)
  have hn := Lib.hid (heap_alloc_new w (.cells #[.int .i64 0, .int .i64 0, .string ⟨#[]⟩, .slice none 0 0] 28))
  clear e0 h hof
  go_enter Tryd.func10, Tryd.ntmps10
  go_wp2_with (first | (go_at_call 14; (with_reducible refine (A.out _ b0.out).mono ?_); rintro e w1 ⟨rfl, h1⟩; have B1 := Lib.hid h1; clear h1; have b1 := Lib.hid (fun o => (b0.out.trans (B1.out.mono (by simp))).trans ((alloc_old (w := w1) (o := o)).mono (by have := Below.size B1.out; simp at this; omega)))) | (go_at_call 19; (with_reducible refine (OF.out _ (b1.out _)).mono ?_); rintro e w2 ⟨rfl, h2⟩; have B6 := Lib.hid (belA B1.out h2); clear h2; obtain ⟨⟨c0, c1, c2, c3⟩, ⟨f0, f1, f2, f3⟩, hz⟩ := cells4 B6.out hn.out))
  exact bodyPost_ret (v := .tuple #[.agg #[.int .i64 k, .int .i64 n, .string r, .slice none 0 0], .int .i64 er, .bool true]) (by simp [results, Tryd.results10, go_sem, c0, c1, c2, c3, hz]) rfl ⟨rfl, (fin4 B6.out _ _ _ _).alloc (by simp; omega) _⟩
set_option maxHeartbeats 2000000 in
theorem call_lower (s : ByteArray) (v : Value) (w : World) (ps : List (Int × Int × ByteArray)) (h : ASl w v ps) (e0 : ps.getD 0 nilP = (3, 0, s)) (k n er : Int) (r : ByteArray)
    (hof : ∀ w1, Below w.heap.size w w1 → Calls Tryd.prog 19 #[.string ⟨#[108, 111, 119, 101, 114]⟩, .string s, v] w1 fun e w' => e = .returned (.tuple #[.agg #[.int .i64 k, .int .i64 n, .string r, .slice none 0 0], .int .i64 er]) ∧ Below w1.heap.size w1 w') :
    Calls Tryd.prog 10 #[.string ⟨#[108, 111, 119, 101, 114]⟩, v] w fun e w' => e = .returned (.tuple #[.agg #[.int .i64 k, .int .i64 n, .string r, .slice none 0 0], .int .i64 er, .bool true]) ∧ Below w.heap.size w w' := by
  have A := Lib.hid (fun w1 (hb : Below w.heap.size w w1) => show Calls Tryd.prog 14 #[v, .int .i64 0] w1 (fun e w' => e = .returned (.agg #[.int .i64 3, .int .i64 0, .string s, .slice none 0 0]) ∧ Below w1.heap.size w1 w') from by have := arg14 v ps w1 (h.below hb) 0; rw [e0] at this; exact this)
  have OF := Lib.hid hof
  have b0 := Lib.hid (show Below w.heap.size w (w.alloc (.cells #[.int .i64 0, .int .i64 0, .string ⟨#[]⟩, .slice none 0 0] 28)) from alloc_old)
  have hn := Lib.hid (heap_alloc_new w (.cells #[.int .i64 0, .int .i64 0, .string ⟨#[]⟩, .slice none 0 0] 28))
  clear e0 h hof
  go_enter Tryd.func10, Tryd.ntmps10
  go_wp2_with (first | (go_at_call 14; (with_reducible refine (A.out _ b0.out).mono ?_); rintro e w1 ⟨rfl, h1⟩; have B1 := Lib.hid h1; clear h1; have b1 := Lib.hid (fun o => (b0.out.trans (B1.out.mono (by simp))).trans ((alloc_old (w := w1) (o := o)).mono (by have := Below.size B1.out; simp at this; omega)))) | (go_at_call 19; (with_reducible refine (OF.out _ (b1.out _)).mono ?_); rintro e w2 ⟨rfl, h2⟩; have B6 := Lib.hid (belA B1.out h2); clear h2; obtain ⟨⟨c0, c1, c2, c3⟩, ⟨f0, f1, f2, f3⟩, hz⟩ := cells4 B6.out hn.out))
  exact bodyPost_ret (v := .tuple #[.agg #[.int .i64 k, .int .i64 n, .string r, .slice none 0 0], .int .i64 er, .bool true]) (by simp [results, Tryd.results10, go_sem, c0, c1, c2, c3, hz]) rfl ⟨rfl, (fin4 B6.out _ _ _ _).alloc (by simp; omega) _⟩
set_option maxHeartbeats 2000000 in
theorem call_reverse (s : ByteArray) (v : Value) (w : World) (ps : List (Int × Int × ByteArray)) (h : ASl w v ps) (e0 : ps.getD 0 nilP = (3, 0, s)) (k n er : Int) (r : ByteArray)
    (hof : ∀ w1, Below w.heap.size w w1 → Calls Tryd.prog 19 #[.string ⟨#[114, 101, 118, 101, 114, 115, 101]⟩, .string s, v] w1 fun e w' => e = .returned (.tuple #[.agg #[.int .i64 k, .int .i64 n, .string r, .slice none 0 0], .int .i64 er]) ∧ Below w1.heap.size w1 w') :
    Calls Tryd.prog 10 #[.string ⟨#[114, 101, 118, 101, 114, 115, 101]⟩, v] w fun e w' => e = .returned (.tuple #[.agg #[.int .i64 k, .int .i64 n, .string r, .slice none 0 0], .int .i64 er, .bool true]) ∧ Below w.heap.size w w' := by
  have A := Lib.hid (fun w1 (hb : Below w.heap.size w w1) => show Calls Tryd.prog 14 #[v, .int .i64 0] w1 (fun e w' => e = .returned (.agg #[.int .i64 3, .int .i64 0, .string s, .slice none 0 0]) ∧ Below w1.heap.size w1 w') from by have := arg14 v ps w1 (h.below hb) 0; rw [e0] at this; exact this)
  have OF := Lib.hid hof
  have b0 := Lib.hid (show Below w.heap.size w (w.alloc (.cells #[.int .i64 0, .int .i64 0, .string ⟨#[]⟩, .slice none 0 0] 28)) from alloc_old)
  have hn := Lib.hid (heap_alloc_new w (.cells #[.int .i64 0, .int .i64 0, .string ⟨#[]⟩, .slice none 0 0] 28))
  clear e0 h hof
  go_enter Tryd.func10, Tryd.ntmps10
  go_wp2_with (first | (go_at_call 14; (with_reducible refine (A.out _ b0.out).mono ?_); rintro e w1 ⟨rfl, h1⟩; have B1 := Lib.hid h1; clear h1; have b1 := Lib.hid (fun o => (b0.out.trans (B1.out.mono (by simp))).trans ((alloc_old (w := w1) (o := o)).mono (by have := Below.size B1.out; simp at this; omega)))) | (go_at_call 19; (with_reducible refine (OF.out _ (b1.out _)).mono ?_); rintro e w2 ⟨rfl, h2⟩; have B6 := Lib.hid (belA B1.out h2); clear h2; obtain ⟨⟨c0, c1, c2, c3⟩, ⟨f0, f1, f2, f3⟩, hz⟩ := cells4 B6.out hn.out))
  exact bodyPost_ret (v := .tuple #[.agg #[.int .i64 k, .int .i64 n, .string r, .slice none 0 0], .int .i64 er, .bool true]) (by simp [results, Tryd.results10, go_sem, c0, c1, c2, c3, hz]) rfl ⟨rfl, (fin4 B6.out _ _ _ _).alloc (by simp; omega) _⟩
set_option maxHeartbeats 2000000 in
theorem call_find (s : ByteArray) (v : Value) (w : World) (ps : List (Int × Int × ByteArray)) (h : ASl w v ps) (e0 : ps.getD 0 nilP = (3, 0, s)) (k n er : Int) (r : ByteArray)
    (hof : ∀ w1, Below w.heap.size w w1 → Calls Tryd.prog 19 #[.string ⟨#[102, 105, 110, 100]⟩, .string s, v] w1 fun e w' => e = .returned (.tuple #[.agg #[.int .i64 k, .int .i64 n, .string r, .slice none 0 0], .int .i64 er]) ∧ Below w1.heap.size w1 w') :
    Calls Tryd.prog 10 #[.string ⟨#[102, 105, 110, 100]⟩, v] w fun e w' => e = .returned (.tuple #[.agg #[.int .i64 k, .int .i64 n, .string r, .slice none 0 0], .int .i64 er, .bool true]) ∧ Below w.heap.size w w' := by
  have A := Lib.hid (fun w1 (hb : Below w.heap.size w w1) => show Calls Tryd.prog 14 #[v, .int .i64 0] w1 (fun e w' => e = .returned (.agg #[.int .i64 3, .int .i64 0, .string s, .slice none 0 0]) ∧ Below w1.heap.size w1 w') from by have := arg14 v ps w1 (h.below hb) 0; rw [e0] at this; exact this)
  have OF := Lib.hid hof
  have b0 := Lib.hid (show Below w.heap.size w (w.alloc (.cells #[.int .i64 0, .int .i64 0, .string ⟨#[]⟩, .slice none 0 0] 28)) from alloc_old)
  have hn := Lib.hid (heap_alloc_new w (.cells #[.int .i64 0, .int .i64 0, .string ⟨#[]⟩, .slice none 0 0] 28))
  clear e0 h hof
  go_enter Tryd.func10, Tryd.ntmps10
  go_wp2_with (first | (go_at_call 14; (with_reducible refine (A.out _ b0.out).mono ?_); rintro e w1 ⟨rfl, h1⟩; have B1 := Lib.hid h1; clear h1; have b1 := Lib.hid (fun o => (b0.out.trans (B1.out.mono (by simp))).trans ((alloc_old (w := w1) (o := o)).mono (by have := Below.size B1.out; simp at this; omega)))) | (go_at_call 19; (with_reducible refine (OF.out _ (b1.out _)).mono ?_); rintro e w2 ⟨rfl, h2⟩; have B6 := Lib.hid (belA B1.out h2); clear h2; obtain ⟨⟨c0, c1, c2, c3⟩, ⟨f0, f1, f2, f3⟩, hz⟩ := cells4 B6.out hn.out))
  exact bodyPost_ret (v := .tuple #[.agg #[.int .i64 k, .int .i64 n, .string r, .slice none 0 0], .int .i64 er, .bool true]) (by simp [results, Tryd.results10, go_sem, c0, c1, c2, c3, hz]) rfl ⟨rfl, (fin4 B6.out _ _ _ _).alloc (by simp; omega) _⟩
set_option maxHeartbeats 2000000 in
theorem call_tostring (v : Value) (w : World) (ps : List (Int × Int × ByteArray)) (h : ASl w v ps) (w0 : World) (hT : Tab w0) (n : Int) (hI : I64 n) (hi : Inv w0 w) (e0 : ps.getD 0 nilP = (2, n, ⟨#[]⟩)) :
    Calls Tryd.prog 10 #[.string ⟨#[116, 111, 115, 116, 114, 105, 110, 103]⟩, v] w fun e w' => e = .returned (.tuple #[.agg #[.int .i64 3, .int .i64 0, .string ⟨(Lib.itoa n).toArray⟩, .slice none 0 0], .int .i64 0, .bool true]) ∧ Below w.heap.size w w' := by
  have A := Lib.hid (fun w1 (hb : Below w.heap.size w w1) => show Calls Tryd.prog 14 #[v, .int .i64 0] w1 (fun e w' => e = .returned (.agg #[.int .i64 2, .int .i64 n, .string ⟨#[]⟩, .slice none 0 0]) ∧ Below w1.heap.size w1 w') from by have := arg14 v ps w1 (h.below hb) 0; rw [e0] at this; exact this)
  have b0 := Lib.hid (show Below w.heap.size w (w.alloc (.cells #[.int .i64 0, .int .i64 0, .string ⟨#[]⟩, .slice none 0 0] 28)) from alloc_old)
  have hn := Lib.hid (heap_alloc_new w (.cells #[.int .i64 0, .int .i64 0, .string ⟨#[]⟩, .slice none 0 0] 28))
  have T := Lib.hid (fun w1 (hb : Below w.heap.size w w1) => Out_int w0 hT n hI w1 (Below.trans hi (hb.mono (Inv.size hi))))
  have K := Lib.hid (fun w => text15 ⟨(Lib.itoa n).toArray⟩ w)
  clear e0 h hT hi hI
  go_enter Tryd.func10, Tryd.ntmps10
  go_wp2_with (first | (go_at_call 14; (with_reducible refine (A.out _ b0.out).mono ?_); rintro e w1 ⟨rfl, h1⟩; have B1 := Lib.hid h1; clear h1; have b1 := Lib.hid (fun o => (b0.out.trans (B1.out.mono (by simp))).trans ((alloc_old (w := w1) (o := o)).mono (by have := Below.size B1.out; simp at this; omega)))) | (go_at_call 13; (with_reducible refine (T.out _ (b1.out _)).mono ?_); rintro e w2 ⟨rfl, h2⟩; have B2 := Lib.hid (belA B1.out h2); clear h2) | (go_at_call 15; (with_reducible refine (K.out _).mono ?_); rintro e w6 ⟨rfl, h6⟩; have B6 := Lib.hid (belT B2.out h6); clear h6; obtain ⟨⟨c0, c1, c2, c3⟩, ⟨f0, f1, f2, f3⟩, hz⟩ := cells4 B6.out hn.out))
  exact bodyPost_ret (v := .tuple #[.agg #[.int .i64 3, .int .i64 0, .string ⟨(Lib.itoa n).toArray⟩, .slice none 0 0], .int .i64 0, .bool true]) (by simp [results, Tryd.results10, go_sem, c0, c1, c2, c3, hz]) rfl ⟨rfl, fin4 B6.out _ _ _ _⟩
set_option maxHeartbeats 2000000 in
theorem call_toint (v : Value) (w : World) (ps : List (Int × Int × ByteArray)) (h : ASl w v ps) (s : ByteArray) (n : Int) (hp : ∀ w, Calls Tryd.prog 17 #[.string s] w fun e w' => e = .returned (.tuple #[.int .i64 n, .bool true]) ∧ Below w.heap.size w w') (e0 : ps.getD 0 nilP = (3, 0, s)) :
    Calls Tryd.prog 10 #[.string ⟨#[116, 111, 105, 110, 116]⟩, v] w fun e w' => e = .returned (.tuple #[.agg #[.int .i64 2, .int .i64 n, .string ⟨#[]⟩, .slice none 0 0], .int .i64 0, .bool true]) ∧ Below w.heap.size w w' := by
  have A := Lib.hid (fun w1 (hb : Below w.heap.size w w1) => show Calls Tryd.prog 14 #[v, .int .i64 0] w1 (fun e w' => e = .returned (.agg #[.int .i64 3, .int .i64 0, .string s, .slice none 0 0]) ∧ Below w1.heap.size w1 w') from by have := arg14 v ps w1 (h.below hb) 0; rw [e0] at this; exact this)
  have b0 := Lib.hid (show Below w.heap.size w (w.alloc (.cells #[.int .i64 0, .int .i64 0, .string ⟨#[]⟩, .slice none 0 0] 28)) from alloc_old)
  have hn := Lib.hid (heap_alloc_new w (.cells #[.int .i64 0, .int .i64 0, .string ⟨#[]⟩, .slice none 0 0] 28))
  have T := Lib.hid hp
  have K := Lib.hid (fun w => whole18 n w)
  clear e0 h hp
  go_enter Tryd.func10, Tryd.ntmps10
  go_wp2_with (first | (go_at_call 14; (with_reducible refine (A.out _ b0.out).mono ?_); rintro e w1 ⟨rfl, h1⟩; have B1 := Lib.hid h1; clear h1; have b1 := Lib.hid (fun o => (b0.out.trans (B1.out.mono (by simp))).trans ((alloc_old (w := w1) (o := o)).mono (by have := Below.size B1.out; simp at this; omega)))) | (go_at_call 17; (with_reducible refine (T.out _).mono ?_); rintro e w2 ⟨rfl, h2⟩; have B2 := Lib.hid (belA B1.out h2); clear h2) | (go_at_call 18; (with_reducible refine (K.out _).mono ?_); rintro e w6 ⟨rfl, h6⟩; have B6 := Lib.hid (belT B2.out h6); clear h6; obtain ⟨⟨c0, c1, c2, c3⟩, ⟨f0, f1, f2, f3⟩, hz⟩ := cells4 B6.out hn.out))
  exact bodyPost_ret (v := .tuple #[.agg #[.int .i64 2, .int .i64 n, .string ⟨#[]⟩, .slice none 0 0], .int .i64 0, .bool true]) (by simp [results, Tryd.results10, go_sem, c0, c1, c2, c3, hz]) rfl ⟨rfl, fin4 B6.out _ _ _ _⟩
set_option maxHeartbeats 2000000 in
theorem call_error (w : World) :
    Calls Tryd.prog 10 #[.string ⟨#[101, 114, 114, 111, 114]⟩, .slice none 0 0] w fun e w' => e = .returned (.tuple #[.agg #[.int .i64 0, .int .i64 0, .string ⟨#[]⟩, .slice none 0 0], .int .i64 0, .bool false]) ∧ Below w.heap.size w w' := by
  have A := Lib.hid (fun w1 => show Calls Tryd.prog 14 #[.slice none 0 0, .int .i64 0] w1 (fun e w' => e = .returned (.agg #[.int .i64 0, .int .i64 0, .string ⟨#[]⟩, .slice none 0 0]) ∧ Below w1.heap.size w1 w') from arg14 _ [] w1 (ASl.none w1) 0)
  have hn := Lib.hid (heap_alloc_new w (.cells #[.int .i64 0, .int .i64 0, .string ⟨#[]⟩, .slice none 0 0] 28))
  go_enter Tryd.func10, Tryd.ntmps10
  go_wp2_with (first | (go_at_call 14; (with_reducible refine (A.out _).mono ?_); rintro e w1 ⟨rfl, h1⟩; have B1 := Lib.hid h1; clear h1; obtain ⟨⟨c0, c1, c2, c3⟩, ⟨f0, f1, f2, f3⟩, hz⟩ := cells4 B1.out hn.out))
  exact bodyPost_ret (v := .tuple #[.agg #[.int .i64 0, .int .i64 0, .string ⟨#[]⟩, .slice none 0 0], .int .i64 0, .bool false]) (by simp [results, Tryd.results10, go_sem, c0, c1, c2, c3, hz]) rfl ⟨rfl, (fin4 B1.out _ _ _ _).alloc (by simp; omega) _⟩
set_option maxHeartbeats 2000000 in
theorem call_char_no (v : Value) (w : World) (ps : List (Int × Int × ByteArray)) (h : ASl w v ps) (e0 : ps.getD 0 nilP = (2, 256, ⟨#[]⟩)) :
    Calls Tryd.prog 10 #[.string ⟨#[99, 104, 97, 114]⟩, v] w fun e w' => e = .returned (.tuple #[.agg #[.int .i64 0, .int .i64 0, .string ⟨#[]⟩, .slice none 0 0], .int .i64 9, .bool true]) ∧ Below w.heap.size w w' := by
  have A := Lib.hid (fun w1 (hb : Below w.heap.size w w1) => show Calls Tryd.prog 14 #[v, .int .i64 0] w1 (fun e w' => e = .returned (.agg #[.int .i64 2, .int .i64 256, .string ⟨#[]⟩, .slice none 0 0]) ∧ Below w1.heap.size w1 w') from by have := arg14 v ps w1 (h.below hb) 0; rw [e0] at this; exact this)
  have b0 := Lib.hid (show Below w.heap.size w (w.alloc (.cells #[.int .i64 0, .int .i64 0, .string ⟨#[]⟩, .slice none 0 0] 28)) from alloc_old)
  have hn := Lib.hid (heap_alloc_new w (.cells #[.int .i64 0, .int .i64 0, .string ⟨#[]⟩, .slice none 0 0] 28))
  clear e0 h
  go_enter Tryd.func10, Tryd.ntmps10
  go_wp2_with (first | (go_at_call 14; (with_reducible refine (A.out _ b0.out).mono ?_); rintro e w1 ⟨rfl, h1⟩; have B1 := Lib.hid h1; clear h1; obtain ⟨⟨c0, c1, c2, c3⟩, ⟨f0, f1, f2, f3⟩, hz⟩ := cells4 B1.out hn.out))
  exact bodyPost_ret (v := .tuple #[.agg #[.int .i64 0, .int .i64 0, .string ⟨#[]⟩, .slice none 0 0], .int .i64 9, .bool true]) (by simp [results, Tryd.results10, go_sem, c0, c1, c2, c3, hz]) rfl ⟨rfl, (fin4 B1.out _ _ _ _).alloc (by simp; omega) _⟩
set_option maxHeartbeats 2000000 in
theorem call_char (v : Value) (w : World) (ps : List (Int × Int × ByteArray)) (h : ASl w v ps) (c : UInt8) (e0 : ps.getD 0 nilP = (2, (c.toNat : Int), ⟨#[]⟩)) :
    Calls Tryd.prog 10 #[.string ⟨#[99, 104, 97, 114]⟩, v] w fun e w' => e = .returned (.tuple #[.agg #[.int .i64 3, .int .i64 0, .string ⟨#[c]⟩, .slice none 0 0], .int .i64 0, .bool true]) ∧ Below w.heap.size w w' := by
  have A := Lib.hid (fun w1 (hb : Below w.heap.size w w1) => show Calls Tryd.prog 14 #[v, .int .i64 0] w1 (fun e w' => e = .returned (.agg #[.int .i64 2, .int .i64 (c.toNat : Int), .string ⟨#[]⟩, .slice none 0 0]) ∧ Below w1.heap.size w1 w') from by have := arg14 v ps w1 (h.below hb) 0; rw [e0] at this; exact this)
  have b0 := Lib.hid (show Below w.heap.size w (w.alloc (.cells #[.int .i64 0, .int .i64 0, .string ⟨#[]⟩, .slice none 0 0] 28)) from alloc_old)
  have hn := Lib.hid (heap_alloc_new w (.cells #[.int .i64 0, .int .i64 0, .string ⟨#[]⟩, .slice none 0 0] 28))
  have hlt := c.toNat_lt
  have i1 : ¬ (c.toNat : Int) < 0 := by omega
  have i2 : ¬ (255 : Int) < (c.toNat : Int) := by omega
  have K := Lib.hid (fun w => text15 ⟨#[c]⟩ w)
  have hcb := fun (w : World) (o : Obj) => show (convert 42 9 (.slice (some ⟨w.heap.size + 1, 0, none⟩) 1 1)).run Tryd.prog ((w.alloc o).alloc (.cells #[.int .u8 (c.toNat : Int)] 5)) = .ok (.string ⟨#[c]⟩) ((w.alloc o).alloc (.cells #[.int .u8 (c.toNat : Int)] 5)) from by have := one_byte (w.alloc o) c; rw [World.size_alloc] at this; exact this
  clear e0 h
  go_enter Tryd.func10, Tryd.ntmps10
  go_wp2_with (first | (go_at_call 14; (with_reducible refine (A.out _ b0.out).mono ?_); rintro e w1 ⟨rfl, h1⟩; have B1 := Lib.hid h1; clear h1; have b1 := Lib.hid (fun o => (b0.out.trans (B1.out.mono (by simp))).trans ((alloc_old (w := w1) (o := o)).mono (by have := Below.size B1.out; simp at this; omega)))) | (go_at_call 15; (with_reducible refine (K.out _).mono ?_); rintro e w6 ⟨rfl, h6⟩; have B6 := Lib.hid (belA (belT B1.out alloc_old) h6); clear h6; obtain ⟨⟨c0, c1, c2, c3⟩, ⟨f0, f1, f2, f3⟩, hz⟩ := cells4 B6.out hn.out))
  exact bodyPost_ret (v := .tuple #[.agg #[.int .i64 3, .int .i64 0, .string ⟨#[c]⟩, .slice none 0 0], .int .i64 0, .bool true]) (by simp [results, Tryd.results10, go_sem, c0, c1, c2, c3, hz]) rfl ⟨rfl, fin4 B6.out _ _ _ _⟩
set_option maxHeartbeats 2000000 in
theorem made_rep (v : Value) (w : World) (r : ByteArray) (hr : r.size ≤ 1000000) (hc : ∀ w1, Below w.heap.size w w1 → Calls Tryd.prog 10 #[.string ⟨#[114, 101, 112]⟩, v] w1 fun e w' => e = .returned (.tuple #[.agg #[.int .i64 3, .int .i64 0, .string r, .slice none 0 0], .int .i64 0, .bool true]) ∧ Below w1.heap.size w1 w') :
    Calls Tryd.prog 11 #[.string ⟨#[114, 101, 112]⟩, v] w fun e w' => e = .returned (.int .i64 r.size) ∧ Below w.heap.size w w' := by
  have C := Lib.hid hc
  have b0 := Lib.hid (Below.refl w.heap.size w)
  clear hc
  go_enter Tryd.func11, Tryd.ntmps11
  go_wp2_with (first | (go_at_call 10; (with_reducible refine (C.out _ b0.out).mono ?_); rintro e w1 ⟨rfl, h1⟩; have B1 := Lib.hid h1; clear h1))
  go_ret
  exact ⟨by simp, B1.out.trans (alloc_old.mono (Below.size B1.out))⟩
set_option maxHeartbeats 2000000 in
theorem made_rep_no (v : Value) (w : World) (hc : ∀ w1, Below w.heap.size w w1 → Calls Tryd.prog 10 #[.string ⟨#[114, 101, 112]⟩, v] w1 fun e w' => e = .returned (.tuple #[.agg #[.int .i64 0, .int .i64 0, .string ⟨#[]⟩, .slice none 0 0], .int .i64 8, .bool true]) ∧ Below w1.heap.size w1 w') :
    Calls Tryd.prog 11 #[.string ⟨#[114, 101, 112]⟩, v] w fun e w' => e = .returned (.int .i64 (-1)) ∧ Below w.heap.size w w' := by
  have C := Lib.hid hc
  have b0 := Lib.hid (Below.refl w.heap.size w)
  clear hc
  go_enter Tryd.func11, Tryd.ntmps11
  go_wp2_with (first | (go_at_call 10; (with_reducible refine (C.out _ b0.out).mono ?_); rintro e w1 ⟨rfl, h1⟩; have B1 := Lib.hid h1; clear h1))
  go_ret
  exact ⟨by simp, B1.out.trans (alloc_old.mono (Below.size B1.out))⟩
set_option maxHeartbeats 2000000 in
theorem made_tostring (v : Value) (w : World) (ps : List (Int × Int × ByteArray)) (n : Int) (h : ASl w v ps) (e0 : ps.getD 0 nilP = (2, n, ⟨#[]⟩)) (r : ByteArray) (hr : r.size ≤ 1000000) (hc : ∀ w1, Below w.heap.size w w1 → Calls Tryd.prog 10 #[.string ⟨#[116, 111, 115, 116, 114, 105, 110, 103]⟩, v] w1 fun e w' => e = .returned (.tuple #[.agg #[.int .i64 3, .int .i64 0, .string r, .slice none 0 0], .int .i64 0, .bool true]) ∧ Below w1.heap.size w1 w') :
    Calls Tryd.prog 11 #[.string ⟨#[116, 111, 115, 116, 114, 105, 110, 103]⟩, v] w fun e w' => e = .returned (.int .i64 r.size) ∧ Below w.heap.size w w' := by
  have C := Lib.hid hc
  have A := Lib.hid (fun w1 (hb : Below w.heap.size w w1) => show Calls Tryd.prog 14 #[v, .int .i64 0] w1 (fun e w' => e = .returned (.agg #[.int .i64 2, .int .i64 n, .string ⟨#[]⟩, .slice none 0 0]) ∧ Below w1.heap.size w1 w') from by have := arg14 v ps w1 (h.below hb) 0; rw [e0] at this; exact this)
  have b0 := Lib.hid (Below.refl w.heap.size w)
  have hf : ∀ w, (Instr.field 28 (.agg #[.int .i64 2, .int .i64 n, .string ⟨#[]⟩, .slice none 0 0]) 0).run Tryd.prog w = .ok (.int .i64 2) w := fun w => by kernel_rfl
  clear hc h e0
  go_enter Tryd.func11, Tryd.ntmps11
  go_wp2_with (first | (go_at_call 10; (with_reducible refine (C.out _ b0.out).mono ?_); rintro e w1 ⟨rfl, h1⟩; have B1 := Lib.hid h1; clear h1; have b1 := Lib.hid (fun o => B1.out.trans ((alloc_old (w := w1) (o := o)).mono (Below.size B1.out)))) | (go_at_call 14; (with_reducible refine (A.out _ (b1.out _)).mono ?_); rintro e w2 ⟨rfl, h2⟩; have B2 := Lib.hid h2; clear h2; have d2 := (cells4 B2.out (heap_alloc_new w1 _)).1.2.2.1))
  go_ret
  exact ⟨by simp, (b1.out _).trans (B2.out.mono (by have := Below.size B1.out; simp; omega))⟩
end Go.Proofs.YtjoegdnefdaokaaDoor
