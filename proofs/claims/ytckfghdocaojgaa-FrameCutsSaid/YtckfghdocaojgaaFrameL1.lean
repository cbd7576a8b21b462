/- The document's first example of frames, and the law FrameWrites. -/
import Derived.Test.YtckfghdocaojgaaFrameW6
import Derived.Lib.SlBytesConst
namespace Go.Proofs.Ytckfghdocaojgaa
open Go.RowKit
theorem OwnB.cap {w : World} {base : Nat} {e : TypeId} {A : Option Addr} {n c : Nat} {bs : List UInt8} (h : OwnB w base e (.slice A n c) bs) : bs.length ≤ c := by
  rcases h.2 with ⟨h1, h2⟩ | ⟨g, cap, cur, hv, _, _, hnc, _⟩
  · omega
  · injection hv with _ _ hc
    omega
theorem NewB.cap {w : World} {base : Nat} {e : TypeId} {A : Option Addr} {n c : Nat} {bs : List UInt8} (h : NewB w base e A n c bs) : bs.length ≤ c := by
  rcases Nat.eq_zero_or_pos n with h0 | h0
  · rw [← h.1]; omega
  · exact (h.2.2 h0).cap
theorem RdB.row {w : World} {g : Nat} {e : TypeId} {fr : Nat × Nat} {bs : List UInt8} (h : w.heap[g]? = some (.cells (bv bs).toArray e fr)) (hl : bs.length ≤ 9223372036854775807) : RdB w (some ⟨g, 0, none⟩) bs :=
  ⟨hl, fun _ => ⟨g, 0, rfl, fun j v hj => by
    have : w.cell? ⟨g, 0 + j, none⟩ = (bv bs).toArray[0 + j]? := by simp [World.cell?, h]
    rw [this, Nat.zero_add]; simpa using hj⟩⟩
def alF : List UInt8 := encB 1 [97, 98]
theorem alF_err : encErr 1 [97, 98] = 0 := by decide
theorem alF_len : alF.length = 9 := by decide +kernel
theorem alF_0 : alF[0]? = some 1 := by decide +kernel
theorem alF_1 : alF[1]? = some 2 := by decide +kernel
theorem alF_3 : alF[3]? = some 97 := by decide +kernel
theorem alF_k : (decF alF).k = 1 := by decide +kernel
theorem alF_b : (decF alF).body = [97, 98] := by decide +kernel
theorem alF_e : (decF alF).err = 0 := by decide +kernel
theorem get_of {l : List UInt8} {i : Nat} {x : UInt8} (h : l[i]? = some x) (hi : i < l.length) : l[i] = x := by rw [List.getElem?_eq_getElem hi] at h; exact Option.some.inj h
theorem below_alloc (w : World) (o : Obj) : Below w.heap.size w (w.alloc o) := (Below.refl _ _).alloc (Nat.le_refl _) _
set_option maxHeartbeats 2000000 in
set_option maxRecDepth 20000 in
theorem alive_any (w : World) : Calls Try.prog 9 #[] w fun e w' => e = .returned (.bool true) ∧ Below w.heap.size w w' := by
  have hr0 : RdB (w.alloc (.cells (bv [97, 98]).toArray 5 (2, 3))) (some ⟨w.heap.size, 0, none⟩) [97, 98] := RdB.row (heap_alloc_new w _) (by simp)
  have kc := fun (w : World) (C : Array Value) (n c : Nat) => Lib.run_convert_bytes_const (P := Try.prog) w 22 5 C n c Try.underlying22 Try.underlying5
  have HR0 := Lib.hid hr0; clear hr0
  go_enter Try.func9, Try.ntmps9
  go_wp2_with fail
  refine (encode_any 1 _ 2 [97, 98] _ (by omega) HR0.out).mono ?_
  rintro e w1 ⟨A1, c1, rfl, hO1, hB1⟩
  rw [alF_err, show encB 1 [97, 98] = alF from rfl, alF_len]
  rw [show encB 1 [97, 98] = alF from rfl, alF_len] at hO1
  have HB1 := Lib.hid ((below_alloc w _).trans (hB1.mono (below_alloc w _).size)); clear hB1
  have hcap := hO1.cap
  have hr1 := hO1.rdA
  have hl := alF_len
  obtain ⟨b, off, rfl, hc⟩ := hr1.at (by omega)
  have hc0 := hc 0 (by omega)
  have hc1 := hc 1 (by omega)
  have hc3 := hc 3 (by omega)
  rw [get_of alF_0] at hc0
  rw [get_of alF_1] at hc1
  rw [get_of alF_3] at hc3
  have HC0 := Lib.hid hc0
  have HC1 := Lib.hid hc1
  have HC3 := Lib.hid hc3
  have HR1 := Lib.hid hr1
  have HL := Lib.hid hl
  have HCAP := Lib.hid hcap
  have hdec := decode_any (some ⟨b, off, none⟩) c1 alF w1 hr1 hcap (by omega)
  rw [hl] at hdec
  have HD := Lib.hid hdec
  clear hc0 hc1 hc3 hc hr1 hl hdec hO1 hcap
  go_wp2_with fail
  refine HD.out.mono ?_
  rintro e w2 ⟨⟨A2, n2, c2, rfl, hn2⟩, hB2⟩
  rw [alF_k, alF_e]
  rw [alF_b] at hn2
  obtain ⟨rfl, hr2, _⟩ := hn2
  have hc0 : w2.cell? ⟨b, off, none⟩ = some (.int .u8 1) := cell_below hB2 HC0.out
  have hc1 : w2.cell? ⟨b, off + 1, none⟩ = some (.int .u8 2) := cell_below hB2 HC1.out
  have hc3 : w2.cell? ⟨b, off + 3, none⟩ = some (.int .u8 97) := cell_below hB2 HC3.out
  have hbl : b < w2.heap.size := World.block_lt_of_cell? w2 _ hc0
  have HB2 := Lib.hid (belowT HB1.out hB2)
  clear HC0 HC1 HC3
  have hst := run_strB (P := Try.prog) (w2.alloc (.cells #[.int .i64 1, .slice A2 2 c2] 29 (0, 0))) 22 5 9 Try.underlying22 Try.underlying5 Try.underlying9 A2 2 c2 [97, 98] rfl (hr2.below (below_alloc _ _))
  go_wp2
  go_ret
  exact ⟨rfl, belowT HB2.out (below_alloc _ _)⟩
set_option maxHeartbeats 2000000 in
theorem frameWrites_walk (kind : Int) (A : Option Addr) (cap : Nat) (body : List UInt8) (w : World) (hk1 : kind ≤ 9223372036854775807) (hk0 : -9223372036854775808 ≤ kind) (hr : RdB w A body) (hl : body.length ≤ 140737488351232) :
    Calls Try.prog 3 #[.int .i64 kind, .slice A body.length cap] w fun e w' => e = .returned (.bool true) ∧ Below w.heap.size w w' := by
  have HK := Lib.hid (And.intro hk0 hk1); clear hk0 hk1
  have HR := Lib.hid hr; clear hr
  go_enter Try.func3, Try.ntmps3
  go_wp2_with fail
  refine (alive_any w).mono ?_
  rintro e w1 ⟨rfl, hB1⟩
  have HB1 := Lib.hid hB1
  go_wp2_with fail
  refine (copy_any A _ cap body w1 (HR.out.below hB1) rfl (by omega)).mono ?_
  rintro e w2 ⟨A2, c2, rfl, hO2, hB2⟩
  have HO2 := Lib.hid hO2.rdA; clear hO2
  have HB2 := Lib.hid (belowT HB1.out hB2); clear hB1 hB2 HB1
  go_wp2_with fail
  refine (encode_any kind A2 c2 body w2 HK.out HO2.out).mono ?_
  rintro e w3 ⟨A3, c3, rfl, hO3, hB3⟩
  have HO3 := Lib.hid hO3.rdA; clear hO3
  have HR2 := Lib.hid (HO2.out.below hB3)
  have HB3 := Lib.hid (belowT HB2.out hB3); clear hB3 HB2 HO2
  go_wp2_with fail
  refine (refEncode_any kind A cap body w3 HK.out (HR.out.below HB3.out)).mono ?_
  rintro e w4 ⟨A4, c4, rfl, hO4, hB4⟩
  have HO4 := Lib.hid hO4.rdA; clear hO4
  have HR4 := Lib.hid (HR2.out.below hB4)
  have HO34 := Lib.hid (HO3.out.below hB4)
  have HB4 := Lib.hid (belowT HB3.out hB4); clear hB4 HB3 HR2 HO3
  go_wp2_with fail
  refine (same_any A3 A4 _ _ c3 c4 _ _ w4 HO34.out HO4.out rfl rfl).mono ?_
  rintro e w5 ⟨rfl, rfl⟩
  go_wp2_with fail
  refine (same_any A2 A _ _ c2 cap _ _ w4 HR4.out (HR.out.below HB4.out) rfl rfl).mono ?_
  rintro e w5 ⟨rfl, rfl⟩
  go_wp2
  go_ret
  exact ⟨rfl, HB4.out⟩
end Go.Proofs.Ytckfghdocaojgaa
