/- The walks of the reference's sum and of the library's functions on bits that it calls. -/
import Derived.Test.YtlhlljjchggnjaaPack2
import Derived.Test.YtlhlljjchggnjaaApp
import Derived.Test.YtlhlljjchggnjaaCrc3
import Derived.Outline
namespace Go.Proofs.Ytlhlljjchggnjaa
open Go.RowKit

theorem tab_at (B : ByteArray) (x : UInt8) (h : x.toNat < B.size) (hB : B.data.toList = (List.range 256).map (fun i => UInt8.ofNat (rev8 (UInt8.ofNat i)))) : ((B[x.toNat].toNat : Nat) : Int) = (rev8 x : Int) := by
  have h1 : B.data.toList[x.toNat]? = some B[x.toNat] := by
    rw [Array.getElem?_toList]
    exact Array.getElem?_eq_getElem h
  have hx := x.toNat_lt
  rw [hB, List.getElem?_map, List.getElem?_range (by omega)] at h1
  simp only [Option.map_some, Option.some.injEq] at h1
  rw [← h1, UInt8.toNat_ofNat', UInt8.ofNat_toNat, Nat.mod_eq_of_lt (rev8_lt x)]
theorem ret_u8 {a b : Int} (h : a = b) : Ending.returned (.int .u8 a) = .returned (.int .u8 b) := by rw [h]
theorem ret_u32 {a b : Int} (h : a = b) : Ending.returned (.int .u32 a) = .returned (.int .u32 b) := by rw [h]

set_option maxRecDepth 100000 in
set_option maxHeartbeats 1000000 in
theorem rev8_c (w : World) (x : UInt8) : Calls Try.prog 166 #[.int .u8 x.toNat] w fun e w' => e = .returned (.int .u8 (rev8 x : Int)) ∧ w = w' := by
  have hx := x.toNat_lt
  go_enter Try.func166, Try.ntmps166
  go_wp2_with fail
  go_ret
  exact ⟨ret_u8 (tab_at _ x _ (by kernel_rfl)), rfl⟩

/-! ### Operations on 32 bits -/
theorem b32_of (a : BitVec 32) : BitVec.ofInt 32 (a.toNat : Int) = a := by rw [BitVec.ofInt_natCast, BitVec.ofNat_toNat, BitVec.setWidth_eq]
theorem w32 (a : BitVec 32) : IntKind.u32.wrap (a.toNat : Int) = (a.toNat : Int) := by
  have := a.isLt
  rw [IntKind.wrap_u32]
  omega
theorem b32_or (a b : BitVec 32) : bits .or .u32 (a.toNat : Int) (b.toNat : Int) = ((a ||| b).toNat : Int) := by
  show IntKind.u32.wrap ((BitVec.ofInt 32 (a.toNat : Int) ||| BitVec.ofInt 32 (b.toNat : Int)).toNat : Int) = _
  rw [b32_of, b32_of, w32]
theorem b32_xor (a b : BitVec 32) : bits .xor .u32 (a.toNat : Int) (b.toNat : Int) = ((a ^^^ b).toNat : Int) := by
  show IntKind.u32.wrap ((BitVec.ofInt 32 (a.toNat : Int) ^^^ BitVec.ofInt 32 (b.toNat : Int)).toNat : Int) = _
  rw [b32_of, b32_of, w32]
theorem b32_and (a b : BitVec 32) : bits .and .u32 (a.toNat : Int) (b.toNat : Int) = ((a &&& b).toNat : Int) := by
  show IntKind.u32.wrap ((BitVec.ofInt 32 (a.toNat : Int) &&& BitVec.ofInt 32 (b.toNat : Int)).toNat : Int) = _
  rw [b32_of, b32_of, w32]
theorem b32_shr (a : BitVec 32) (k : Nat) : (a.toNat : Int) / ((2 ^ k : Nat) : Int) = ((a >>> k).toNat : Int) := by
  rw [BitVec.toNat_ushiftRight, Nat.shiftRight_eq_div_pow]
  simp
theorem b32_shl (a : BitVec 32) (k : Nat) : (a.toNat : Int) * ((2 ^ k : Nat) : Int) % 4294967296 = ((a <<< k).toNat : Int) := by
  rw [BitVec.toNat_shiftLeft, Nat.shiftLeft_eq]
  simp
theorem c8 (a : BitVec 32) : bits .or .u32 (bits .and .u32 ((a.toNat : Int) / 256) 16711935) (bits .and .u32 (a.toNat : Int) 16711935 * 256 % 4294967296) = ((sw8 a).toNat : Int) := by
  have h1 := b32_shr a 8
  have h2 := b32_and (a >>> 8) 0x00ff00ff#32
  have h3 := b32_and a 0x00ff00ff#32
  have h4 := b32_shl (a &&& 0x00ff00ff#32) 8
  have e : ((0x00ff00ff#32).toNat : Int) = 16711935 := by decide
  have e2 : ((2 ^ 8 : Nat) : Int) = 256 := by decide
  rw [e] at h2 h3
  rw [e2] at h1 h4
  rw [h1, h2, h3, h4, b32_or]
  rfl
theorem c4 (a : BitVec 32) : bits .or .u32 (bits .and .u32 ((a.toNat : Int) / 16) 252645135) (bits .and .u32 (a.toNat : Int) 252645135 * 16 % 4294967296) = ((sw4 a).toNat : Int) := by
  have h1 := b32_shr a 4
  have h2 := b32_and (a >>> 4) 0x0f0f0f0f#32
  have h3 := b32_and a 0x0f0f0f0f#32
  have h4 := b32_shl (a &&& 0x0f0f0f0f#32) 4
  have e : ((0x0f0f0f0f#32).toNat : Int) = 252645135 := by decide
  have e2 : ((2 ^ 4 : Nat) : Int) = 16 := by decide
  rw [e] at h2 h3
  rw [e2] at h1 h4
  rw [h1, h2, h3, h4, b32_or]
  rfl
theorem c2 (a : BitVec 32) : bits .or .u32 (bits .and .u32 ((a.toNat : Int) / 4) 858993459) (bits .and .u32 (a.toNat : Int) 858993459 * 4 % 4294967296) = ((sw2 a).toNat : Int) := by
  have h1 := b32_shr a 2
  have h2 := b32_and (a >>> 2) 0x33333333#32
  have h3 := b32_and a 0x33333333#32
  have h4 := b32_shl (a &&& 0x33333333#32) 2
  have e : ((0x33333333#32).toNat : Int) = 858993459 := by decide
  have e2 : ((2 ^ 2 : Nat) : Int) = 4 := by decide
  rw [e] at h2 h3
  rw [e2] at h1 h4
  rw [h1, h2, h3, h4, b32_or]
  rfl
theorem c1 (a : BitVec 32) : bits .or .u32 (bits .and .u32 ((a.toNat : Int) / 2) 1431655765) (bits .and .u32 (a.toNat : Int) 1431655765 * 2 % 4294967296) = ((sw1 a).toNat : Int) := by
  have h1 := b32_shr a 1
  have h2 := b32_and (a >>> 1) 0x55555555#32
  have h3 := b32_and a 0x55555555#32
  have h4 := b32_shl (a &&& 0x55555555#32) 1
  have e : ((0x55555555#32).toNat : Int) = 1431655765 := by decide
  have e2 : ((2 ^ 1 : Nat) : Int) = 2 := by decide
  rw [e] at h2 h3
  rw [e2] at h1 h4
  rw [h1, h2, h3, h4, b32_or]
  rfl
theorem c16 (a : BitVec 32) : bits .or .u32 ((a.toNat : Int) / 65536) ((a.toNat : Int) * 65536 % 4294967296) = ((sw16 a).toNat : Int) := by
  have h1 := b32_shr a 16
  have h4 := b32_shl a 16
  have e2 : ((2 ^ 16 : Nat) : Int) = 65536 := by decide
  rw [e2] at h1 h4
  rw [h1, h4, b32_or]
  rfl

set_option maxRecDepth 100000 in
set_option maxHeartbeats 1000000 in
theorem revbytes_c (w : World) (a : BitVec 32) : Calls Try.prog 182 #[.int .u32 a.toNat] w fun e w' => e = .returned (.int .u32 (sw16 (sw8 a)).toNat) ∧ w = w' := by
  have hx := a.isLt
  go_enter Try.func182, Try.ntmps182
  go_wp2_with fail
  go_ret
  refine ⟨ret_u32 ?_, rfl⟩
  rw [c8, c16]

set_option maxRecDepth 100000 in
set_option maxHeartbeats 1000000 in
theorem rev32_c (w : World) (a : BitVec 32) : Calls Try.prog 167 #[.int .u32 a.toNat] w fun e w' => e = .returned (.int .u32 a.reverse.toNat) ∧ w = w' := by
  have hx := a.isLt
  have E := hid (sw_reverse a)
  go_enter Try.func167, Try.ntmps167
  go_wp2_with fail
  rw [c1, c2, c4]
  refine (revbytes_c _ _).mono ?_
  rintro e w1 ⟨rfl, rfl⟩
  go_wp2_with fail
  go_ret
  rw [E.out]
  exact ⟨rfl, rfl⟩
end Go.Proofs.Ytlhlljjchggnjaa
