/- Bytes in a row, made a text. -/
import Derived.Test.YtmnojbkakgfinaaDoorK1
open Go PG Go.Proofs
set_option maxRecDepth 100000
set_option linter.unusedSimpArgs false
set_option linter.unusedVariables false
namespace Go.Proofs.YtmnojbkakgfinaaDoor

def BL (l : List UInt8) : List PV := l.map fun c => .int .u8 (c.toNat : Nat)
theorem BL_length (l : List UInt8) : (BL l).length = l.length := by simp [BL]
theorem BL_bytes (l : List UInt8) : allSome ((BL l).map PG.byteOf) = some l := by
  induction l with
  | nil => rfl
  | cons c l ih =>
    show allSome (PG.byteOf (.int .u8 (c.toNat : Nat)) :: (BL l).map PG.byteOf) = _
    have e : PG.byteOf (.int .u8 ((c.toNat : Nat) : Int)) = some c := by
      show some (UInt8.ofNat ((c.toNat : Nat) : Int).toNat) = some c
      rw [Int.toNat_natCast, UInt8.ofNat_toNat]
    rw [e]
    simp only [allSome, ih]
theorem bconv_BL {P : Program} {e d : TypeId} {l : List UInt8} {n : Nat} (he : lk P e = .int .u8) (hd : lk P d = .str) (hn : l.length = n) : bconv P e d n (BL l) = some (TX l) := by
  unfold bconv
  rw [he, hd]
  simp only
  rw [if_pos (by rw [BL_length, hn]), BL_bytes]
  rfl
end Go.Proofs.YtmnojbkakgfinaaDoor
