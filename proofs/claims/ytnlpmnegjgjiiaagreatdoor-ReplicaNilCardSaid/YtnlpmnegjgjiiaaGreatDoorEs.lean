/- Sums in the kernel's own numbers: what the contracts of sha and mac say. -/
import Derived.Test.YtnlpmnegjgjiiaaGreatDoorEa
namespace Go.CE
open Go
set_option linter.all false
noncomputable def m32 (x : Nat) : Nat := Nat.mod x 4294967296
noncomputable def rotr (n x : Nat) : Nat := Nat.lor (Nat.shiftRight x n) (m32 (Nat.shiftLeft x (Nat.sub 32 n)))
noncomputable def nd (l : List Nat) (k : Nat) : Nat := oe (nth l k) 0 fun x => x
noncomputable def xor3 (a b c : Nat) : Nat := Nat.xor (Nat.xor a b) c
noncomputable def sig0 (x : Nat) : Nat := xor3 (rotr 7 x) (rotr 18 x) (Nat.shiftRight x 3)
noncomputable def sig1 (x : Nat) : Nat := xor3 (rotr 17 x) (rotr 19 x) (Nat.shiftRight x 10)
/-- The next word; newest first. -/
noncomputable def wNext (l : List Nat) : Nat := m32 (Nat.add (Nat.add (nd l 15) (nd l 6)) (Nat.add (sig0 (nd l 14)) (sig1 (nd l 1))))
noncomputable def wAll (n : Nat) (l : List Nat) : List Nat := Nat.rec (fun l => l) (fun _ g l => g (wNext l :: l)) n l
noncomputable def rv (l : List Nat) : List Nat := List.rec (motive := fun _ => List Nat → List Nat) (fun r => r) (fun h _ g r => g (h :: r)) l []
def shaK : List Nat := [1116352408, 1899447441, 3049323471, 3921009573, 961987163, 1508970993, 2453635748, 2870763221, 3624381080, 310598401, 607225278, 1426881987, 1925078388, 2162078206, 2614888103, 3248222580, 3835390401, 4022224774, 264347078, 604807628, 770255983, 1249150122, 1555081692, 1996064986, 2554220882, 2821834349, 2952996808, 3210313671, 3336571891, 3584528711, 113926993, 338241895, 666307205, 773529912, 1294757372, 1396182291, 1695183700, 1986661051, 2177026350, 2456956037, 2730485921, 2820302411, 3259730800, 3345764771, 3516065817, 3600352804, 4094571909, 275423344, 430227734, 506948616, 659060556, 883997877, 958139571, 1322822218, 1537002063, 1747873779, 1955562222, 2024104815, 2227730452, 2361852424, 2428436474, 2756734187, 3204031479, 3329325298]
def shaB : List Nat := [1779033703, 3144134277, 1013904242, 2773480762, 1359893119, 2600822924, 528734635, 1541459225]
abbrev Rnd := Nat → Nat → Nat → Nat → Nat → Nat → Nat → Nat → List Nat
noncomputable def one1 (k x e f g h : Nat) : Nat := Nat.add (Nat.add (Nat.add h (xor3 (rotr 6 e) (rotr 11 e) (rotr 25 e))) (Nat.xor g (Nat.land e (Nat.xor f g)))) (Nat.add k x)
noncomputable def two1 (a b c : Nat) : Nat := Nat.add (xor3 (rotr 2 a) (rotr 13 a) (rotr 22 a)) (Nat.lor (Nat.land a b) (Nat.land c (Nat.lor a b)))
noncomputable def rounds (ks : List Nat) : List Nat → Rnd := List.rec (motive := fun _ => List Nat → Rnd) (fun _ a b c d e f g h => [a, b, c, d, e, f, g, h])
  (fun k _ r ws a b c d e f g h => r (drp 1 ws) (m32 (Nat.add (one1 k (nd ws 0) e f g h) (two1 a b c))) a b c (m32 (Nat.add d (one1 k (nd ws 0) e f g h))) e f g) ks
noncomputable def add2L (a : List Nat) : List Nat → List Nat := List.rec (motive := fun _ => List Nat → List Nat) (fun _ => []) (fun h _ g b => m32 (Nat.add h (nd b 0)) :: g (drp 1 b)) a
/-- The words behind a block. -/
noncomputable def blkN (s ws : List Nat) : List Nat := add2L s (rounds shaK (rv (wAll 48 (rv ws))) (nd s 0) (nd s 1) (nd s 2) (nd s 3) (nd s 4) (nd s 5) (nd s 6) (nd s 7))
noncomputable def w4 (l : List Nat) : Nat := Nat.add (Nat.mul (Nat.add (Nat.mul (Nat.add (Nat.mul (nd l 0) 256) (nd l 1)) 256) (nd l 2)) 256) (nd l 3)
noncomputable def wordsN (n : Nat) (l : List Nat) : List Nat := Nat.rec (motive := fun _ => List Nat → List Nat) (fun _ => []) (fun _ g l => w4 l :: g (drp 4 l)) n l
/-- n blocks. -/
noncomputable def sumN (n : Nat) (s l : List Nat) : List Nat := Nat.rec (motive := fun _ => List Nat → List Nat → List Nat) (fun s _ => s) (fun _ g s l => g (blkN s (wordsN 16 l)) (drp 64 l)) n s l
noncomputable def b4 (w : Nat) (l : List Nat) : List Nat := Nat.shiftRight w 24 :: Nat.mod (Nat.shiftRight w 16) 256 :: Nat.mod (Nat.shiftRight w 8) 256 :: Nat.mod w 256 :: l
noncomputable def outN (s : List Nat) : List Nat := List.rec [] (fun w _ g => b4 w g) s
noncomputable def repN (n : Nat) (l : List Nat) : List Nat := Nat.rec l (fun _ g => 0 :: g) n
/-- What fills up n bytes. -/
noncomputable def padN (n : Nat) : List Nat := 128 :: repN (Nat.mod (Nat.sub 119 (Nat.mod n 64)) 64) (b4 (Nat.shiftRight n 29) (b4 (m32 (Nat.mul n 8)) []))
noncomputable def shaN (l : List Nat) : List Nat := outN (sumN (Nat.div (Nat.add (len l) 72) 64) shaB (app l (padN (len l))))
noncomputable def xorL (w : Nat) (l : List Nat) : List Nat := mp (fun b => Nat.xor b w) l
/-! The contracts' answers. -/
noncomputable def byteVs (l : List V) : Option (List Nat) := mpo byteOf l
noncomputable def srcB (x : V) (M : Mem) : Option (List Nat) := cond (isLn x) (some []) (ob (slcOf x) fun s => cond (Nat.beq s.z 1) (cond (Nat.ble s.n 1000000000) (ob (cellsAt M s.r s.o s.n) byteVs) none) none)
noncomputable def byteS (b : Nat) : Option V := Nat.rec (some (.i .u8 (.ofNat 0))) (fun m _ => some (.i .u8 (.ofNat (Nat.succ m)))) b
noncomputable def digO (l : List Nat) : Option (List V) := mpo byteS l
noncomputable def eSum (as : List V) (M : Mem) : Cr := oe (ob (ob (nth as 0) fun x => cond (Nat.beq (len as) 1) (srcB x M) none) fun l => digO (shaN l)) (.bad [("sha.Sum", 0)]) fun l => .ok (.a l) M
noncomputable def eRound (as : List V) (M : Mem) : Cr := oe (ob (ob (nth as 0) fun b => ob (aggOf b) fun b => ob (byteVs b) fun b => ob (nth as 1) fun w => ob (byteOf w) fun w => ob (nth as 2) fun x => ob (srcB x M) fun t => cond (Nat.beq (len as) 3) (cond (Nat.beq (len b) 64) (some (app (xorL w b) t)) none) none) fun l => digO (shaN l)) (.bad [("mac.round", 0)]) fun l => .ok (.a l) M
noncomputable def wordOf (v : V) : Option Nat := ob (intOf v) fun q => cond (Nat.beq (knum q.1) 6) (ob (natI q.2) fun n => cond (Nat.blt n 4294967296) (some n) none) none
noncomputable def wordS (b : Nat) : Option V := Nat.rec (some (.i .u32 (.ofNat 0))) (fun m _ => some (.i .u32 (.ofNat (Nat.succ m)))) b
noncomputable def eBlock (as : List V) (M : Mem) : Cr := oe (ob (ob (nth as 0) fun a => ob (aggOf a) fun a => ob (mpo wordOf a) fun s => ob (nth as 1) fun x => ob (srcB x M) fun b => cond (Nat.beq (len as) 2) (cond (Nat.beq (len s) 8) (cond (Nat.beq (len b) 64) (some (blkN s (wordsN 16 b))) none) none) none) fun l => mpo wordS l) (.bad [("sha.Block", 0)]) fun l => .ok (.t [.a l, .i .i64 (.ofNat 0)]) M
end Go.CE
