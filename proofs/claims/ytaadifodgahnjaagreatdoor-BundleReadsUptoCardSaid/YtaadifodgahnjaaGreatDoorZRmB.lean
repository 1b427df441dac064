/- The reference: the number with which bytes begin. codec: the number with which what is left begins. Readers: an error; numbers. Readers: numbers,the reference's. Readers: texts. -/
import Derived.Test.YtaadifodgahnjaaGreatDoorZRmA
namespace Go.Proofs.YtaadifodgahnjaaGreatDoor
open Go.RowKit Go.IntWalk
end Go.Proofs.YtaadifodgahnjaaGreatDoor
namespace Go.Proofs.YtaadifodgahnjaaGreatDoor
open Go.RowKit Go.IntWalk
end Go.Proofs.YtaadifodgahnjaaGreatDoor
namespace Go.Proofs.YtaadifodgahnjaaGreatDoor
open Go.RowKit Go.IntWalk
end Go.Proofs.YtaadifodgahnjaaGreatDoor
namespace Go.Proofs.YtaadifodgahnjaaGreatDoor
open Go.RowKit Go.IntWalk
end Go.Proofs.YtaadifodgahnjaaGreatDoor
namespace Go.Proofs.YtaadifodgahnjaaGreatDoor
open Go.RowKit Go.IntWalk
def F_CloneS : List AV → Option AV
 | [.str s] => if s.length ≤ 281474976710656 then some (.str s) else none
 | _ => none
section
variable {G : Gam} {st : Bool} {h : Heap}
theorem slc_lo {s : Bs} {k : Nat} {m : Int} (hm : m = k) (hi : k ≤ s.length) : opV G st h (.slc none true false false) (some [.str s,.int .i64 m]) = some (.str (s.drop k),h) := by
 subst hm
 rw [opV_quiet rfl]
 have h1 : (k : Int) ≤ (s.length : Int) := by omega
 simp [evalPure,slcArgs,slc1,slcAV,slcStr,h1]
theorem slc_both {s : Bs} {a b : Nat} {m n : Int} (hm : m = a) (hn : n = b) (hab : a ≤ b) (hi : b ≤ s.length) : opV G st h (.slc none true true false) (some [.str s,.int .i64 m,.int .i64 n]) = some (.str ((s.take b).drop a),h) := by
 subst hm hn
 rw [opV_quiet rfl]
 have h1 : (a : Int) ≤ (b : Int) := by omega
 have h2 : (b : Int) ≤ (s.length : Int) := by omega
 simp [evalPure,slcArgs,slc1,slcAV,slcStr,h1,h2]
end
end Go.Proofs.YtaadifodgahnjaaGreatDoor
