/- Line and column of an offset (lineCol), walked. Condition: the text is a valid one, the offset lies in it. -/
import Derived.Test.YtnomidpnofhjdaaGreatDoorPs2
namespace Go.Proofs.YtnomidpnofhjdaaGreatDoor
open Go.RowKit Go.Proofs.YtnomidpnofhjdaaGreatDoorW.PrintWords Go.Proofs.YtnomidpnofhjdaaGreatDoorW.PrintLast Go.Proofs.YtnomidpnofhjdaaGreatDoorW.PrintMore Er
def nlAt : List Int → Int → Int → Option Int
 | [], _, _ => none
 | x :: L, n, i => if x = 10 then (if n - 1 = 0 then some (i + 1) else nlAt L (n - 1) (i + 1)) else nlAt L n (i + 1)
def ptext (T : List Int) (x : Pc) : List Int := (T.take (x.off + x.len).toNat).drop x.off.toNat
def InStore (T : List Int) (x : Pc) : Prop := 0 ≤ x.off ∧ 1 ≤ x.len ∧ x.len ≤ 8192 ∧ x.off + x.len ≤ (T.length : Int)
structure StartAt (w5 : World) (L : List Int) (R : Option Int) (k : Nat) (v6 v30 : Value) (wr : World) : Prop where
 st : ∃ nn ii : Int, v6 = .int .i64 nn ∧ v30 = .int .i64 ii ∧ 0 ≤ ii ∧ ii + k = (L.length : Int) ∧ -ii ≤ nn ∧ nn ≤ 1000000 ∧ nlAt (L.drop ii.toNat) nn ii = R
 bel : TSt w5 wr
end Go.Proofs.YtnomidpnofhjdaaGreatDoor
namespace Go.Proofs.YtnomidpnofhjdaaGreatDoor
open Go.RowKit Go.Proofs.YtnomidpnofhjdaaGreatDoorW.PrintWords Go.Proofs.YtnomidpnofhjdaaGreatDoorW.PrintLast Go.Proofs.YtnomidpnofhjdaaGreatDoorW.PrintMore Er
structure SrchAt (w : World) (F : Int → Bool) (n : Int) (k : Nat) (v5 v6 : Value) (wr : World) : Prop where
 st : ∃ i j : Int, v5 = .int .i64 i ∧ v6 = .int .i64 j ∧ 0 ≤ i ∧ i ≤ j ∧ j ≤ n ∧ j - i ≤ (k : Int) ∧ (i = 0 ∨ F (i - 1) = false) ∧ (j = n ∨ F j = true)
 bel : TSt w wr
end Go.Proofs.YtnomidpnofhjdaaGreatDoor
namespace Go.Proofs.YtnomidpnofhjdaaGreatDoor
open Go.RowKit Go.Proofs.YtnomidpnofhjdaaGreatDoorW.PrintWords Go.Proofs.YtnomidpnofhjdaaGreatDoorW.PrintLast Go.Proofs.YtnomidpnofhjdaaGreatDoorW.PrintMore Er
structure TxtOk (T : List Int) (t : Tree) : Prop where
 allp : AllP t
 sum : rl t ≤ 8192
 len : T.length ≤ 1000000
 ins : ∀ x ∈ TP.toL t, InStore T x
 brk : ∀ x ∈ TP.toL t, x.brk = nl (ptext T x)
theorem allP_key (t : Tree) : AllP t → (TP.cnt t : Int) ≤ rl t ∧ 0 ≤ kl t ∧ kl t ≤ rl t := by
 induction t with
 | nil => intro _; simp [TP.cnt, rl, kl]
 | node l v r ihl ihr =>
  intro h
  have h1 := ihl (fun x hx => h x (by simp [TP.toL, hx]))
  have h2 := ihr (fun x hx => h x (by simp [TP.toL, hx]))
  have h3 := h v (by simp [TP.toL])
  simp only [TP.cnt, rl, kl]; omega
theorem TxtOk.fine {T : List Int} {t : Tree} (h : TxtOk T t) : Fine t := Fine_of t h.allp h.sum
structure LC (w : World) (g2 g3 b : Nat) (off : Int) (T : List Int) (t : Tree) (S : List Nat) : Prop where
 c2 : w.cell? ⟨g2, 0, none⟩ = some (.pointer (some ⟨b, 0, none⟩))
 c3 : w.cell? ⟨g3, 0, none⟩ = some (.int .i64 off)
 pb : PB w b T t S
end Go.Proofs.YtnomidpnofhjdaaGreatDoor
