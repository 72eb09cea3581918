/- Plain models of the number of points; the table of all levels. No program here. -/
import Derived.Test.YtcgiancmponmgaaPjC
namespace Go.Proofs.Ytcgiancmponmgaa

def unN (n : Nat) : Nat → List Nat
  | 0 => []
  | k + 1 => if Nat.gcd (k + 1) n = 1 then (k + 1) :: unN n k else unN n k
def okRow (us : List Nat) (n u : Nat) : Bool := us.all (fun s => Nat.ble u (s * u % n))
def stab (us : List Nat) (n u : Nat) : List Nat := us.filter (fun s => Nat.beq (s * u % n) u)
def okV (st : List Nat) (n u v : Nat) : Bool := Nat.beq (Nat.gcd (Nat.gcd u v) n) 1 && st.all (fun s => Nat.ble v (s * v % n))
def cR (st : List Nat) (n u : Nat) : Nat → Nat
  | 0 => 0
  | v + 1 => cR st n u v + bif okV st n u v then 1 else 0
def cC (us : List Nat) (n : Nat) : Nat → Nat
  | 0 => 0
  | u + 1 => cC us n u + bif okRow us n u then cR (stab us n u) n u n else 0
/-- The reference's count: its inner loop, then the outer one. -/
def prL (p : Nat) : Nat → Nat → Bool → Bool
  | 0, _, b => b
  | f + 1, q, b => bif Nat.blt q p then prL p f (q + 1) (b && !(Nat.beq (p % q) 0)) else b
def psL (n : Nat) : Nat → Nat → Nat → Nat
  | 0, _, out => out
  | f + 1, p, out => bif Nat.ble p n then psL n f (p + 1) (bif prL p 130 2 true && Nat.beq (n % p) 0 then out / p * (p + 1) else out) else out
def psOk (n : Nat) : Nat → Nat → Nat → Bool
  | 0, p, _ => Nat.blt n p
  | f + 1, p, out => bif Nat.ble p n then Nat.ble out 1000 && psOk n f (p + 1) (bif prL p 130 2 true && Nat.beq (n % p) 0 then out / p * (p + 1) else out) else true
/-- The program's count: division by a prime, the power, the loop of factors. -/
def dvL (p : Nat) : Nat → Nat → Nat → Nat × Nat
  | 0, n, e => (n, e)
  | f + 1, n, e => bif Nat.beq (n % p) 0 then dvL p f (n / p) (e + 1) else (n, e)
def dvOk (p : Nat) : Nat → Nat → Nat → Bool
  | 0, n, _ => !(Nat.beq (n % p) 0)
  | f + 1, n, e => bif Nat.beq (n % p) 0 then Nat.ble n 1000 && Nat.ble e 100 && dvOk p f (n / p) (e + 1) else true
def pwL (p : Nat) : Nat → Nat → Nat
  | 0, o => o
  | f + 1, o => pwL p f (o * p)
def pwOk (p : Nat) : Nat → Nat → Bool
  | 0, _ => true
  | f + 1, o => Nat.ble o 1000000 && pwOk p f (o * p)
def ofN (p e : Nat) : Nat := pwL p (e - 1) 1 * (p + 1)
def pN (n p : Nat) : Nat := bif Nat.blt n (p * p) then n else p
def fcL : Nat → Nat → Nat → Nat → Nat
  | 0, _, _, out => out
  | f + 1, n, p, out => bif Nat.blt 1 n then fcL f (dvL (pN n p) 10 n 0).1 (pN n p + 1) (bif Nat.blt 0 (dvL (pN n p) 10 n 0).2 then out * ofN (pN n p) (dvL (pN n p) 10 n 0).2 else out) else out
def fcOk : Nat → Nat → Nat → Nat → Bool
  | 0, n, _, _ => !(Nat.blt 1 n)
  | f + 1, n, p, out => bif Nat.blt 1 n then Nat.ble 2 p && Nat.ble p 1000 && Nat.ble n 1000 && Nat.ble out 1000000 && Nat.ble 2 (pN n p) && dvOk (pN n p) 10 n 0 && Nat.ble (dvL (pN n p) 10 n 0).2 100 && pwOk (pN n p) ((dvL (pN n p) 10 n 0).2 - 1) 1 && Nat.ble (pwL (pN n p) ((dvL (pN n p) 10 n 0).2 - 1) 1) 1000000 && Nat.ble (ofN (pN n p) (dvL (pN n p) 10 n 0).2) 1000000 &&
      fcOk f (dvL (pN n p) 10 n 0).1 (pN n p + 1) (bif Nat.blt 0 (dvL (pN n p) 10 n 0).2 then out * ofN (pN n p) (dvL (pN n p) 10 n 0).2 else out) else true
def tabB (n : Nat) : Bool := psOk n 130 2 n && fcOk 30 n 2 1 && Nat.beq (fcL 30 n 2 1) (psL n 130 2 n) && Nat.beq (cC (unN n n) n n) (psL n 130 2 n)
theorem tab1 : ∀ n, n < 121 → 1 ≤ n → tabB n = true := by decide +kernel
theorem tab (n : Nat) (h1 : 1 ≤ n) (h2 : n ≤ 120) : tabB n = true := tab1 n (by omega) h1
end Go.Proofs.Ytcgiancmponmgaa
