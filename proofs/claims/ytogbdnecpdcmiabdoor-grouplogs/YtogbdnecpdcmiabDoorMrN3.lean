/- Rows of the search for three primes. -/
import Derived.Test.YtogbdnecpdcmiabDoorMrE
/- The primes below 32,768 of the class 1, with the great q of the same signature: made by a program (genN.py). -/
set_option maxRecDepth 100000
namespace Go.Proofs.YtogbdnecpdcmiabDoor.Mr
theorem rp1_0 : rowP 1 5 sp1 sg1 ze1 0 8 = true := by decide +kernel
theorem rp1_8 : rowP 1 5 sp1 sg1 ze1 8 16 = true := by decide +kernel
theorem rp1_16 : rowP 1 5 sp1 sg1 ze1 16 32 = true := by decide +kernel
theorem rp1_32 : rowP 1 5 sp1 sg1 ze1 32 64 = true := by decide +kernel
theorem rp1_64 : rowP 1 5 sp1 sg1 ze1 64 128 = true := by decide +kernel
theorem rp1_128 : rowP 1 5 sp1 sg1 ze1 128 256 = true := by decide +kernel
theorem rp1_256 : rowP 1 5 sp1 sg1 ze1 256 512 = true := by decide +kernel
theorem rp1_512 : rowP 1 5 sp1 sg1 ze1 512 1024 = true := by decide +kernel
theorem rp1_1024 : rowP 1 5 sp1 sg1 ze1 1024 2048 = true := by decide +kernel
theorem rp1_2048 : rowP 1 5 sp1 sg1 ze1 2048 4096 = true := by decide +kernel
theorem chkB1 : ∀ t, t < 4096 → Pm (1 + 8 * t) → 41 ≤ 1 + 8 * t → ChkB 1 (1 + 8 * t) := by
  intro t ht hp h41
  have h : (0 ≤ t ∧ t < 8) ∨ (8 ≤ t ∧ t < 16) ∨ (16 ≤ t ∧ t < 32) ∨ (32 ≤ t ∧ t < 64) ∨ (64 ≤ t ∧ t < 128) ∨ (128 ≤ t ∧ t < 256) ∨ (256 ≤ t ∧ t < 512) ∨ (512 ≤ t ∧ t < 1024) ∨ (1024 ≤ t ∧ t < 2048) ∨ (2048 ≤ t ∧ t < 4096) := by omega
  rcases h with h | h | h | h | h | h | h | h | h | h
  · exact rowP_sound (by decide) sg1_ok ze1_ok (by decide) rp1_0 t h.1 h.2 hp h41
  · exact rowP_sound (by decide) sg1_ok ze1_ok (by decide) rp1_8 t h.1 h.2 hp h41
  · exact rowP_sound (by decide) sg1_ok ze1_ok (by decide) rp1_16 t h.1 h.2 hp h41
  · exact rowP_sound (by decide) sg1_ok ze1_ok (by decide) rp1_32 t h.1 h.2 hp h41
  · exact rowP_sound (by decide) sg1_ok ze1_ok (by decide) rp1_64 t h.1 h.2 hp h41
  · exact rowP_sound (by decide) sg1_ok ze1_ok (by decide) rp1_128 t h.1 h.2 hp h41
  · exact rowP_sound (by decide) sg1_ok ze1_ok (by decide) rp1_256 t h.1 h.2 hp h41
  · exact rowP_sound (by decide) sg1_ok ze1_ok (by decide) rp1_512 t h.1 h.2 hp h41
  · exact rowP_sound (by decide) sg1_ok ze1_ok (by decide) rp1_1024 t h.1 h.2 hp h41
  · exact rowP_sound (by decide) sg1_ok ze1_ok (by decide) rp1_2048 t h.1 h.2 hp h41
end Go.Proofs.YtogbdnecpdcmiabDoor.Mr
