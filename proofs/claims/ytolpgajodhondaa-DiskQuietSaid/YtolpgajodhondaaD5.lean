/- A slice of bytes, once more: the library's contract is laid in the text on the library; here it is at hand with the disk's words. -/
import Derived.Test.YtolpgajodhondaaD4
import Derived.Test.YtolpgajodhondaaShelf
